/-
  Part 14 of a proof: DotZ HsA.
  Conditions: each theorem states its own.
-/
import Derived.Test.YtkkjppeaaicgaaaHsEPM13
section
namespace Go.Proofs.Ytkkjppeaaicgaaa
open Go Go.Ck
set_option maxRecDepth 100000
set_option maxHeartbeats 2000000
set_option linter.unusedVariables false

def fixU (u : List Int) (L : List Dt) (k : Nat) : Prop := ∀ j (hj : j < L.length), j < k → L[j].2 ≠ uD u L[j] + 1

theorem spl_dot' {l : List Dt} {j o : Nat} {x : Dt} (ho : o = j * 2) (hj : j < l.length) : spl (l.flatMap dcs) o (Value.agg (dcs x).toArray).cells.toList = (l.set j x).flatMap dcs := by
  subst ho
  exact spl_dot hj

theorem refMake_sp (u0 : List Int) (mv : Value) (Lm : List Dt) (h : View) (hu : u0.length = 16) (hub : ∀ x ∈ u0, 0 ≤ x ∧ x ≤ 1099511627776) (hs : Ds h mv Lm) (hr : ∀ d ∈ Lm, rightB d = true) (hlen : Lm.length ≤ 1000000) (w : World) (s : St ⟨w, h, []⟩ h [] w) :
    Calls Try.prog 70 [.agg (up u0).toArray, mv].toArray w fun e w' => ∃ x : View × Value × Int × (List Int × List Dt), e = .returned (.tuple #[x.2.1, .int .i64 x.2.2.1]) ∧ St ⟨w, h, []⟩ x.1 [] w' ∧
      Inv x.2.2.2.1 x.2.2.2.2 ∧ (∀ y, rightB y = true → hasC x.2.2.2.1 x.2.2.2.2 y = (hasC u0 [] y || decide (y ∈ Lm))) ∧
      (if 32 < x.2.2.2.2.length then x.2.2.1 = 11 ∧ Cx x.1 x.2.1 zeroU [] else x.2.2.1 = 0 ∧ Cx x.1 x.2.1 x.2.2.2.1 x.2.2.2.2) := by
  obtain ⟨_, ad, cap, rfl, _, _⟩ := id hs
  refine calls_enter Try.func70 rfl Try.ntmps70 rfl s ?_
  have hfu : fillL (fun i : Nat => ([(0, 16), (16, 1)] : List (Nat × Nat))[i]?) (up zeroU ++ [.slice none 0 0]) [(0, .agg (up u0).toArray)] = some (cxc u0 (.slice none 0 0)) := by
    obtain ⟨a0, a1, a2, a3, a4, a5, a6, a7, a8, a9, a10, a11, a12, a13, a14, a15, rfl⟩ := list16 u0 hu
    rfl
  repeat' (first | (refine ycf ?_; apply ybk; (· first | (first | (apply yad (vs := up u0); (· rfl); (· exact yaz 1 rfl); (· simp [up, hu])) | (apply yax (cs := cxc u0 (.slice none 0 0)); (· rfl); (· exact hfu)))); (· rfl); (· rfl)) | (refine ybg 0 rfl rfl rfl (cxc_sz hu) (cxc_fit hu) (cxc_one rfl) (ybh (cxc_all hu)) rfl rfl ?_ ?_ ?_; (· (exact to_)); (· (exact to_))) | refine t1_ ?_ | (refine ta_ ?_; intro _) | ((fail_if_success (refine ybi rfl ?_)); refine ybj rfl ?_ ?_ <;> (intro ht; rw [ht]; first | replace ht := of_decide_eq_true ht | replace ht := of_decide_eq_false ht | skip)) | (refine ych ?_; first | (refine ybw rfl ?_ ?_ <;> intro ht) | (refine ybx rfl ?_ ?_ <;> intro ht)))
  rename_i b2 b4 b6
  refine cx_loop (X := List Int × Bool) (fun y => [(1, .slice ad Lm.length cap), (2, .pointer (some ⟨b2, 0, none⟩)), (4, .pointer (some ⟨b4, 0, none⟩)), (5, .int .i64 0), (6, .pointer (some ⟨b6, 0, none⟩)), (7, .bool y.2)]) (fun _ => h)
    (fun y => [Res.blk b6 (.cells (cxc y.1 (.slice none 0 0)).toArray 69 (0, 0)), Res.blk b4 (.cells (cxc zeroU (.slice none 0 0)).toArray 69 (0, 0)), Res.blk b2 (.cells (up u0).toArray 30 (0, 0))])
    (fun y => MkI u0 Lm y.1 ∧ (y.2 = false → fixU y.1 Lm Lm.length)) (fun y => 2 * (17592186044416 - y.1.sum).toNat + (if y.2 then 1 else 0)) (u0, true) ⟨⟨hu, hub, fun x _ => Int.le_refl _, fun x _ hx => .inl hx⟩, fun hx => by cases hx⟩ ts_ (fun _ s => s) ?_
  rintro ⟨u, fl⟩ ⟨hI, hF⟩
  dsimp only at hI hF ⊢
  have hul := hI.len
  cases fl with
  | true =>
    repeat' (first | (refine ycf ?_; apply ybk; (· first | (first | (apply yad (vs := up u0); (· rfl); (· exact yaz 1 rfl); (· simp [up, hu])) | (apply yax (cs := cxc u0 (.slice none 0 0)); (· rfl); (· exact hfu)))); (· rfl); (· rfl)) | (refine ybg 0 rfl rfl rfl (cxc_sz hu) (cxc_fit hu) (cxc_one rfl) (ybh (cxc_all hu)) rfl rfl ?_ ?_ ?_; (· (exact to_)); (· (exact to_))) | refine t1_ ?_ | (refine ta_ ?_; intro _) | ((fail_if_success (refine ybi rfl ?_)); refine ybj rfl ?_ ?_ <;> (intro ht; rw [ht]; first | replace ht := of_decide_eq_true ht | replace ht := of_decide_eq_false ht | skip)) | (refine ych ?_; first | (refine ybw rfl ?_ ?_ <;> intro ht) | (refine ybx rfl ?_ ?_ <;> intro ht)))
    refine cx_loop (X := Nat × List Int × Bool) (fun y => [(1, .slice ad Lm.length cap), (2, .pointer (some ⟨b2, 0, none⟩)), (4, .pointer (some ⟨b4, 0, none⟩)), (5, .int .i64 0), (6, .pointer (some ⟨b6, 0, none⟩)), (7, .bool y.2.2), (8, .int .i64 y.1)]) (fun _ => h)
      (fun y => [Res.blk b6 (.cells (cxc y.2.1 (.slice none 0 0)).toArray 69 (0, 0)), Res.blk b4 (.cells (cxc zeroU (.slice none 0 0)).toArray 69 (0, 0)), Res.blk b2 (.cells (up u0).toArray 30 (0, 0))])
      (fun y => y.1 ≤ Lm.length ∧ MkI u0 Lm y.2.1 ∧ (y.2.2 = false → y.2.1 = u ∧ fixU u Lm y.1) ∧ (y.2.2 = true → u.sum < y.2.1.sum)) (fun y => Lm.length - y.1) (0, u, false) ⟨Nat.zero_le _, hI, fun _ => ⟨rfl, fun j hj h0 => by omega⟩, fun hx => by cases hx⟩ ts_ (fun _ s => s) ?_
    rintro ⟨k, u', c⟩ ⟨hk, hI', hF', hT'⟩
    dsimp only at hk hI' hF' hT' ⊢
    have hul' := hI'.len
    by_cases hkl : k < Lm.length
    · obtain ⟨bs, o, rfl⟩ := hs.ad (by omega) (by omega)
      have hel : ∀ L, Cells h L ⟨bs, o + k * 2, none⟩ (dcs Lm[k]) := fun L => hs.elem dcs_len k hkl
      have hc0 : ∀ L, CellAt h L bs (o + (k : Int).toNat * 2 + 0) (.int .i64 Lm[k].1) := fun L => (hel L).cell (j := 0) rfl
      have hc1 : ∀ L, CellAt h L bs (o + (k : Int).toNat * 2 + 1) (.int .i64 Lm[k].2) := fun L => (hel L).cell (j := 1) rfl
      have hdm : Lm[k] ∈ Lm := List.getElem_mem hkl
      have hdr := hr _ hdm
      have hd4 := right_of hdr
      have hb := hI'.bd (u'.getD (Lm[k].1 - 1).toNat 0) (getD_mem (by omega))
      repeat' (first|(refine ycf ?_;apply ybk;(·first|(first|(apply yad (vs := up u0);(·rfl);(·exact yaz 1 rfl);(·simp [up, hu]))|(apply yax (cs := cxc u0 (.slice none 0 0));(·rfl);(·exact hfu)))|(apply yae;(·rfl);(·(first|exact hc0 _|exact hc1 _|exact ycl (yaz 0 rfl) (Lm[k].1 - 1).toNat (by omega) (by omega)))));(·rfl);(·rfl))|(refine ybg 0 rfl rfl rfl rfl (fit_cxc (i := (Lm[k].1 - 1).toNat) hul' (by omega) (by omega)) rfl (spl_cxc (i := (Lm[k].1 - 1).toNat) (by omega) (by omega)) rfl rfl ?_ ?_ ?_;(·(exact to_));(·(exact to_)))|refine t1_ ?_|(refine ta_ ?_;intro _)|((fail_if_success (refine ybi rfl ?_));refine ybj rfl ?_ ?_<;>(intro ht;rw [ht];first|replace ht := of_decide_eq_true ht|replace ht := of_decide_eq_false ht|skip))|(refine ych ?_;first|(refine ybw rfl ?_ ?_<;>intro ht)|(refine ybx rfl ?_ ?_<;>intro ht)))
      · refine cx_region_draw' rfl (by kernel_rfl) ?_
        repeat' (refine ycf ?_;(first|(first|(apply ybm;(·(first|(first|(apply yad (vs := up u0);(·rfl);(·exact yaz 1 rfl);(·simp [up, hu]))|(apply yax (cs := cxc u0 (.slice none 0 0));(·rfl);(·exact hfu)))|(apply yae;(·rfl);(·(first|exact hc0 _|exact hc1 _|exact ycl (yaz 0 rfl) (Lm[k].1 - 1).toNat (by omega) (by omega))))|exact tq_));(·rfl);(·rfl);(·(exact th_)))|refine ybl rfl rfl ?_|((fail_if_success (refine ybi rfl ?_));refine ybj rfl ?_ ?_<;>(intro ht;rw [ht];first|replace ht := of_decide_eq_true ht|replace ht := of_decide_eq_false ht|skip))|(refine tb_ ?_ ?_ ?_;(·(exact to_));(·intro _;(exact to_));intro _)|(first|(refine ybg 0 rfl rfl rfl rfl (fit_cxc (i := (Lm[k].1 - 1).toNat) hul' (by omega) (by omega)) rfl (spl_cxc (i := (Lm[k].1 - 1).toNat) (by omega) (by omega)) rfl rfl ?_ ?_ ?_;(·(exact to_));(·(exact to_)))|(refine tqs_ ?_ ?_ ?_;(·(exact to_));(·(exact to_))))|(apply ybn;(·(first|(first|(apply yad (vs := up u0);(·rfl);(·exact yaz 1 rfl);(·simp [up, hu]))|(apply yax (cs := cxc u0 (.slice none 0 0));(·rfl);(·exact hfu)))|(apply yae;(·rfl);(·(first|exact hc0 _|exact hc1 _|exact ycl (yaz 0 rfl) (Lm[k].1 - 1).toNat (by omega) (by omega))))|exact tq_));(·rfl);(·rfl);(·rfl);(·(exact to_))))|refine ycg ?_))
        repeat' (first|(refine ycf ?_;apply ybk;(·first|(first|(apply yad (vs := up u0);(·rfl);(·exact yaz 1 rfl);(·simp [up, hu]))|(apply yax (cs := cxc u0 (.slice none 0 0));(·rfl);(·exact hfu)))|(apply yae;(·rfl);(·(first|exact hc0 _|exact hc1 _|exact ycl (yaz 0 rfl) (Lm[k].1 - 1).toNat (by omega) (by omega)))));(·rfl);(·rfl))|(refine ybg 0 rfl rfl rfl rfl (fit_cxc (i := (Lm[k].1 - 1).toNat) hul' (by omega) (by omega)) rfl (spl_cxc (i := (Lm[k].1 - 1).toNat) (by omega) (by omega)) rfl rfl ?_ ?_ ?_;(·(exact to_));(·(exact to_)))|refine t1_ ?_|(refine ta_ ?_;intro _)|((fail_if_success (refine ybi rfl ?_));refine ybj rfl ?_ ?_<;>(intro ht;rw [ht];first|replace ht := of_decide_eq_true ht|replace ht := of_decide_eq_false ht|skip))|(refine ych ?_;first|(refine ybw rfl ?_ ?_<;>intro ht)|(refine ybx rfl ?_ ?_<;>intro ht)))
        · have hq := ht
          refine cx_region_draw' rfl (by kernel_rfl) ?_
          repeat' (refine ycf ?_;(first|(first|(apply ybm;(·(first|(first|(apply yad (vs := up u0);(·rfl);(·exact yaz 1 rfl);(·simp [up, hu]))|(apply yax (cs := cxc u0 (.slice none 0 0));(·rfl);(·exact hfu)))|(apply yae;(·rfl);(·(first|exact hc0 _|exact hc1 _|exact ycl (yaz 0 rfl) (Lm[k].1 - 1).toNat (by omega) (by omega))))|exact tq_));(·rfl);(·rfl);(·(exact th_)))|refine ybl rfl rfl ?_|((fail_if_success (refine ybi rfl ?_));refine ybj rfl ?_ ?_<;>(intro ht;rw [ht];first|replace ht := of_decide_eq_true ht|replace ht := of_decide_eq_false ht|skip))|(refine tb_ ?_ ?_ ?_;(·(exact to_));(·intro _;(exact to_));intro _)|(first|(refine ybg 0 rfl rfl rfl rfl (fit_cxc (i := (Lm[k].1 - 1).toNat) hul' (by omega) (by omega)) rfl (spl_cxc (i := (Lm[k].1 - 1).toNat) (by omega) (by omega)) rfl rfl ?_ ?_ ?_;(·(exact to_));(·(exact to_)))|(refine tqs_ ?_ ?_ ?_;(·(exact to_));(·(exact to_))))|(apply ybn;(·(first|(first|(apply yad (vs := up u0);(·rfl);(·exact yaz 1 rfl);(·simp [up, hu]))|(apply yax (cs := cxc u0 (.slice none 0 0));(·rfl);(·exact hfu)))|(apply yae;(·rfl);(·(first|exact hc0 _|exact hc1 _|exact ycl (yaz 0 rfl) (Lm[k].1 - 1).toNat (by omega) (by omega))))|exact tq_));(·rfl);(·rfl);(·rfl);(·(exact to_))))|refine ycg ?_))
          repeat' (first|(refine ycf ?_;apply ybk;(·first|(first|(apply yad (vs := up u0);(·rfl);(·exact yaz 1 rfl);(·simp [up, hu]))|(apply yax (cs := cxc u0 (.slice none 0 0));(·rfl);(·exact hfu)))|(apply yae;(·rfl);(·(first|exact hc0 _|exact hc1 _|exact ycl (yaz 0 rfl) (Lm[k].1 - 1).toNat (by omega) (by omega)))));(·rfl);(·rfl))|(refine ybg 0 rfl rfl rfl rfl (fit_cxc (i := (Lm[k].1 - 1).toNat) hul' (by omega) (by omega)) rfl (spl_cxc (i := (Lm[k].1 - 1).toNat) (by omega) (by omega)) rfl rfl ?_ ?_ ?_;(·(exact to_));(·(exact to_)))|refine t1_ ?_|(refine ta_ ?_;intro _)|((fail_if_success (refine ybi rfl ?_));refine ybj rfl ?_ ?_<;>(intro ht;rw [ht];first|replace ht := of_decide_eq_true ht|replace ht := of_decide_eq_false ht|skip))|(refine ych ?_;first|(refine ybw rfl ?_ ?_<;>intro ht)|(refine ybx rfl ?_ ?_<;>intro ht)))
          have hsum := sum_set (u := u') (i := (Lm[k].1 - 1).toNat) (x := Lm[k].2) (by omega)
          have hlt : u.sum < (u'.set (Lm[k].1 - 1).toNat Lm[k].2).sum := by
            rw [hsum]
            cases c with
            | true => have := hT' rfl; omega
            | false => rw [← (hF' rfl).1]; omega
          refine nx_round (k + 1, u'.set (Lm[k].1 - 1).toNat Lm[k].2, true) ⟨by show k + 1 ≤ _; omega, hI'.step hdm hdr hq, fun hc => (by cases hc), fun _ => hlt⟩ (by show Lm.length - (k + 1) < Lm.length - k; omega) ts_ (fun _ s => s)
        · have hq := ht
          refine nx_round (k + 1, u', c) ⟨by show k + 1 ≤ _; omega, hI', fun hc => ⟨(hF' hc).1, fun j hj hjk => ?_⟩, hT'⟩ (by show Lm.length - (k + 1) < Lm.length - k; omega) ts_ (fun _ s => s)
          obtain ⟨q1, q2⟩ := hF' hc
          by_cases hjk' : j = k
          · subst hjk'
            subst q1
            exact hq
          · exact q2 j hj (by omega)
      · omega
    · repeat' (first|(refine ycf ?_;apply ybk;(·first|(first|(apply yad (vs := up u0);(·rfl);(·exact yaz 1 rfl);(·simp [up, hu]))|(apply yax (cs := cxc u0 (.slice none 0 0));(·rfl);(·exact hfu)))|(apply yae;(·rfl);(·(first|exact hc0 _|exact hc1 _|exact ycl (yaz 0 rfl) (Lm[k].1 - 1).toNat (by omega) (by omega)))));(·rfl);(·rfl))|(refine ybg 0 rfl rfl rfl rfl (fit_cxc (i := (Lm[k].1 - 1).toNat) hul' (by omega) (by omega)) rfl (spl_cxc (i := (Lm[k].1 - 1).toNat) (by omega) (by omega)) rfl rfl ?_ ?_ ?_;(·(exact to_));(·(exact to_)))|refine t1_ ?_|(refine ta_ ?_;intro _)|((fail_if_success (refine ybi rfl ?_));refine ybj rfl ?_ ?_<;>(intro ht;rw [ht];first|replace ht := of_decide_eq_true ht|replace ht := of_decide_eq_false ht|skip))|(refine ych ?_;first|(refine ybw rfl ?_ ?_<;>intro ht)|(refine ybx rfl ?_ ?_<;>intro ht)))
      · omega
      have ek : k = Lm.length := by omega
      subst ek
      have hm : 2 * (17592186044416 - u'.sum).toNat + (if c then 1 else 0) < 2 * (17592186044416 - u.sum).toNat + 1 := by
        cases c with
        | true =>
          have h1 := hT' rfl
          have h2 := sum_le hI'.bd
          rw [hul'] at h2
          simp only [if_true]
          omega
        | false =>
          rw [(hF' rfl).1]
          simp
      refine nx_round (u', c) ⟨hI', fun hc => ?_⟩ hm ts_ (fun _ s => s)
      obtain ⟨q1, q2⟩ := hF' hc
      dsimp only
      rw [q1]; exact q2
  | false =>
    have hfix := hF rfl
    repeat' (first|(refine ycf ?_;apply ybk;(·first|(first|(apply yad (vs := up u0);(·rfl);(·exact yaz 1 rfl);(·simp [up, hu]))|(apply yax (cs := cxc u0 (.slice none 0 0));(·rfl);(·exact hfu)))|(apply yae;(·rfl);(·(first|exact hc0 _|exact hc1 _|exact ycl (yaz 0 rfl) (Lm[k].1 - 1).toNat (by omega) (by omega)))));(·rfl);(·rfl))|(refine ybg 0 rfl rfl rfl rfl (fit_cxc (i := (Lm[k].1 - 1).toNat) hul' (by omega) (by omega)) rfl (spl_cxc (i := (Lm[k].1 - 1).toNat) (by omega) (by omega)) rfl rfl ?_ ?_ ?_;(·(exact to_));(·(exact to_)))|refine t1_ ?_|(refine ta_ ?_;intro _)|((fail_if_success (refine ybi rfl ?_));refine ybj rfl ?_ ?_<;>(intro ht;rw [ht];first|replace ht := of_decide_eq_true ht|replace ht := of_decide_eq_false ht|skip))|(refine ych ?_;first|(refine ybw rfl ?_ ?_<;>intro ht)|(refine ybx rfl ?_ ?_<;>intro ht)))
    refine cx_row 39 2 ?_
    refine cx_loop (X := Nat × List Dt × Value) (fun y => [(1, .slice ad Lm.length cap), (4, .pointer (some ⟨b4, 0, none⟩)), (5, .int .i64 0), (6, .pointer (some ⟨b6, 0, none⟩)), (9, .int .i64 y.1)]) (fun _ => h)
      (fun y => [Res.row 39 2 y.2.2 y.2.1.length (y.2.1.flatMap dcs), Res.blk b6 (.cells (cxc u y.2.2).toArray 69 (0, 0)), Res.blk b4 (.cells (cxc zeroU (.slice none 0 0)).toArray 69 (0, 0))])
      (fun y => y.1 ≤ Lm.length ∧ y.2.1.length ≤ y.1 ∧ y.2.1.Pairwise (fun a b => ordD a b < 0) ∧ ∀ x, x ∈ y.2.1 ↔ x ∈ Lm.take y.1 ∧ uD u x < x.2) (fun y => Lm.length - y.1) (0, [], .slice none 0 0) ⟨Nat.zero_le _, Nat.le_refl _, List.Pairwise.nil, fun x => by simp⟩ ts_ (fun _ s => st_left (B := [_]) s) ?_
    rintro ⟨i, M, v⟩ ⟨hi, hMl, hMs, hMm⟩
    dsimp only at hi hMl hMs hMm ⊢
    by_cases hil : i < Lm.length
    · obtain ⟨bs, o, rfl⟩ := hs.ad (by omega) (by omega)
      have hel : ∀ L, Cells h L ⟨bs, o + i * 2, none⟩ (dcs Lm[i]) := fun L => hs.elem dcs_len i hil
      have hdm : Lm[i] ∈ Lm := List.getElem_mem hil
      have hdr := hr _ hdm
      have hd4 := right_of hdr
      have htk : ∀ x, x ∈ Lm.take (i + 1) ↔ x ∈ Lm.take i ∨ x = Lm[i] := fun x => by rw [List.take_succ_eq_append_getElem hil, List.mem_append, List.mem_singleton]
      repeat' (first|(refine ycf ?_;apply ybk;(·first|(first|(apply yad;(·rfl);(·exact hel _);(·rfl))|(apply yad;(·rfl);(·exact yaz 2 rfl);(·exact ycj hul)))|(apply yae;(·rfl);(·(first|exact hc0 _|exact hc1 _|exact ycl (yaz 0 rfl) (Lm[k].1 - 1).toNat (by omega) (by omega)))));(·rfl);(·rfl))|(refine ybg 0 rfl rfl rfl rfl (fit_cxc (i := (Lm[k].1 - 1).toNat) hul' (by omega) (by omega)) rfl (spl_cxc (i := (Lm[k].1 - 1).toNat) (by omega) (by omega)) rfl rfl ?_ ?_ ?_;(·(exact to_));(·(exact to_)))|refine t1_ ?_|(refine ta_ ?_;intro _)|((fail_if_success (refine ybi rfl ?_));refine ybj rfl ?_ ?_<;>(intro ht;rw [ht];first|replace ht := of_decide_eq_true ht|replace ht := of_decide_eq_false ht|skip))|(refine ych ?_;first|(refine ybw rfl ?_ ?_<;>intro ht)|(refine ybx rfl ?_ ?_<;>intro ht)))
      · cases hH : hasC u M Lm[i] with
        | true =>
          (refine rx_call_lend (u := .bool true) 1 (ycp Try.func30 rfl (by kernel_rfl) rfl) rfl (fun h' _ hsc w s => by rw [← hH]; exact refHas_sp _ u M Lm[i] h' ⟨hul, v, rfl, hsc⟩ (by omega) hdr w s) rfl rfl rfl ?_ ?_; (· exact ybf))
          repeat' (first|(refine ycf ?_;apply ybk;(·first|(first|(apply yad;(·rfl);(·exact hel _);(·rfl))|(apply yad;(·rfl);(·exact yaz 2 rfl);(·exact ycj hul)))|(apply yae;(·rfl);(·(first|exact hc0 _|exact hc1 _|exact ycl (yaz 0 rfl) (Lm[k].1 - 1).toNat (by omega) (by omega)))));(·rfl);(·rfl))|(refine ybg 0 rfl rfl rfl rfl (fit_cxc (i := (Lm[k].1 - 1).toNat) hul' (by omega) (by omega)) rfl (spl_cxc (i := (Lm[k].1 - 1).toNat) (by omega) (by omega)) rfl rfl ?_ ?_ ?_;(·(exact to_));(·(exact to_)))|refine t1_ ?_|(refine ta_ ?_;intro _)|((fail_if_success (refine ybi rfl ?_));refine ybj rfl ?_ ?_<;>(intro ht;rw [ht];first|replace ht := of_decide_eq_true ht|replace ht := of_decide_eq_false ht|skip))|(refine ych ?_;first|(refine ybw rfl ?_ ?_<;>intro ht)|(refine ybx rfl ?_ ?_<;>intro ht)))
          refine nx_round (i + 1, M, v) ⟨by show i + 1 ≤ _; omega, by show M.length ≤ i + 1; omega, hMs, fun x => ?_⟩ (by show Lm.length - (i + 1) < Lm.length - i; omega) ts_ (fun _ s => s.tl)
          dsimp only
          rw [hMm x, htk x]
          refine ⟨fun hx => ⟨.inl hx.1, hx.2⟩, fun hx => ⟨hx.1.elim id (fun e => ?_), hx.2⟩⟩
          unfold hasC at hH
          rw [Bool.or_eq_true, decide_eq_true_iff, decide_eq_true_iff] at hH
          rcases hH with hH | hH
          · rw [e] at hx; omega
          · rw [e]; exact ((hMm _).1 hH).1
        | false =>
          have hno : Lm[i] ∉ M ∧ uD u Lm[i] < Lm[i].2 := by
            unfold hasC at hH
            rw [Bool.or_eq_false_iff, decide_eq_false_iff_not, decide_eq_false_iff_not] at hH
            exact ⟨hH.2, by omega⟩
          (refine rx_call_lend (u := .bool false) 1 (ycp Try.func30 rfl (by kernel_rfl) rfl) rfl (fun h' _ hsc w s => by rw [← hH]; exact refHas_sp _ u M Lm[i] h' ⟨hul, v, rfl, hsc⟩ (by omega) hdr w s) rfl rfl rfl ?_ ?_; (· exact ybf))
          refine rx_rowslice 1 rfl (fun adv capv hv => ?_)
          subst hv
          repeat' (first|(refine ycf ?_;apply ybk;(·first|(first|(apply yad;(·rfl);(·exact hel _);(·rfl))|(apply yad;(·rfl);(·exact yaz 2 rfl);(·exact ycj hul)))|(apply yae;(·rfl);(·(first|exact yck (yaz 2 rfl) hul rfl|exact yck (yaz 3 rfl) hul rfl))));(·rfl);(·rfl))|(refine ybg 0 rfl rfl rfl rfl (fit_cxc (i := (Lm[k].1 - 1).toNat) hul' (by omega) (by omega)) rfl (spl_cxc (i := (Lm[k].1 - 1).toNat) (by omega) (by omega)) rfl rfl ?_ ?_ ?_;(·(exact to_));(·(exact to_)))|refine t1_ ?_|(refine ta_ ?_;intro _)|((fail_if_success (refine ybi rfl ?_));refine ybj rfl ?_ ?_<;>(intro ht;rw [ht];first|replace ht := of_decide_eq_true ht|replace ht := of_decide_eq_false ht|skip))|(refine ych ?_;first|(refine ybw rfl ?_ ?_<;>intro ht)|(refine ybx rfl ?_ ?_<;>intro ht)))
          refine rx_append (sz := 2) 2 rfl rfl rfl (yaz 0 rfl) rfl (one_dcs [Lm[i]]) rfl (by omega) (by unfold maxLen; omega) (by omega) rfl rfl rfl ybf (fun _ => ybf) ?_
          intro v2 _
          refine rx_rowform 2 rfl (fun _ h0 _ => (by omega)) ?_
          rintro g2 cap2 rfl
          repeat' (first|(refine ycf ?_;apply ybk;(·first|(first|(apply yad;(·rfl);(·exact hel _);(·rfl))|(apply yad;(·rfl);(·exact yaz 2 rfl);(·exact ycj hul)))|(apply yae;(·rfl);(·(first|exact yck (yaz 2 rfl) hul rfl|exact yck (yaz 3 rfl) hul rfl))));(·rfl);(·rfl))|(refine ybg 3 rfl rfl rfl rfl (fit_more hul) rfl (spl_more hul) rfl rfl ?_ ?_ ?_;(·(exact to_));(·(exact to_)))|refine t1_ ?_|(refine ta_ ?_;intro _)|((fail_if_success (refine ybi rfl ?_));refine ybj rfl ?_ ?_<;>(intro ht;rw [ht];first|replace ht := of_decide_eq_true ht|replace ht := of_decide_eq_false ht|skip))|(refine ych ?_;first|(refine ybw rfl ?_ ?_<;>intro ht)|(refine ybx rfl ?_ ?_<;>intro ht)))
          rename_i b10 bz hz
          refine cx_loop (X := Nat) (fun k => [(1, .slice (some ⟨bs, o, none⟩) Lm.length cap), (4, .pointer (some ⟨b4, 0, none⟩)), (5, .int .i64 0), (6, .pointer (some ⟨b6, 0, none⟩)), (9, .int .i64 i), (10, .pointer (some ⟨b10, 0, none⟩)), (11, .int .i64 k)]) (fun _ => h)
            (fun k => [Res.blk b10 (.cells (dcs Lm[i]).toArray 39 (0, 0)), Res.row 39 2 (.slice (some ⟨g2, 0, none⟩) (M.length + 1) cap2) (M.length + 1) ((insD M k Lm[i]).flatMap dcs), Res.blk b6 (.cells (cxc u (.slice (some ⟨g2, 0, none⟩) (M.length + 1) cap2)).toArray 69 (0, 0)), Res.blk b4 (.cells (cxc zeroU (.slice none 0 0)).toArray 69 (0, 0))])
            (fun k => k ≤ M.length ∧ ∀ e ∈ M.drop k, ordD Lm[i] e < 0) (fun k => k) M.length ⟨Nat.le_refl _, by simp⟩ ts_ (fun _ s => ?_) ?_
          · rw [insD_all, List.flatMap_append]
            exact s.tl
          rintro k ⟨hk, hkd⟩
          have hIl := insD_len (M := M) (k := k) (d := Lm[i])
          have hmem : ∀ x, x ∈ insD M k Lm[i] ↔ x ∈ Lm.take (i + 1) ∧ uD u x < x.2 := fun x => by
            rw [insD_mem, htk, hMm]
            constructor
            · rintro (rfl | hx)
              · exact ⟨.inr rfl, hno.2⟩
              · exact ⟨.inl hx.1, hx.2⟩
            · rintro ⟨hx | hx, hy⟩
              · exact .inr ⟨hx, hy⟩
              · exact .inl hx
          by_cases h0 : k = 0
          · have hsrt := insD_sorted (d := Lm[i]) hMs hk hkd (fun hp => by omega)
            subst h0
            repeat' (first|(refine ycf ?_;apply ybk;(·first|(first|(apply yad;(·rfl);(·exact hel _);(·rfl))|(apply yad;(·rfl);(·exact yaz 2 rfl);(·exact ycj hul)))|(apply yae;(·rfl);(·(first|exact yck (yaz 2 rfl) hul rfl|exact yck (yaz 3 rfl) hul rfl))));(·rfl);(·rfl))|(refine ybg 3 rfl rfl rfl rfl (fit_more hul) rfl (spl_more hul) rfl rfl ?_ ?_ ?_;(·(exact to_));(·(exact to_)))|refine t1_ ?_|(refine ta_ ?_;intro _)|((fail_if_success (refine ybi rfl ?_));refine ybj rfl ?_ ?_<;>(intro ht;rw [ht];first|replace ht := of_decide_eq_true ht|replace ht := of_decide_eq_false ht|skip))|(refine ych ?_;first|(refine ybw rfl ?_ ?_<;>intro ht)|(refine ybx rfl ?_ ?_<;>intro ht)))
            refine cx_region_draw' rfl (by kernel_rfl) ?_
            repeat' (refine ycf ?_;(first|(first|(apply ybm;(·(first|(first|(apply yad;(·rfl);(·exact hel _);(·rfl))|(apply yad;(·rfl);(·exact yaz 2 rfl);(·exact ycj hul)))|(apply yae;(·rfl);(·(first|exact yck (yaz 2 rfl) hul rfl)))|exact tq_));(·rfl);(·rfl);(·(exact th_)))|refine ybl rfl rfl ?_|((fail_if_success (refine ybi rfl ?_));refine ybj rfl ?_ ?_<;>(intro ht;rw [ht];first|replace ht := of_decide_eq_true ht|replace ht := of_decide_eq_false ht|skip))|(refine tb_ ?_ ?_ ?_;(·(exact to_));(·intro _;(exact to_));intro _)|(first|(refine ybg 3 rfl rfl rfl rfl (fit_more hul) rfl (spl_more hul) rfl rfl ?_ ?_ ?_;(·(exact to_));(·(exact to_)))|(refine tqs_ ?_ ?_ ?_;(·(exact to_));(·(exact to_))))|(apply ybn;(·(first|(first|(apply yad;(·rfl);(·exact hel _);(·rfl))|(apply yad;(·rfl);(·exact yaz 2 rfl);(·exact ycj hul)))|(apply yae;(·rfl);(·(first|exact yck (yaz 2 rfl) hul rfl)))|exact tq_));(·rfl);(·rfl);(·rfl);(·(exact to_))))|refine ycg ?_))
            repeat' (first|(refine ycf ?_;apply ybk;(·first|(first|(apply yad;(·rfl);(·exact hel _);(·rfl))|(apply yad;(·rfl);(·exact yaz 2 rfl);(·exact ycj hul)))|(apply yae;(·rfl);(·(first|exact yck (yaz 2 rfl) hul rfl))));(·rfl);(·rfl))|(refine ybg 3 rfl rfl rfl rfl (fit_more hul) rfl (spl_more hul) rfl rfl ?_ ?_ ?_;(·(exact to_));(·(exact to_)))|refine t1_ ?_|(refine ta_ ?_;intro _)|((fail_if_success (refine ybi rfl ?_));refine ybj rfl ?_ ?_<;>(intro ht;rw [ht];first|replace ht := of_decide_eq_true ht|replace ht := of_decide_eq_false ht|skip))|(refine ych ?_;first|(refine ybw rfl ?_ ?_<;>intro ht)|(refine ybx rfl ?_ ?_<;>intro ht)))
            refine nx_round (i + 1, insD M 0 Lm[i], .slice (some ⟨g2, 0, none⟩) (M.length + 1) cap2) ⟨by show i + 1 ≤ _; omega, by show (insD M 0 Lm[i]).length ≤ i + 1; omega, hsrt, hmem⟩ (by show Lm.length - (i + 1) < Lm.length - i; omega) ts_ (fun _ s => ?_)
            dsimp only
            rw [hIl]
            exact s.tl
          · have hkm : k - 1 < M.length := by omega
            have eIk := insD_at (M := M) (k := k) (j := k - 1) (d := Lm[i]) (by omega) hk
            have hkk : ((k : Int) - 1).toNat = k - 1 := by omega
            have hrow : ∀ l : List Dt, (hl : l.length = M.length + 1) → l[k - 1]? = some M[k - 1] → ∀ L, L[1]? = some (Res.row 39 2 (.slice (some ⟨g2, 0, none⟩) (M.length + 1) cap2) (M.length + 1) (l.flatMap dcs)) → Cells h L ⟨g2, 0 + ((k : Int) - 1).toNat * 2, none⟩ (dcs M[k - 1]) := fun l hl he L hL => by
              have c := ((row_cells (h := h) 1 hL).drop ((k - 1) * 2)).take 2
              rw [flat_at dcs_len l (k - 1) (by omega)] at c
              rw [hkk]
              have e3 : l[k - 1]'(by omega) = M[k - 1] := by
                rw [List.getElem?_eq_getElem (by omega)] at he
                exact Option.some.inj he
              rw [e3] at c
              exact c
            have hins : (insD M k Lm[i])[k - 1]? = some M[k - 1] := by rw [List.getElem?_eq_getElem (by rw [hIl]; omega), eIk]
            have hc0 : ∀ L, L[1]? = _ → CellAt h L g2 (0 + ((k : Int) - 1).toNat * 2 + 0) (.int .i64 M[k - 1].1) := fun L hL => (hrow _ hIl hins L hL).cell (j := 0) rfl
            have hc1 : ∀ L, L[1]? = _ → CellAt h L g2 (0 + ((k : Int) - 1).toNat * 2 + 1) (.int .i64 M[k - 1].2) := fun L hL => (hrow _ hIl hins L hL).cell (j := 1) rfl
            have hLS : ∀ l : List Dt, (hl : l.length = M.length + 1) → l[k - 1]? = some M[k - 1] → ∀ w, Hd h [Res.blk b10 (.cells (dcs Lm[i]).toArray 39 (0, 0)), Res.row 39 2 (.slice (some ⟨g2, 0, none⟩) (M.length + 1) cap2) (M.length + 1) (l.flatMap dcs), Res.blk b6 (.cells (cxc u (.slice (some ⟨g2, 0, none⟩) (M.length + 1) cap2)).toArray 69 (0, 0)), Res.blk b4 (.cells (cxc zeroU (.slice none 0 0)).toArray 69 (0, 0))] w → Hd h [Res.blk b10 (.cells (dcs Lm[i]).toArray 39 (0, 0)), Res.part g2 (0 + ((k : Int) - 1).toNat * 2) (.int .i64 M[k - 1].1) [.int .i64 M[k - 1].2], Res.blk b6 (.cells (cxc u (.slice (some ⟨g2, 0, none⟩) (M.length + 1) cap2)).toArray 69 (0, 0))] w := fun l hl he w s => ⟨s.view, fun r hr => by
              simp only [List.mem_cons, List.not_mem_nil, or_false] at hr
              rcases hr with rfl | rfl | rfl
              · exact s.own _ (by simp)
              · intro j x hj
                have := hrow l hl he _ rfl w s j x hj
                rwa [Addr.add_off] at this
              · exact s.own _ (by simp)⟩
            have hkc : (k : Int) - 1 = ((k - 1 : Nat) : Int) := by omega
            have hl2 : ((insD M k Lm[i]).set k M[k - 1]).length = M.length + 1 := by rw [List.length_set, hIl]
            have hins2 : ((insD M k Lm[i]).set k M[k - 1])[k - 1]? = some M[k - 1] := by rw [List.getElem?_set_ne (by omega)]; exact hins
            have hnextk : ordD Lm[i] M[k - 1] < 0 → ∀ e ∈ M.drop (k - 1), ordD Lm[i] e < 0 := fun hq e he => by
              rw [List.drop_eq_getElem_cons hkm] at he
              rcases List.mem_cons.1 he with rfl | he
              · exact hq
              · exact hkd e (by rwa [show k - 1 + 1 = k by omega] at he)
            repeat' (first|(refine ycf ?_;apply ybk;(·first|(first|(apply yad;(·rfl);(·exact hel _);(·rfl))|(apply yad;(·rfl);(·exact yaz 2 rfl);(·exact ycj hul)))|(apply yae;(·rfl);(·(first|exact yck (yaz 2 rfl) hul rfl))));(·rfl);(·rfl))|(refine ybg 3 rfl rfl rfl rfl (fit_more hul) rfl (spl_more hul) rfl rfl ?_ ?_ ?_;(·(exact to_));(·(exact to_)))|refine t1_ ?_|(refine ta_ ?_;intro _)|((fail_if_success (refine ybi rfl ?_));refine ybj rfl ?_ ?_<;>(intro ht;rw [ht];first|replace ht := of_decide_eq_true ht|replace ht := of_decide_eq_false ht|skip))|(refine ych ?_;first|(refine ybw rfl ?_ ?_<;>intro ht)|(refine ybx rfl ?_ ?_<;>intro ht)))
            refine cx_region_draw' rfl (by kernel_rfl) ?_
            repeat' (refine ycf ?_;(first|(first|(apply ybm;(·(first|(first|(apply yad;(·rfl);(·exact hel _);(·rfl))|(apply yad;(·rfl);(·exact yaz 2 rfl);(·exact ycj hul)))|(apply yae;(·rfl);(·(first|exact yck (yaz 2 rfl) hul rfl|exact hc0 _ rfl|exact hc1 _ rfl)))|exact tq_));(·rfl);(·rfl);(·(exact th_)))|refine ybl rfl rfl ?_|((fail_if_success (refine ybi rfl ?_));refine ybj rfl ?_ ?_<;>(intro ht;rw [ht];first|replace ht := of_decide_eq_true ht|replace ht := of_decide_eq_false ht|skip))|(refine tb_ ?_ ?_ ?_;(·(exact to_));(·intro _;(exact to_));intro _)|(first|(refine ybg 3 rfl rfl rfl rfl (fit_more hul) rfl (spl_more hul) rfl rfl ?_ ?_ ?_;(·(exact to_));(·(exact to_)))|(refine tqs_ ?_ ?_ ?_;(·(exact to_));(·(exact to_))))|(apply ybn;(·(first|(first|(apply yad;(·rfl);(·exact hel _);(·rfl))|(apply yad;(·rfl);(·exact yaz 2 rfl);(·exact ycj hul)))|(apply yae;(·rfl);(·(first|exact yck (yaz 2 rfl) hul rfl|exact hc0 _ rfl|exact hc1 _ rfl)))|exact tq_));(·rfl);(·rfl);(·rfl);(·(exact to_))))|refine ycg ?_))
            · have hq : ordD Lm[i] M[k - 1] < 0 := by rw [ord_neg]; omega
              repeat' (first|(refine ycf ?_;apply ybk;(·first|(apply yad;(·rfl);(·exact part_cells 1 rfl);(·rfl))|(apply yae;(·rfl);(·(first|exact yck (yaz 2 rfl) hul rfl|exact hc0 _ rfl|exact hc1 _ rfl))));(·rfl);(·rfl))|(first|(refine rx_rowstore 1 rfl rfl rfl rfl (by show 0 + k * 2 + 2 ≤ _;omega) rfl (spl_dot' (j := k) (x := M[k - 1]) (by omega) (by omega)) rfl rfl ?_ ?_ ?_;(·(first|exact ybf|(refine .inl ?_;(first|exact fun w s => hLS _ hIl hins w s|exact fun w s => hLS _ hl2 hins2 w s))|exact to_));(·(first|exact ybf|(refine .inl ?_;(first|exact fun w s => hLS _ hIl hins w s|exact fun w s => hLS _ hl2 hins2 w s))|exact to_)))|(refine rx_rowstore 1 rfl rfl rfl rfl (by show 0 + ((k : Int) - 1).toNat * 2 + 2 ≤ _;omega) rfl (spl_dot' (j := k - 1) (x := Lm[i]) (by omega) (by omega)) rfl rfl ?_ ?_ ?_;(·(first|exact ybf|(refine .inl ?_;(first|exact fun w s => hLS _ hIl hins w s|exact fun w s => hLS _ hl2 hins2 w s))|exact to_));(·(first|exact ybf|(refine .inl ?_;(first|exact fun w s => hLS _ hIl hins w s|exact fun w s => hLS _ hl2 hins2 w s))|exact to_))))|refine t1_ ?_|(refine ta_ ?_;intro _)|((fail_if_success (refine ybi rfl ?_));refine ybj rfl ?_ ?_<;>(intro ht;rw [ht];first|replace ht := of_decide_eq_true ht|replace ht := of_decide_eq_false ht|skip))|(refine ych ?_;first|(refine ybw rfl ?_ ?_<;>intro ht)|(refine ybx rfl ?_ ?_<;>intro ht)))
              refine cx_region_draw [Res.blk b10 (.cells (dcs Lm[i]).toArray 39 (0, 0)), Res.part g2 (0 + ((k : Int) - 1).toNat * 2) (.int .i64 M[k - 1].1) [.int .i64 M[k - 1].2], Res.blk b6 (.cells (cxc u (.slice (some ⟨g2, 0, none⟩) (M.length + 1) cap2)).toArray 69 (0, 0))] rfl (by kernel_rfl) ?_
              repeat' (refine ycf ?_;(first|(first|(apply ybm;(·(first|(apply yad;(·rfl);(·exact part_cells 1 rfl);(·rfl))|(apply yae;(·rfl);(·(first|exact yck (yaz 2 rfl) hul rfl|exact hc0 _ rfl|exact hc1 _ rfl)))|exact tq_));(·rfl);(·rfl);(·(first|exact fun w s => hLS _ hIl hins w s|exact fun w s => hLS _ hl2 hins2 w s)))|refine ybl rfl rfl ?_|((fail_if_success (refine ybi rfl ?_));refine ybj rfl ?_ ?_<;>(intro ht;rw [ht];first|replace ht := of_decide_eq_true ht|replace ht := of_decide_eq_false ht|skip))|(refine tb_ ?_ ?_ ?_;(·(first|exact ybf|(refine .inl ?_;(first|exact fun w s => hLS _ hIl hins w s|exact fun w s => hLS _ hl2 hins2 w s))|exact to_));(·intro _;(first|exact ybf|(refine .inl ?_;(first|exact fun w s => hLS _ hIl hins w s|exact fun w s => hLS _ hl2 hins2 w s))|exact to_));intro _)|(first|(first|(refine rx_rowstore 1 rfl rfl rfl rfl (by show 0 + k * 2 + 2 ≤ _;omega) rfl (spl_dot' (j := k) (x := M[k - 1]) (by omega) (by omega)) rfl rfl ?_ ?_ ?_;(·(first|exact ybf|(refine .inl ?_;(first|exact fun w s => hLS _ hIl hins w s|exact fun w s => hLS _ hl2 hins2 w s))|exact to_));(·(first|exact ybf|(refine .inl ?_;(first|exact fun w s => hLS _ hIl hins w s|exact fun w s => hLS _ hl2 hins2 w s))|exact to_)))|(refine rx_rowstore 1 rfl rfl rfl rfl (by show 0 + ((k : Int) - 1).toNat * 2 + 2 ≤ _;omega) rfl (spl_dot' (j := k - 1) (x := Lm[i]) (by omega) (by omega)) rfl rfl ?_ ?_ ?_;(·(first|exact ybf|(refine .inl ?_;(first|exact fun w s => hLS _ hIl hins w s|exact fun w s => hLS _ hl2 hins2 w s))|exact to_));(·(first|exact ybf|(refine .inl ?_;(first|exact fun w s => hLS _ hIl hins w s|exact fun w s => hLS _ hl2 hins2 w s))|exact to_))))|(refine tqs_ ?_ ?_ ?_;(·(first|exact ybf|(refine .inl ?_;(first|exact fun w s => hLS _ hIl hins w s|exact fun w s => hLS _ hl2 hins2 w s))|exact to_));(·(first|exact ybf|(refine .inl ?_;(first|exact fun w s => hLS _ hIl hins w s|exact fun w s => hLS _ hl2 hins2 w s))|exact to_))))|(apply ybn;(·(first|(apply yad;(·rfl);(·exact part_cells 1 rfl);(·rfl))|(apply yae;(·rfl);(·(first|exact yck (yaz 2 rfl) hul rfl|exact hc0 _ rfl|exact hc1 _ rfl)))|exact tq_));(·rfl);(·rfl);(·rfl);(·(first|exact ybf|(refine .inl ?_;(first|exact fun w s => hLS _ hIl hins w s|exact fun w s => hLS _ hl2 hins2 w s))|exact to_))))|refine ycg ?_))
              repeat' (first|(refine ycf ?_;apply ybk;(·first|(apply yad;(·rfl);(·exact part_cells 1 rfl);(·rfl))|(apply yae;(·rfl);(·(first|exact yck (yaz 2 rfl) hul rfl|exact hc0 _ rfl|exact hc1 _ rfl))));(·rfl);(·rfl))|(first|(refine rx_rowstore 1 rfl rfl rfl rfl (by show 0 + k * 2 + 2 ≤ _;omega) rfl (spl_dot' (j := k) (x := M[k - 1]) (by omega) (by omega)) rfl rfl ?_ ?_ ?_;(·(first|exact ybf|(refine .inl ?_;(first|exact fun w s => hLS _ hIl hins w s|exact fun w s => hLS _ hl2 hins2 w s))|exact to_));(·(first|exact ybf|(refine .inl ?_;(first|exact fun w s => hLS _ hIl hins w s|exact fun w s => hLS _ hl2 hins2 w s))|exact to_)))|(refine rx_rowstore 1 rfl rfl rfl rfl (by show 0 + ((k : Int) - 1).toNat * 2 + 2 ≤ _;omega) rfl (spl_dot' (j := k - 1) (x := Lm[i]) (by omega) (by omega)) rfl rfl ?_ ?_ ?_;(·(first|exact ybf|(refine .inl ?_;(first|exact fun w s => hLS _ hIl hins w s|exact fun w s => hLS _ hl2 hins2 w s))|exact to_));(·(first|exact ybf|(refine .inl ?_;(first|exact fun w s => hLS _ hIl hins w s|exact fun w s => hLS _ hl2 hins2 w s))|exact to_))))|refine t1_ ?_|(refine ta_ ?_;intro _)|((fail_if_success (refine ybi rfl ?_));refine ybj rfl ?_ ?_<;>(intro ht;rw [ht];first|replace ht := of_decide_eq_true ht|replace ht := of_decide_eq_false ht|skip))|(refine ych ?_;first|(refine ybw rfl ?_ ?_<;>intro ht)|(refine ybx rfl ?_ ?_<;>intro ht)))
              refine nx_round (k - 1) ⟨by omega, hnextk hq⟩ (by omega) (by repeat' (first | exact Sub.nil | refine Sub.cons rfl rfl ?_ | refine Sub.cons rfl (congrArg (Value.int .i64) hkc) ?_)) (fun _ s => ?_)
              rw [← insD_set (by omega) hk]
              exact s
            · have hq1 := ht
              repeat' (first|(refine ycf ?_;apply ybk;(·first|(apply yad;(·rfl);(·exact part_cells 1 rfl);(·rfl))|(apply yae;(·rfl);(·(first|exact yck (yaz 2 rfl) hul rfl|exact hc0 _ rfl|exact hc1 _ rfl))));(·rfl);(·rfl))|(first|(refine rx_rowstore 1 rfl rfl rfl rfl (by show 0 + k * 2 + 2 ≤ _;omega) rfl (spl_dot' (j := k) (x := M[k - 1]) (by omega) (by omega)) rfl rfl ?_ ?_ ?_;(·(first|exact ybf|(refine .inl ?_;(first|exact fun w s => hLS _ hIl hins w s|exact fun w s => hLS _ hl2 hins2 w s))|exact to_));(·(first|exact ybf|(refine .inl ?_;(first|exact fun w s => hLS _ hIl hins w s|exact fun w s => hLS _ hl2 hins2 w s))|exact to_)))|(refine rx_rowstore 1 rfl rfl rfl rfl (by show 0 + ((k : Int) - 1).toNat * 2 + 2 ≤ _;omega) rfl (spl_dot' (j := k - 1) (x := Lm[i]) (by omega) (by omega)) rfl rfl ?_ ?_ ?_;(·(first|exact ybf|(refine .inl ?_;(first|exact fun w s => hLS _ hIl hins w s|exact fun w s => hLS _ hl2 hins2 w s))|exact to_));(·(first|exact ybf|(refine .inl ?_;(first|exact fun w s => hLS _ hIl hins w s|exact fun w s => hLS _ hl2 hins2 w s))|exact to_))))|refine t1_ ?_|(refine ta_ ?_;intro _)|((fail_if_success (refine ybi rfl ?_));refine ybj rfl ?_ ?_<;>(intro ht;rw [ht];first|replace ht := of_decide_eq_true ht|replace ht := of_decide_eq_false ht|skip))|(refine ych ?_;first|(refine ybw rfl ?_ ?_<;>intro ht)|(refine ybx rfl ?_ ?_<;>intro ht)))
              · have hq : ordD Lm[i] M[k - 1] < 0 := by rw [ord_neg]; omega
                repeat' (first|(refine ycf ?_;apply ybk;(·first|(apply yad;(·rfl);(·exact part_cells 1 rfl);(·rfl))|(apply yae;(·rfl);(·(first|exact yck (yaz 2 rfl) hul rfl|exact hc0 _ rfl|exact hc1 _ rfl))));(·rfl);(·rfl))|(first|(refine rx_rowstore 1 rfl rfl rfl rfl (by show 0 + k * 2 + 2 ≤ _;omega) rfl (spl_dot' (j := k) (x := M[k - 1]) (by omega) (by omega)) rfl rfl ?_ ?_ ?_;(·(first|exact ybf|(refine .inl ?_;(first|exact fun w s => hLS _ hIl hins w s|exact fun w s => hLS _ hl2 hins2 w s))|exact to_));(·(first|exact ybf|(refine .inl ?_;(first|exact fun w s => hLS _ hIl hins w s|exact fun w s => hLS _ hl2 hins2 w s))|exact to_)))|(refine rx_rowstore 1 rfl rfl rfl rfl (by show 0 + ((k : Int) - 1).toNat * 2 + 2 ≤ _;omega) rfl (spl_dot' (j := k - 1) (x := Lm[i]) (by omega) (by omega)) rfl rfl ?_ ?_ ?_;(·(first|exact ybf|(refine .inl ?_;(first|exact fun w s => hLS _ hIl hins w s|exact fun w s => hLS _ hl2 hins2 w s))|exact to_));(·(first|exact ybf|(refine .inl ?_;(first|exact fun w s => hLS _ hIl hins w s|exact fun w s => hLS _ hl2 hins2 w s))|exact to_))))|refine t1_ ?_|(refine ta_ ?_;intro _)|((fail_if_success (refine ybi rfl ?_));refine ybj rfl ?_ ?_<;>(intro ht;rw [ht];first|replace ht := of_decide_eq_true ht|replace ht := of_decide_eq_false ht|skip))|(refine ych ?_;first|(refine ybw rfl ?_ ?_<;>intro ht)|(refine ybx rfl ?_ ?_<;>intro ht)))
                refine cx_region_draw [Res.blk b10 (.cells (dcs Lm[i]).toArray 39 (0, 0)), Res.part g2 (0 + ((k : Int) - 1).toNat * 2) (.int .i64 M[k - 1].1) [.int .i64 M[k - 1].2], Res.blk b6 (.cells (cxc u (.slice (some ⟨g2, 0, none⟩) (M.length + 1) cap2)).toArray 69 (0, 0))] rfl (by kernel_rfl) ?_
                repeat' (refine ycf ?_;(first|(first|(apply ybm;(·(first|(apply yad;(·rfl);(·exact part_cells 1 rfl);(·rfl))|(apply yae;(·rfl);(·(first|exact yck (yaz 2 rfl) hul rfl|exact hc0 _ rfl|exact hc1 _ rfl)))|exact tq_));(·rfl);(·rfl);(·(first|exact fun w s => hLS _ hIl hins w s|exact fun w s => hLS _ hl2 hins2 w s)))|refine ybl rfl rfl ?_|((fail_if_success (refine ybi rfl ?_));refine ybj rfl ?_ ?_<;>(intro ht;rw [ht];first|replace ht := of_decide_eq_true ht|replace ht := of_decide_eq_false ht|skip))|(refine tb_ ?_ ?_ ?_;(·(first|exact ybf|(refine .inl ?_;(first|exact fun w s => hLS _ hIl hins w s|exact fun w s => hLS _ hl2 hins2 w s))|exact to_));(·intro _;(first|exact ybf|(refine .inl ?_;(first|exact fun w s => hLS _ hIl hins w s|exact fun w s => hLS _ hl2 hins2 w s))|exact to_));intro _)|(first|(first|(refine rx_rowstore 1 rfl rfl rfl rfl (by show 0 + k * 2 + 2 ≤ _;omega) rfl (spl_dot' (j := k) (x := M[k - 1]) (by omega) (by omega)) rfl rfl ?_ ?_ ?_;(·(first|exact ybf|(refine .inl ?_;(first|exact fun w s => hLS _ hIl hins w s|exact fun w s => hLS _ hl2 hins2 w s))|exact to_));(·(first|exact ybf|(refine .inl ?_;(first|exact fun w s => hLS _ hIl hins w s|exact fun w s => hLS _ hl2 hins2 w s))|exact to_)))|(refine rx_rowstore 1 rfl rfl rfl rfl (by show 0 + ((k : Int) - 1).toNat * 2 + 2 ≤ _;omega) rfl (spl_dot' (j := k - 1) (x := Lm[i]) (by omega) (by omega)) rfl rfl ?_ ?_ ?_;(·(first|exact ybf|(refine .inl ?_;(first|exact fun w s => hLS _ hIl hins w s|exact fun w s => hLS _ hl2 hins2 w s))|exact to_));(·(first|exact ybf|(refine .inl ?_;(first|exact fun w s => hLS _ hIl hins w s|exact fun w s => hLS _ hl2 hins2 w s))|exact to_))))|(refine tqs_ ?_ ?_ ?_;(·(first|exact ybf|(refine .inl ?_;(first|exact fun w s => hLS _ hIl hins w s|exact fun w s => hLS _ hl2 hins2 w s))|exact to_));(·(first|exact ybf|(refine .inl ?_;(first|exact fun w s => hLS _ hIl hins w s|exact fun w s => hLS _ hl2 hins2 w s))|exact to_))))|(apply ybn;(·(first|(apply yad;(·rfl);(·exact part_cells 1 rfl);(·rfl))|(apply yae;(·rfl);(·(first|exact yck (yaz 2 rfl) hul rfl|exact hc0 _ rfl|exact hc1 _ rfl)))|exact tq_));(·rfl);(·rfl);(·rfl);(·(first|exact ybf|(refine .inl ?_;(first|exact fun w s => hLS _ hIl hins w s|exact fun w s => hLS _ hl2 hins2 w s))|exact to_))))|refine ycg ?_))
                repeat' (first|(refine ycf ?_;apply ybk;(·first|(apply yad;(·rfl);(·exact part_cells 1 rfl);(·rfl))|(apply yae;(·rfl);(·(first|exact yck (yaz 2 rfl) hul rfl|exact hc0 _ rfl|exact hc1 _ rfl))));(·rfl);(·rfl))|(first|(refine rx_rowstore 1 rfl rfl rfl rfl (by show 0 + k * 2 + 2 ≤ _;omega) rfl (spl_dot' (j := k) (x := M[k - 1]) (by omega) (by omega)) rfl rfl ?_ ?_ ?_;(·(first|exact ybf|(refine .inl ?_;(first|exact fun w s => hLS _ hIl hins w s|exact fun w s => hLS _ hl2 hins2 w s))|exact to_));(·(first|exact ybf|(refine .inl ?_;(first|exact fun w s => hLS _ hIl hins w s|exact fun w s => hLS _ hl2 hins2 w s))|exact to_)))|(refine rx_rowstore 1 rfl rfl rfl rfl (by show 0 + ((k : Int) - 1).toNat * 2 + 2 ≤ _;omega) rfl (spl_dot' (j := k - 1) (x := Lm[i]) (by omega) (by omega)) rfl rfl ?_ ?_ ?_;(·(first|exact ybf|(refine .inl ?_;(first|exact fun w s => hLS _ hIl hins w s|exact fun w s => hLS _ hl2 hins2 w s))|exact to_));(·(first|exact ybf|(refine .inl ?_;(first|exact fun w s => hLS _ hIl hins w s|exact fun w s => hLS _ hl2 hins2 w s))|exact to_))))|refine t1_ ?_|(refine ta_ ?_;intro _)|((fail_if_success (refine ybi rfl ?_));refine ybj rfl ?_ ?_<;>(intro ht;rw [ht];first|replace ht := of_decide_eq_true ht|replace ht := of_decide_eq_false ht|skip))|(refine ych ?_;first|(refine ybw rfl ?_ ?_<;>intro ht)|(refine ybx rfl ?_ ?_<;>intro ht)))
                refine nx_round (k - 1) ⟨by omega, hnextk hq⟩ (by omega) (by repeat' (first | exact Sub.nil | refine Sub.cons rfl rfl ?_ | refine Sub.cons rfl (congrArg (Value.int .i64) hkc) ?_)) (fun _ s => ?_)
                rw [← insD_set (by omega) hk]
                exact s
              · have hne : M[k - 1] ≠ Lm[i] := fun e => hno.1 (by rw [← e]; exact List.getElem_mem _)
                have hq : ordD M[k - 1] Lm[i] < 0 := by
                  rw [ord_neg]
                  have : M[k - 1].2 ≠ Lm[i].2 := fun e => hne (Prod.ext hq1 e)
                  omega
                have hsrt := insD_sorted (d := Lm[i]) hMs hk hkd (fun _ => hq)
                repeat' (first|(refine ycf ?_;apply ybk;(·first|(apply yad;(·rfl);(·exact part_cells 1 rfl);(·rfl))|(apply yae;(·rfl);(·(first|exact yck (yaz 2 rfl) hul rfl|exact hc0 _ rfl|exact hc1 _ rfl))));(·rfl);(·rfl))|(first|(refine rx_rowstore 1 rfl rfl rfl rfl (by show 0 + k * 2 + 2 ≤ _;omega) rfl (spl_dot' (j := k) (x := M[k - 1]) (by omega) (by omega)) rfl rfl ?_ ?_ ?_;(·(first|exact ybf|(refine .inl ?_;(first|exact fun w s => hLS _ hIl hins w s|exact fun w s => hLS _ hl2 hins2 w s))|exact to_));(·(first|exact ybf|(refine .inl ?_;(first|exact fun w s => hLS _ hIl hins w s|exact fun w s => hLS _ hl2 hins2 w s))|exact to_)))|(refine rx_rowstore 1 rfl rfl rfl rfl (by show 0 + ((k : Int) - 1).toNat * 2 + 2 ≤ _;omega) rfl (spl_dot' (j := k - 1) (x := Lm[i]) (by omega) (by omega)) rfl rfl ?_ ?_ ?_;(·(first|exact ybf|(refine .inl ?_;(first|exact fun w s => hLS _ hIl hins w s|exact fun w s => hLS _ hl2 hins2 w s))|exact to_));(·(first|exact ybf|(refine .inl ?_;(first|exact fun w s => hLS _ hIl hins w s|exact fun w s => hLS _ hl2 hins2 w s))|exact to_))))|refine t1_ ?_|(refine ta_ ?_;intro _)|((fail_if_success (refine ybi rfl ?_));refine ybj rfl ?_ ?_<;>(intro ht;rw [ht];first|replace ht := of_decide_eq_true ht|replace ht := of_decide_eq_false ht|skip))|(refine ych ?_;first|(refine ybw rfl ?_ ?_<;>intro ht)|(refine ybx rfl ?_ ?_<;>intro ht)))
                refine nx_round (i + 1, insD M k Lm[i], .slice (some ⟨g2, 0, none⟩) (M.length + 1) cap2) ⟨by show i + 1 ≤ _; omega, by show (insD M k Lm[i]).length ≤ i + 1; omega, hsrt, hmem⟩ (by show Lm.length - (i + 1) < Lm.length - i; omega) ts_ (fun _ s => ?_)
                dsimp only
                rw [hIl]
                exact s.tl
            · have hq : ordD M[k - 1] Lm[i] < 0 := by rw [ord_neg]; omega
              have hsrt := insD_sorted (d := Lm[i]) hMs hk hkd (fun _ => hq)
              repeat' (first|(refine ycf ?_;apply ybk;(·first|(apply yad;(·rfl);(·exact part_cells 1 rfl);(·rfl))|(apply yae;(·rfl);(·(first|exact yck (yaz 2 rfl) hul rfl|exact hc0 _ rfl|exact hc1 _ rfl))));(·rfl);(·rfl))|(first|(refine rx_rowstore 1 rfl rfl rfl rfl (by show 0 + k * 2 + 2 ≤ _;omega) rfl (spl_dot' (j := k) (x := M[k - 1]) (by omega) (by omega)) rfl rfl ?_ ?_ ?_;(·(first|exact ybf|(refine .inl ?_;(first|exact fun w s => hLS _ hIl hins w s|exact fun w s => hLS _ hl2 hins2 w s))|exact to_));(·(first|exact ybf|(refine .inl ?_;(first|exact fun w s => hLS _ hIl hins w s|exact fun w s => hLS _ hl2 hins2 w s))|exact to_)))|(refine rx_rowstore 1 rfl rfl rfl rfl (by show 0 + ((k : Int) - 1).toNat * 2 + 2 ≤ _;omega) rfl (spl_dot' (j := k - 1) (x := Lm[i]) (by omega) (by omega)) rfl rfl ?_ ?_ ?_;(·(first|exact ybf|(refine .inl ?_;(first|exact fun w s => hLS _ hIl hins w s|exact fun w s => hLS _ hl2 hins2 w s))|exact to_));(·(first|exact ybf|(refine .inl ?_;(first|exact fun w s => hLS _ hIl hins w s|exact fun w s => hLS _ hl2 hins2 w s))|exact to_))))|refine t1_ ?_|(refine ta_ ?_;intro _)|((fail_if_success (refine ybi rfl ?_));refine ybj rfl ?_ ?_<;>(intro ht;rw [ht];first|replace ht := of_decide_eq_true ht|replace ht := of_decide_eq_false ht|skip))|(refine ych ?_;first|(refine ybw rfl ?_ ?_<;>intro ht)|(refine ybx rfl ?_ ?_<;>intro ht)))
              refine nx_round (i + 1, insD M k Lm[i], .slice (some ⟨g2, 0, none⟩) (M.length + 1) cap2) ⟨by show i + 1 ≤ _; omega, by show (insD M k Lm[i]).length ≤ i + 1; omega, hsrt, hmem⟩ (by show Lm.length - (i + 1) < Lm.length - i; omega) ts_ (fun _ s => ?_)
              dsimp only
              rw [hIl]
              exact s.tl
            · omega
      · omega
    · have ei : i = Lm.length := by omega
      subst ei
      refine cx_persist rfl fun h3 hle3 hsm => ?_
      replace hsm : Ds h3 v M := hsm
      obtain ⟨_, adm, capm, rfl, _, _⟩ := id hsm
      obtain ⟨g1, g2⟩ := make_inv (u0 := u0) hul hI.bd hI.ge hI.mem (fun d hd => by
        obtain ⟨j, hj, rfl⟩ := List.getElem_of_mem hd
        exact hfix j hj hj) hr hMs (fun x => by rw [hMm x, List.take_length])
      repeat' (first|(refine ycf ?_;apply ybk;(·first|(apply yad;(·rfl);(·exact yaz 0 rfl);(·exact ycj hul))|(apply yae;(·rfl);(·exact yck (yaz 0 rfl) hul rfl)));(·rfl);(·rfl))|(refine ybg 1 rfl rfl rfl (cxc_sz hul) (cxc_fit hul) (cxc_one rfl) (ybh (cxc_all hul)) rfl rfl ?_ ?_ ?_;(·(first|exact ybf|(refine .inl ?_;(first|exact fun _ s => s))|exact to_));(·(first|exact ybf|(refine .inl ?_;(first|exact fun _ s => s))|exact to_)))|refine t1_ ?_|(refine ta_ ?_;intro _)|((fail_if_success (refine ybi rfl ?_));refine ybj rfl ?_ ?_<;>(intro ht;rw [ht];first|replace ht := of_decide_eq_true ht|replace ht := of_decide_eq_false ht|skip))|(refine ych ?_;first|(refine ybw rfl ?_ ?_<;>intro ht)|(refine ybx rfl ?_ ?_<;>intro ht)))
      any_goals omega
      · have hgt := ht
        refine nx_ret2 rfl (rv_cells rfl (yaz 1 rfl) rfl) (rv_tmp rfl) (fun w' s' => ⟨(h3, cxv zeroU (.slice none 0 0), 11, (u, M)), rfl, s'.nil, g1, g2, ?_⟩)
        rw [if_pos (by show 32 < M.length; omega)]
        exact ⟨rfl, rfl, _, rfl, Sc.nil h3 2 none 0⟩
      · have hgt := ht
        refine nx_ret2 rfl (rv_cells rfl (yaz 1 rfl) (cxc_all hul)) (rv_tmp rfl) (fun w' s' => ⟨(h3, cxv u (.slice adm M.length capm), 0, (u, M)), rfl, s'.nil, g1, g2, ?_⟩)
        rw [if_neg (by show ¬ 32 < M.length; omega)]
        exact ⟨rfl, hul, _, rfl, hsm⟩
end Go.Proofs.Ytkkjppeaaicgaaa
end

section
namespace Go.Proofs.Ytkkjppeaaicgaaa
open Go Go.Ck
set_option maxRecDepth 100000
set_option maxHeartbeats 4000000
set_option linter.unusedVariables false

/-- what the document tells to have been seen -/
def SeenQ (l : List Ab) (u : List Int) (m : List Dt) (e : Int) : Prop :=
  if checkA l ≠ 0 then e = checkA l ∧ u = zeroU ∧ m = [] else ∃ U T, Inv U T ∧ (∀ x, rightB x = true → hasC U T x = seenA l x) ∧ (if 32 < T.length then e = 11 ∧ u = zeroU ∧ m = [] else e = 0 ∧ u = U ∧ m = T)
theorem seen_q {l : List Sb} (x : Dt) (hx : rightB x = true) : (hasC (upS l l.length) [] x || decide (x ∈ dotS l l.length)) = seenA (l.map Sb.a) x := seen_eq (List.Perm.refl _) x hx

theorem rseen_sp (v : Value) (l : List Sb) (h : View) (hs : Rs h v l) (fl : Fits l) (w : World) (s : St ⟨w, h, []⟩ h [] w) :
    Calls Try.prog 54 [v].toArray w fun e w' => ∃ z : View × Value × List Int × List Dt × Int, e = .returned (.tuple #[z.2.1, .int .i64 z.2.2.2.2]) ∧ St ⟨w, h, []⟩ z.1 [] w' ∧ Cx z.1 z.2.1 z.2.2.1 z.2.2.2.1 ∧ SeenQ (l.map Sb.a) z.2.2.1 z.2.2.2.1 z.2.2.2.2 := by
  have CA := rcheck_sp v l h hs (by have := fl.1; omega) (fun x hx => by have := (fl.2 x hx); omega)
  obtain ⟨hs, hsv⟩ := hs
  obtain ⟨_, ad, cap, rfl, hcap, _⟩ := id hs
  refine calls_enter Try.func54 rfl Try.ntmps54 rfl s ?_
  by_cases hz : checkA (l.map Sb.a) = 0
  · --
    repeat' (first | (refine ycf ?_; apply ybk; (· first | (exact tk_)); (· rfl); (· rfl)) | refine t1_ ?_ | (refine ta_ ?_; intro _) | ((fail_if_success (refine ybi rfl ?_)); refine ybj rfl ?_ ?_ <;> (intro ht; rw [ht]; first | replace ht := of_decide_eq_true ht | replace ht := of_decide_eq_false ht | skip)) | (refine ych ?_; first | (refine ybw rfl ?_ ?_ <;> intro ht) | (refine ybx rfl ?_ ?_ <;> intro ht)))
    (refine ycn (ycp Try.func52 rfl (by kernel_rfl) rfl) (CA) rfl rfl rfl ?_ ?_; (· (exact to_)))
    repeat' (first | (refine ycf ?_; apply ybk; (· first | (exact tk_)); (· rfl); (· rfl)) | refine t1_ ?_ | (refine ta_ ?_; intro _) | ((fail_if_success (refine ybi rfl ?_)); refine ybj rfl ?_ ?_ <;> (intro ht; rw [ht]; first | replace ht := of_decide_eq_true ht | replace ht := of_decide_eq_false ht | skip)) | (refine ych ?_; first | (refine ybw rfl ?_ ?_ <;> intro ht) | (refine ybx rfl ?_ ?_ <;> intro ht)))
    rename_i b2 b5
    obtain ⟨cl64, cr, _, _⟩ := checkA_ok hz
    rw [List.length_map] at cl64
    have hr : ∀ s ∈ l, rightB s.d = true ∧ checkC s.u s.l = 0 := fun s hs => by
      have := rightA_ok (cr s.a (List.mem_map_of_mem hs))
      exact ⟨this.1, this.2.1⟩
    have h32 : ∀ s ∈ l, s.l.length ≤ 32 := fun s hs => (check_right (hr s hs).2).2.1
    refine cx_row 39 2 ?_
    refine cx_loop (X := Nat × Value) (fun x => [(0, .slice ad l.length cap), (2, .pointer (some ⟨b2, 0, none⟩)), (5, .pointer (some ⟨b5, 0, none⟩)), (6, x.2), (7, .int .i64 (x.1 : Nat))]) (fun _ => h)
      (fun x => [rowD x.2 (dotS l x.1), Res.blk b5 (.cells (up (upS l x.1)).toArray 30 (0, 0)), Res.blk b2 (.cells (cxc zeroU (.slice none 0 0)).toArray 69 (0, 0))])
      (fun x => x.1 ≤ l.length) (fun x => l.length - x.1) (0, .slice none 0 0) (Nat.zero_le _) ts_ (fun _ s => s) ?_
    rintro ⟨k, rv⟩ hk
    dsimp only at hk ⊢
    have hUl := upS_len l k hk
    by_cases hkl : k < l.length
    · obtain ⟨bs, o, rfl⟩ := hs.ad (by omega) (by omega)
      have hel : ∀ L, Cells h L ⟨bs, o + k * 20, none⟩ (sbc l[k]) := fun L => hs.elem sbc_len k hkl
      have hxv : Rv h l[k] := hsv _ (List.getElem_mem hkl)
      have hlim := fl.2 _ (List.getElem_mem hkl)
      have he32 := h32 _ (List.getElem_mem hkl)
      have hU1 := upS_succ hkl
      have hd1 := dotS_succ hkl
      generalize l[k] = e0 at hel hxv hlim hU1 hd1 he32
      generalize upS l k = U at hUl hU1 ⊢
      have hxl := sbc_len e0
      have hmK : ∀ i, i ≤ 16 → (maxK U e0.u i).length = 16 := fun i hi => maxK_len hUl e0.hu hi
      repeat' (first | (refine ycf ?_; apply ybk; (· first | (exact tk_)); (· rfl); (· rfl)) | refine t1_ ?_ | (refine ta_ ?_; intro _) | ((fail_if_success (refine ybi rfl ?_)); refine ybj rfl ?_ ?_ <;> (intro ht; rw [ht]; first | replace ht := of_decide_eq_true ht | replace ht := of_decide_eq_false ht | skip)) | (refine ych ?_; first | (refine ybw rfl ?_ ?_ <;> intro ht) | (refine ybx rfl ?_ ?_ <;> intro ht)))
      refine cx_loop (X := Nat) (fun i => [(0, .slice (some ⟨bs, o, none⟩) l.length cap), (2, .pointer (some ⟨b2, 0, none⟩)), (5, .pointer (some ⟨b5, 0, none⟩)), (6, rv), (7, .int .i64 (k : Nat)), (8, .int .i64 (i : Nat))]) (fun _ => h)
        (fun i => [rowD rv (dotS l k), Res.blk b5 (.cells (up (maxK U e0.u i)).toArray 30 (0, 0)), Res.blk b2 (.cells (cxc zeroU (.slice none 0 0)).toArray 69 (0, 0))])
        (fun i => i ≤ 16) (fun i => 16 - i) 0 (Nat.zero_le _) ts_ (fun _ s => s) ?_
      intro i hi
      by_cases hi16 : i < 16
      · have hset := maxK_set hUl e0.hu hi16
        have hat := maxK_at hUl e0.hu hi16
        have hKl := hmK i hi
        have hmx : (if e0.u.getD i 0 > U.getD i 0 then e0.u.getD i 0 else U.getD i 0) = maxI (U.getD i 0) (e0.u.getD i 0) := rfl
        have hpc : ∀ L, CellAt h L bs (o + k * 20 + 2 + 0 + i * 1) (.int .i64 (e0.u.getD i 0)) := fun L => by
          have := (sb_past (hel L)).cell (cxc_up (mv := e0.mv) (show i < e0.u.length by rw [e0.hu]; exact hi16))
          rw [Nat.mul_one, Nat.add_zero]
          exact this
        repeat' (first|(refine ycf ?_;apply ybk;(·first|(first|exact tk_|(refine qv_max' rfl rfl rfl))|(apply yae;(·rfl);(·(first|exact hpc _|exact cell_upy hat (yaz 1 rfl) (by omega) (by omega)))));(·rfl);(·rfl))|(refine ybg 1 rfl rfl rfl rfl (fit_up (i := i) (by omega) (by omega)) rfl (spl_up (i := i) (by omega) (by omega)) rfl rfl ?_ ?_ ?_;(·(exact to_));(·(exact to_)))|refine t1_ ?_|(refine ta_ ?_;intro _)|((fail_if_success (refine ybi rfl ?_));refine ybj rfl ?_ ?_<;>(intro ht;rw [ht];first|replace ht := of_decide_eq_true ht|replace ht := of_decide_eq_false ht|skip))|(refine ych ?_;first|(refine ybw rfl ?_ ?_<;>intro ht)|(refine ybx rfl ?_ ?_<;>intro ht)))
        refine cx_region_draw' rfl (by kernel_rfl) ?_
        repeat' (refine ycf ?_;(first|(first|(apply ybm;(·(first|(first|exact tk_|(refine qv_max' rfl rfl rfl))|(apply yae;(·rfl);(·(first|exact hpc _|exact cell_upy hat (yaz 1 rfl) (by omega) (by omega))))|exact tq_));(·rfl);(·rfl);(·(exact th_)))|refine ybl rfl rfl ?_|((fail_if_success (refine ybi rfl ?_));refine ybj rfl ?_ ?_<;>(intro ht;rw [ht];first|replace ht := of_decide_eq_true ht|replace ht := of_decide_eq_false ht|skip))|(refine tb_ ?_ ?_ ?_;(·(exact to_));(·intro _;(exact to_));intro _)|(first|(refine ybg 1 rfl rfl rfl rfl (fit_up (i := i) (by omega) (by omega)) rfl (spl_up (i := i) (by omega) (by omega)) rfl rfl ?_ ?_ ?_;(·(exact to_));(·(exact to_)))|(refine tqs_ ?_ ?_ ?_;(·(exact to_));(·(exact to_))))|(apply ybn;(·(first|(first|exact tk_|(refine qv_max' rfl rfl rfl))|(apply yae;(·rfl);(·(first|exact hpc _|exact cell_upy hat (yaz 1 rfl) (by omega) (by omega))))|exact tq_));(·rfl);(·rfl);(·rfl);(·(exact to_))))|refine ycg ?_))
        repeat' (first|(refine ycf ?_;apply ybk;(·first|(first|exact tk_|(refine qv_max' rfl rfl rfl))|(apply yae;(·rfl);(·(first|exact hpc _|exact cell_upy hat (yaz 1 rfl) (by omega) (by omega)))));(·rfl);(·rfl))|(refine ybg 1 rfl rfl rfl rfl (fit_up (i := i) (by omega) (by omega)) rfl (spl_up (i := i) (by omega) (by omega)) rfl rfl ?_ ?_ ?_;(·(exact to_));(·(exact to_)))|refine t1_ ?_|(refine ta_ ?_;intro _)|((fail_if_success (refine ybi rfl ?_));refine ybj rfl ?_ ?_<;>(intro ht;rw [ht];first|replace ht := of_decide_eq_true ht|replace ht := of_decide_eq_false ht|skip))|(refine ych ?_;first|(refine ybw rfl ?_ ?_<;>intro ht)|(refine ybx rfl ?_ ?_<;>intro ht)))
        refine nx_round (i + 1) (by show i + 1 ≤ _; omega) (by show 16 - (i + 1) < 16 - i; omega) ts_ (fun _ s => ?_)
        rw [← hset]
        exact s
      · have ei : i = 16 := by omega
        subst ei
        rw [maxK_all hUl e0.hu, ← hU1]
        repeat' (first | (refine ycf ?_; apply ybk; (· first | (exact tk_)); (· rfl); (· rfl)) | refine t1_ ?_ | (refine ta_ ?_; intro _) | ((fail_if_success (refine ybi rfl ?_)); refine ybj rfl ?_ ?_ <;> (intro ht; rw [ht]; first | replace ht := of_decide_eq_true ht | replace ht := of_decide_eq_false ht | skip)) | (refine ych ?_; first | (refine ybw rfl ?_ ?_ <;> intro ht) | (refine ybx rfl ?_ ?_ <;> intro ht)))
        have hdl := dotS_len h32 k hk
        have h32e : e0.l.length ≤ 32 := he32
        obtain ⟨_, adm, capm, hmv, _, _⟩ := id hxv.ds
        have hds := hxv.ds
        rw [hmv] at hds
        have hmc : ∀ L, CellAt h L bs (o + k * 20 + 2 + 16) (.slice adm e0.l.length capm) := fun L => by
          rw [← hmv]
          exact (sb_past (hel L)).cell (cxc_more e0.hu)
        refine cx_region_drawL [] [] rfl (by kernel_rfl) ?_
        repeat' (refine ycf ?_;(first|(first|(apply ybm;(·(first|(first|exact tk_|(apply yad;(·rfl);(·exact sb_dot (hel _));(·rfl)))|(apply yae;(·rfl);(·(exact hmc _)))|exact tq_));(·rfl);(·rfl);(·(exact fun _ s => Hd.sub s (Le.refl _) (fun r hr => by cases hr))))|refine ybl rfl rfl ?_|((fail_if_success (refine ybi rfl ?_));refine ybj rfl ?_ ?_<;>(intro ht;rw [ht];first|replace ht := of_decide_eq_true ht|replace ht := of_decide_eq_false ht|skip))|(refine tb_ ?_ ?_ ?_;(·(first|exact ybf|(refine .inl ?_;(exact fun _ s => Hd.sub s (Le.refl _) (fun r hr => by cases hr)))|exact to_));(·intro _;(first|exact ybf|(refine .inl ?_;(exact fun _ s => Hd.sub s (Le.refl _) (fun r hr => by cases hr)))|exact to_));intro _)|(first|(refine tqs_ ?_ ?_ ?_;(·(first|exact ybf|(refine .inl ?_;(exact fun _ s => Hd.sub s (Le.refl _) (fun r hr => by cases hr)))|exact to_));(·(first|exact ybf|(refine .inl ?_;(exact fun _ s => Hd.sub s (Le.refl _) (fun r hr => by cases hr)))|exact to_))))|(apply ybn;(·(first|(first|exact tk_|(apply yad;(·rfl);(·exact sb_dot (hel _));(·rfl)))|(apply yae;(·rfl);(·(exact hmc _)))|exact tq_));(·rfl);(·rfl);(·rfl);(·(first|exact ybf|(refine .inl ?_;(exact fun _ s => Hd.sub s (Le.refl _) (fun r hr => by cases hr)))|exact to_))))|refine ycg ?_))
        refine rx_append (sz := 2) 1 rfl rfl rfl (yaz 0 rfl) rfl (one_dcs [e0.d]) rfl (by omega) (by unfold maxLen; omega) (by omega) rfl rfl rfl ?_ ?_ ?_
        · (first | exact ybf | (refine .inl ?_; (exact fun _ s => Hd.sub s (Le.refl _) (fun r hr => by cases hr))) | exact to_)
        · intro v'; (first | exact ybf | (refine .inl ?_; (exact fun _ s => Hd.sub s (Le.refl _) (fun r hr => by cases hr))) | exact to_)
        intro v3 _
        repeat' (refine ycf ?_;(first|(first|(apply ybm;(·(first|(first|exact tk_|(apply yad;(·rfl);(·exact sb_dot (hel _));(·rfl)))|(apply yae;(·rfl);(·(exact hmc _)))|exact tq_));(·rfl);(·rfl);(·(exact fun _ s => Hd.sub s (Le.refl _) (fun r hr => by cases hr))))|refine ybl rfl rfl ?_|((fail_if_success (refine ybi rfl ?_));refine ybj rfl ?_ ?_<;>(intro ht;rw [ht];first|replace ht := of_decide_eq_true ht|replace ht := of_decide_eq_false ht|skip))|(refine tb_ ?_ ?_ ?_;(·(first|exact ybf|(refine .inl ?_;(exact fun _ s => Hd.sub s (Le.refl _) (fun r hr => by cases hr)))|exact to_));(·intro _;(first|exact ybf|(refine .inl ?_;(exact fun _ s => Hd.sub s (Le.refl _) (fun r hr => by cases hr)))|exact to_));intro _)|(first|(refine tqs_ ?_ ?_ ?_;(·(first|exact ybf|(refine .inl ?_;(exact fun _ s => Hd.sub s (Le.refl _) (fun r hr => by cases hr)))|exact to_));(·(first|exact ybf|(refine .inl ?_;(exact fun _ s => Hd.sub s (Le.refl _) (fun r hr => by cases hr)))|exact to_))))|(apply ybn;(·(first|(first|exact tk_|(apply yad;(·rfl);(·exact sb_dot (hel _));(·rfl)))|(apply yae;(·rfl);(·(exact hmc _)))|exact tq_));(·rfl);(·rfl);(·rfl);(·(first|exact ybf|(refine .inl ?_;(exact fun _ s => Hd.sub s (Le.refl _) (fun r hr => by cases hr)))|exact to_))))|refine ycg ?_))
        refine rx_append_sc (sz := 2) (m := e0.l.length) (news := e0.l.flatMap dcs) 1 rfl rfl rfl hds (one_dcs _) rfl (by omega) (by unfold maxLen; omega) (by omega) rfl rfl rfl ?_ ?_ ?_
        · (first | exact ybf | (refine .inl ?_; (exact fun _ s => Hd.sub s (Le.refl _) (fun r hr => by cases hr))) | exact to_)
        · intro v'; (first | exact ybf | (refine .inl ?_; (exact fun _ s => Hd.sub s (Le.refl _) (fun r hr => by cases hr))) | exact to_)
        intro v4 _
        repeat' (refine ycf ?_;(first|(first|(apply ybm;(·(first|(first|exact tk_|(apply yad;(·rfl);(·exact sb_dot (hel _));(·rfl)))|(apply yae;(·rfl);(·(exact hmc _)))|exact tq_));(·rfl);(·rfl);(·(exact fun _ s => Hd.sub s (Le.refl _) (fun r hr => by cases hr))))|refine ybl rfl rfl ?_|((fail_if_success (refine ybi rfl ?_));refine ybj rfl ?_ ?_<;>(intro ht;rw [ht];first|replace ht := of_decide_eq_true ht|replace ht := of_decide_eq_false ht|skip))|(refine tb_ ?_ ?_ ?_;(·(first|exact ybf|(refine .inl ?_;(exact fun _ s => Hd.sub s (Le.refl _) (fun r hr => by cases hr)))|exact to_));(·intro _;(first|exact ybf|(refine .inl ?_;(exact fun _ s => Hd.sub s (Le.refl _) (fun r hr => by cases hr)))|exact to_));intro _)|(first|(refine tqs_ ?_ ?_ ?_;(·(first|exact ybf|(refine .inl ?_;(exact fun _ s => Hd.sub s (Le.refl _) (fun r hr => by cases hr)))|exact to_));(·(first|exact ybf|(refine .inl ?_;(exact fun _ s => Hd.sub s (Le.refl _) (fun r hr => by cases hr)))|exact to_))))|(apply ybn;(·(first|(first|exact tk_|(apply yad;(·rfl);(·exact sb_dot (hel _));(·rfl)))|(apply yae;(·rfl);(·(exact hmc _)))|exact tq_));(·rfl);(·rfl);(·rfl);(·(first|exact ybf|(refine .inl ?_;(exact fun _ s => Hd.sub s (Le.refl _) (fun r hr => by cases hr)))|exact to_))))|refine ycg ?_))
        repeat' (first | (refine ycf ?_; apply ybk; (· first | (exact tk_)); (· rfl); (· rfl)) | refine t1_ ?_ | (refine ta_ ?_; intro _) | ((fail_if_success (refine ybi rfl ?_)); refine ybj rfl ?_ ?_ <;> (intro ht; rw [ht]; first | replace ht := of_decide_eq_true ht | replace ht := of_decide_eq_false ht | skip)) | (refine ych ?_; first | (refine ybw rfl ?_ ?_ <;> intro ht) | (refine ybx rfl ?_ ?_ <;> intro ht)))
        refine nx_round (k + 1, v4) (by show k + 1 ≤ _; omega) (by show l.length - (k + 1) < l.length - k; omega) ts_ (fun _ s => ?_)
        have s2 := s.tl
        dsimp only
        rw [hd1]
        show St _ h [Res.row _ _ v4 ((dotS l k ++ [e0.d]) ++ e0.l).length (((dotS l k ++ [e0.d]) ++ e0.l).flatMap dcs), _, _] _
        rw [List.length_append, List.length_append, List.flatMap_append, List.flatMap_append]
        exact s2
    · have ek : k = l.length := by omega
      subst ek
      have hRl := dotS_len h32 l.length (Nat.le_refl _)
      have hUb := upS_bd hr _ (Nat.le_refl l.length)
      have hRr : ∀ d ∈ dotS l l.length, rightB d = true := fun d hd => by
        unfold dotS at hd
        rw [List.take_length] at hd
        obtain ⟨s, hs, hd⟩ := List.mem_flatMap.1 hd
        rcases List.mem_cons.1 hd with rfl | hd
        · exact (hr s hs).1
        · exact (check_right (hr s hs).2).2.2 d hd
      have hq := fun x hx => seen_q (l := l) x hx
      generalize upS l l.length = U at hUl hUb hq ⊢
      generalize dotS l l.length = R at hRl hRr hq ⊢
      iterate 6 (first | (refine ycf ?_; apply ybk; (· first | (first | exact tk_ | (apply yad (vs := up U); (· rfl); (· exact yaz 0 rfl); (· simp [up, hUl])))); (· rfl); (· rfl)) | refine t1_ ?_ | (refine ta_ ?_; intro _) | ((fail_if_success (refine ybi rfl ?_)); refine ybj rfl ?_ ?_ <;> (intro ht; rw [ht]; first | replace ht := of_decide_eq_true ht | replace ht := of_decide_eq_false ht | skip)) | (refine ych ?_; first | (refine ybw rfl ?_ ?_ <;> intro ht) | (refine ybx rfl ?_ ?_ <;> intro ht)))
      refine rx_persist rfl fun h1 hle1 hs1 => ?_
      have hs1' : Ds h1 rv R := hs1
      repeat' (first | (refine ycf ?_; apply ybk; (· first | (first | exact tk_ | (apply yad (vs := up U); (· rfl); (· exact yaz 0 rfl); (· simp [up, hUl])))); (· rfl); (· rfl)) | refine t1_ ?_ | (refine ta_ ?_; intro _) | ((fail_if_success (refine ybi rfl ?_)); refine ybj rfl ?_ ?_ <;> (intro ht; rw [ht]; first | replace ht := of_decide_eq_true ht | replace ht := of_decide_eq_false ht | skip)) | (refine ych ?_; first | (refine ybw rfl ?_ ?_ <;> intro ht) | (refine ybx rfl ?_ ?_ <;> intro ht)))
      (refine yco (ycp Try.func70 rfl (by kernel_rfl) rfl) (refMake_sp U rv R h1 hUl hUb hs1' hRr (by omega)) rfl rfl rfl ?_ ?_ ?_; (· (exact to_)); (· intro _ _ hle; (exact to_)); intro x px hle)
      obtain ⟨h4, v4, er, U', T⟩ := x
      replace hle : Le h1 h4 := hle
      obtain ⟨p1, p2, p3⟩ := px
      dsimp only at p1 p2 p3
      have hcx : ∃ cu cl, Cx h4 v4 cu cl ∧ (if 32 < T.length then er = 11 ∧ cu = zeroU ∧ cl = [] else er = 0 ∧ cu = U' ∧ cl = T) := by
        by_cases h32 : 32 < T.length
        · rw [if_pos h32] at p3
          exact ⟨_, _, p3.2, by rw [if_pos h32]; exact ⟨p3.1, rfl, rfl⟩⟩
        · rw [if_neg h32] at p3
          exact ⟨_, _, p3.2, by rw [if_neg h32]; exact ⟨p3.1, rfl, rfl⟩⟩
      obtain ⟨cu, cl, hcx, hout⟩ := hcx
      obtain ⟨hu', mv', rfl, hs'⟩ := hcx
      obtain ⟨_, ad', cap', rfl, _, _⟩ := id hs'
      repeat' (first | (refine ycf ?_; apply ybk; (· first | (exact tk_)); (· rfl); (· rfl)) | (refine ybg 1 rfl rfl rfl (cxc_sz hu') (cxc_fit hu') (cxc_one rfl) (ybh (cxc_all hu')) rfl rfl ?_ ?_ ?_; (· (exact to_)); (· (exact to_))) | refine t1_ ?_ | (refine ta_ ?_; intro _) | ((fail_if_success (refine ybi rfl ?_)); refine ybj rfl ?_ ?_ <;> (intro ht; rw [ht]; first | replace ht := of_decide_eq_true ht | replace ht := of_decide_eq_false ht | skip)) | (refine ych ?_; first | (refine ybw rfl ?_ ?_ <;> intro ht) | (refine ybx rfl ?_ ?_ <;> intro ht)))
      refine nx_ret2 rfl (rv_cells rfl (yaz 1 rfl) (cxc_all hu')) (rv_tmp rfl) (fun w' s' => ⟨(h4, cxv cu (.slice ad' cl.length cap'), cu, cl, er), rfl, s'.nil, ⟨hu', _, rfl, hs'⟩, ?_⟩)
      unfold SeenQ
      rw [if_neg (by rw [hz]; decide)]
      exact ⟨U', T, p1, fun x hx => (p2 x hx).trans (hq x hx), hout⟩
  · --
    repeat' (first | (refine ycf ?_; apply ybk; (· first | (exact tk_)); (· rfl); (· rfl)) | refine t1_ ?_ | (refine ta_ ?_; intro _) | ((fail_if_success (refine ybi rfl ?_)); refine ybj rfl ?_ ?_ <;> (intro ht; rw [ht]; first | replace ht := of_decide_eq_true ht | replace ht := of_decide_eq_false ht | skip)) | (refine ych ?_; first | (refine ybw rfl ?_ ?_ <;> intro ht) | (refine ybx rfl ?_ ?_ <;> intro ht)))
    (refine ycn (ycp Try.func52 rfl (by kernel_rfl) rfl) (CA) rfl rfl rfl ?_ ?_; (· (exact to_)))
    repeat' (first | (refine ycf ?_; apply ybk; (· first | (exact tk_)); (· rfl); (· rfl)) | refine t1_ ?_ | (refine ta_ ?_; intro _) | ((fail_if_success (refine ybi rfl ?_)); refine ybj rfl ?_ ?_ <;> (intro ht; rw [ht]; first | replace ht := of_decide_eq_true ht | replace ht := of_decide_eq_false ht | skip)) | (refine ych ?_; first | (refine ybw rfl ?_ ?_ <;> intro ht) | (refine ybx rfl ?_ ?_ <;> intro ht)))
    refine nx_ret2 rfl (rv_cells rfl (yaz 0 rfl) rfl) (rv_tmp rfl) (fun w' s' => ⟨(h, cxv zeroU (.slice none 0 0), zeroU, [], checkA (l.map Sb.a)), rfl, s'.nil, ⟨rfl, _, rfl, Sc.nil h 2 none 0⟩, ?_⟩)
    unfold SeenQ
    rw [if_pos hz]
    exact ⟨rfl, rfl, rfl⟩
end Go.Proofs.Ytkkjppeaaicgaaa
end
