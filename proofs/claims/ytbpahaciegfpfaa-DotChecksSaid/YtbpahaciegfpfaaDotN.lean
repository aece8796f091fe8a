/-
  DotN: the law DotNext holds of every input.
  Conditions: a list of at most 2^62 dots.
-/
import Derived.Test.YtbpahaciegfpfaaCkConv
import Derived.Test.YtbpahaciegfpfaaDotM
namespace Go.Proofs.Ytbpahaciegfpfaa
open Go Go.Ck Go.Shelf
set_option maxRecDepth 100000
set_option maxHeartbeats 1000000
set_option linter.unusedVariables false

theorem cxc_fit' {u v : List Int} {x y : Value} (hu : u.length = 16) (hv : v.length = 16) : 0 + (Value.agg (cxc u x).toArray).cells.size ≤ (cxv v y).cells.size := by
  have h1 := cxc_sz (x := x) hu
  have h2 : (cxv v y).cells.size = 17 := cxc_sz hv
  omega
theorem cxc_all' {u v : List Int} {x y : Value} (hu : u.length = 16) (hv : v.length = 16) : (Value.agg (cxc u x).toArray).cells.toList.length = (cxv v y).cells.toList.length := by
  have h1 := cxc_all (x := x) hu
  have h2 : (cxv v y).cells.toList.length = 17 := cxc_all hv
  omega

theorem rem_fact (m : Int) : ∃ r, IntKind.i64.wrap ((IntKind.u64.wrap m).tmod 1000) = r ∧ 0 ≤ r ∧ r < 1000 := by
  refine ⟨_, rfl, ?_⟩
  have h1 : 0 ≤ IntKind.u64.wrap m := by
    simp only [IntKind.wrap, IntKind.bits, IntKind.signed]
    simp
    omega
  rw [Int.tmod_eq_emod_of_nonneg h1]
  generalize IntKind.u64.wrap m = x at h1
  simp only [IntKind.wrap, IntKind.bits, IntKind.signed]
  simp
  omega

theorem more_at {u : List Int} {l : List Dt} (hk : checkC u l = 0) {i : Nat} (hi : i < l.length) : uD u l[i] + 1 < l[i].2 ∧ (∀ (hj : i ≠ 0), ordD l[i - 1] l[i] < 0) := by
  unfold checkC at hk
  split at hk
  · cases hk
  split at hk
  · cases hk
  split at hk
  · cases hk
  · rename_i _ _ h3
    have h3 : moresOk u l = true := by simpa using h3
    have := List.all_eq_true.1 h3 i (List.mem_range.2 hi)
    simp only [moreB, Bool.and_eq_true, Bool.or_eq_true, decide_eq_true_iff] at this
    have e1 : l.getD i (0, 0) = l[i] := by simp [hi]
    have e2 : l.getD (i - 1) (0, 0) = l[i - 1] := by simp [show i - 1 < l.length by omega]
    rw [e1, e2] at this
    exact ⟨this.1.2, fun hj => this.2.resolve_left hj⟩
theorem ord_iff {x y : Dt} : ordD x y < 0 ↔ (x.1 < y.1 ∨ x.1 = y.1 ∧ x.2 < y.2) := by
  have := ord_lt x y
  unfold ltOf at this
  rwa [decide_eq_decide] at this
theorem more_sorted {u : List Int} {l : List Dt} (hk : checkC u l = 0) : ∀ (j i : Nat) (hj : j < l.length) (hij : i < j), ordD l[i] l[j] < 0 := by
  intro j
  induction j with
  | zero => intro i _ h; omega
  | succ j ih =>
    intro i hj hij
    have h1 := (more_at hk hj).2 (by omega)
    simp only [Nat.add_sub_cancel] at h1
    by_cases e : i = j
    · subst e; exact h1
    · have h2 := ih i (by omega) (by omega)
      rw [ord_iff] at h1 h2 ⊢
      omega
theorem lastN_max {u : List Int} {l : List Dt} (hk : checkC u l = 0) (c : Int) : u.getD (c - 1).toNat 0 ≤ lastN u l c ∧ (∀ d ∈ l, d.1 = c → d.2 ≤ lastN u l c) ∧ (lastN u l c ≤ u.getD (c - 1).toNat 0 ∨ (c, lastN u l c) ∈ l) := by
  have key : ∀ k, k ≤ l.length → u.getD (c - 1).toNat 0 ≤ lastN u (l.take k) c ∧ (∀ i (hi : i < l.length), i < k → l[i].1 = c → l[i].2 ≤ lastN u (l.take k) c) ∧ (lastN u (l.take k) c ≤ u.getD (c - 1).toNat 0 ∨ ∃ (i : Nat) (hi : i < l.length), i < k ∧ l[i] = (c, lastN u (l.take k) c)) := by
    intro k
    induction k with
    | zero => intro _; exact ⟨by simp [lastN], fun i hi h => by omega, .inl (by simp [lastN])⟩
    | succ k ih =>
      intro hkl
      obtain ⟨a1, a2, a3⟩ := ih (by omega)
      have hk1 : k < l.length := by omega
      rw [lastN_take hk1]
      by_cases hc : l[k].1 = c
      · rw [if_pos hc]
        have hu := (more_at hk hk1).1
        unfold uD at hu
        rw [hc] at hu
        refine ⟨by omega, fun i hi hik hic => ?_, .inr ⟨k, hk1, by omega, by rw [← hc]⟩⟩
        by_cases e : i = k
        · subst e; exact Int.le_refl _
        · have := ord_iff.1 (more_sorted hk k i hk1 (by omega))
          rw [hic, hc] at this
          omega
      · rw [if_neg hc]
        refine ⟨a1, fun i hi hik hic => ?_, ?_⟩
        · by_cases e : i = k
          · subst e; exact absurd hic hc
          · exact a2 i hi (by omega) hic
        · rcases a3 with h | ⟨i, hi, h1, h2⟩
          · exact .inl h
          · exact .inr ⟨i, hi, by omega, h2⟩
  have := key l.length (Nat.le_refl _)
  rw [List.take_length] at this
  obtain ⟨a1, a2, a3⟩ := this
  refine ⟨a1, fun d hd hdc => ?_, ?_⟩
  · obtain ⟨i, hi, rfl⟩ := List.getElem_of_mem hd
    exact a2 i hi hi hdc
  · rcases a3 with h | ⟨i, hi, _, h⟩
    · exact .inl h
    · exact .inr (by rw [← h]; exact List.getElem_mem hi)

theorem next_facts (u : List Int) (l : List Dt) (c : Int) : (nextC u l c).2 = 0 → 1 ≤ (nextC u l c).1 ∧ (nextC u l c).1 ≤ 1099511627776 ∧
    (∀ k, (nextC u l c).1 ≤ k → (decide (checkC u l = 0) && rightB (c, k) && hasC u l (c, k)) = false) ∧ ((nextC u l c).1 ≠ 1 → (decide (checkC u l = 0) && rightB (c, (nextC u l c).1 - 1) && hasC u l (c, (nextC u l c).1 - 1)) = true) := by
  intro h0
  have hN : checkC u l = 0 ∧ 1 ≤ c ∧ c ≤ 16 ∧ lastN u l c ≠ 1099511627776 ∧ nextC u l c = (lastN u l c + 1, 0) := by
    unfold nextC at h0 ⊢
    by_cases g1 : checkC u l ≠ 0 ∨ c < 1 ∨ 16 < c
    · rw [if_pos g1] at h0; cases h0
    · rw [if_neg g1] at h0 ⊢
      by_cases g2 : lastN u l c = 1099511627776
      · rw [if_pos g2] at h0; cases h0
      · rw [if_neg g2]
        exact ⟨by omega, by omega, by omega, g2, rfl⟩
  obtain ⟨hk, hc1, hc2, hf, he⟩ := hN
  rw [he]
  dsimp only
  obtain ⟨q1, q2, q3⟩ := check_right hk
  have hb := lastN_bd (c := c) q1 l q3
  have hmax := lastN_max hk c
  refine ⟨by omega, by omega, fun k hk2 => ?_, fun hn => ?_⟩
  · have : hasC u l (c, k) = false := by
      unfold hasC uD
      simp only [Bool.or_eq_false_iff, decide_eq_false_iff_not]
      refine ⟨by have := hmax.1; omega, fun hm => ?_⟩
      have := hmax.2.1 (c, k) hm rfl
      simp only at this
      omega
    rw [this, Bool.and_false]
  · have e1 : lastN u l c + 1 - 1 = lastN u l c := by omega
    rw [e1]
    have h1 : rightB (c, lastN u l c) = true := by simp [rightB]; omega
    have h2 : hasC u l (c, lastN u l c) = true := by
      unfold hasC uD
      simp only [Bool.or_eq_true, decide_eq_true_iff]
      rcases hmax.2.2 with h | h
      · exact .inl (by omega)
      · exact .inr h
    simp [hk, h1, h2]

theorem DotNext_sp (cv : Value) (u : List Int) (l : List Dt) (c m : Int) (h : View) (hc : Cx h cv u l) (hl : l.length ≤ 9223372036854775807) (w : World) (s : St ⟨w, h, []⟩ h [] w) :
    Calls Try.prog 4 [cv, .int .i64 c, .int .i64 m].toArray w fun e w' => e = .returned (.bool true) ∧ St ⟨w, h, []⟩ h [] w' := by
  have hc0 := hc
  obtain ⟨hu, mv, rfl, hs⟩ := hc
  obtain ⟨_, ad, cap, rfl, hcap, _⟩ := id hs
  refine calls_enter Try.func4 rfl Try.ntmps4 rfl s ?_
  repeat' (first | (refine ycf ?_; apply ybk; (· first | (first | (apply yad; (· rfl); (· exact yaz 0 rfl); (· exact ycj hu)) | (apply yad; (· rfl); (· exact yaz 1 rfl); (· exact ycj hu)))); (· rfl); (· rfl)) | refine t1_ ?_ | (refine ta_ ?_; intro _) | ((fail_if_success (refine ybi rfl ?_)); refine ybj rfl ?_ ?_ <;> (intro ht; rw [ht]; first | replace ht := of_decide_eq_true ht | replace ht := of_decide_eq_false ht | skip)) | (refine ych ?_; first | (refine ybw rfl ?_ ?_ <;> intro ht) | (refine ybx rfl ?_ ?_ <;> intro ht)))
  (refine yco (ycp Try.func14 rfl (by kernel_rfl) rfl) (tame_sp _ u l h hc0 hl) rfl rfl rfl ?_ ?_ ?_; (· (exact to_)); (· intro _ _ hle; (exact to_)); intro x px hle)
  obtain ⟨h1, v1⟩ := x
  replace hle : Le h h1 := hle
  have hle1 := hle
  have c1 : Cx h1 v1 u (l.take 40) := px
  clear px
  obtain ⟨_, mv1, rfl, hs1⟩ := id c1
  obtain ⟨_, ad1, cap1, rfl, _, _⟩ := id hs1
  repeat' (first|(refine ycf ?_;apply ybk;(·first|(first|(apply yad;(·rfl);(·exact yaz 0 rfl);(·exact ycj hu))|(apply yad;(·rfl);(·exact yaz 1 rfl);(·exact ycj hu))));(·rfl);(·rfl))|(refine ybg 0 rfl rfl rfl (cxc_sz hu) (by first|exact cxc_fit hu|exact cxc_fit' hu hu) (cxc_one rfl) (ybh (by first|exact cxc_all hu|exact cxc_all' hu hu)) rfl rfl ?_ ?_ ?_;(·(exact to_));(·(exact to_)))|refine t1_ ?_|(refine ta_ ?_;intro _)|((fail_if_success (refine ybi rfl ?_));refine ybj rfl ?_ ?_<;>(intro ht;rw [ht];first|replace ht := of_decide_eq_true ht|replace ht := of_decide_eq_false ht|skip))|(refine ych ?_;first|(refine ybw rfl ?_ ?_<;>intro ht)|(refine ybx rfl ?_ ?_<;>intro ht)))
  (refine yco (ycp Try.func15 rfl (by kernel_rfl) rfl) (to_sp _ u (l.take 40) h1 c1 (by simp; omega)) rfl rfl rfl ?_ ?_ ?_; (· (exact to_)); (· intro _ _ hle; (exact to_)); intro x px hle)
  obtain ⟨h2, v2⟩ := x
  replace hle : Le h1 h2 := hle
  have hle2 := hle
  have c2 : Cx h2 v2 u (l.take 40) := px
  clear px
  obtain ⟨_, mv2, rfl, hs2⟩ := id c2
  obtain ⟨_, ad2, cap2, rfl, _, _⟩ := id hs2
  have hlt : (l.take 40).length ≤ 4611686018427387904 := by simp; omega
  have hnx := Next_sp _ u (l.take 40) c h2 c2 hlt
  have hfa := next_facts u (l.take 40) c
  generalize nextC u (l.take 40) c = ne at hnx hfa
  obtain ⟨N, E⟩ := ne
  dsimp only at hnx hfa
  repeat' (first|(refine ycf ?_;apply ybk;(·first|(first|(apply yad;(·rfl);(·exact yaz 0 rfl);(·exact ycj hu))|(apply yad;(·rfl);(·exact yaz 1 rfl);(·exact ycj hu))));(·rfl);(·rfl))|(refine ybg 0 rfl rfl rfl (cxc_sz hu) (by first|exact cxc_fit hu|exact cxc_fit' hu hu) (cxc_one rfl) (ybh (by first|exact cxc_all hu|exact cxc_all' hu hu)) rfl rfl ?_ ?_ ?_;(·(exact to_));(·(exact to_)))|refine t1_ ?_|(refine ta_ ?_;intro _)|((fail_if_success (refine ybi rfl ?_));refine ybj rfl ?_ ?_<;>(intro ht;rw [ht];first|replace ht := of_decide_eq_true ht|replace ht := of_decide_eq_false ht|skip))|(refine ych ?_;first|(refine ybw rfl ?_ ?_<;>intro ht)|(refine ybx rfl ?_ ?_<;>intro ht)))
  (refine ycn (ycp Try.func16 rfl (by kernel_rfl) rfl) (hnx) rfl rfl rfl ?_ ?_; (· (exact to_)))
  repeat' (first|(refine ycf ?_;apply ybk;(·first|(first|(apply yad;(·rfl);(·exact yaz 0 rfl);(·exact ycj hu))|(apply yad;(·rfl);(·exact yaz 1 rfl);(·exact ycj hu))));(·rfl);(·rfl))|(refine ybg 0 rfl rfl rfl (cxc_sz hu) (by first|exact cxc_fit hu|exact cxc_fit' hu hu) (cxc_one rfl) (ybh (by first|exact cxc_all hu|exact cxc_all' hu hu)) rfl rfl ?_ ?_ ?_;(·(exact to_));(·(exact to_)))|refine t1_ ?_|(refine ta_ ?_;intro _)|((fail_if_success (refine ybi rfl ?_));refine ybj rfl ?_ ?_<;>(intro ht;rw [ht];first|replace ht := of_decide_eq_true ht|replace ht := of_decide_eq_false ht|skip))|(refine ych ?_;first|(refine ybw rfl ?_ ?_<;>intro ht)|(refine ybx rfl ?_ ?_<;>intro ht)))
  (refine ycn (ycp Try.func11 rfl (by kernel_rfl) rfl) (dots_sp h2) rfl rfl rfl ?_ ?_; (· (exact to_)))
  repeat' (first|(refine ycf ?_;apply ybk;(·first|(first|(apply yad;(·rfl);(·exact yaz 0 rfl);(·exact ycj hu))|(apply yad;(·rfl);(·exact yaz 1 rfl);(·exact ycj hu))));(·rfl);(·rfl))|(refine ybg 0 rfl rfl rfl (cxc_sz hu) (by first|exact cxc_fit hu|exact cxc_fit' hu hu) (cxc_one rfl) (ybh (by first|exact cxc_all hu|exact cxc_all' hu hu)) rfl rfl ?_ ?_ ?_;(·(exact to_));(·(exact to_)))|refine t1_ ?_|(refine ta_ ?_;intro _)|((fail_if_success (refine ybi rfl ?_));refine ybj rfl ?_ ?_<;>(intro ht;rw [ht];first|replace ht := of_decide_eq_true ht|replace ht := of_decide_eq_false ht|skip))|(refine ych ?_;first|(refine ybw rfl ?_ ?_<;>intro ht)|(refine ybx rfl ?_ ?_<;>intro ht)))
  · (refine ycn (ycp Try.func11 rfl (by kernel_rfl) rfl) (dots_sp h2) rfl rfl rfl ?_ ?_; (· (exact to_)))
    repeat' (first|(refine ycf ?_;apply ybk;(·first|(first|(apply yad;(·rfl);(·exact yaz 0 rfl);(·exact ycj hu))|(apply yad;(·rfl);(·exact yaz 1 rfl);(·exact ycj hu))));(·rfl);(·rfl))|(refine ybg 0 rfl rfl rfl (cxc_sz hu) (by first|exact cxc_fit hu|exact cxc_fit' hu hu) (cxc_one rfl) (ybh (by first|exact cxc_all hu|exact cxc_all' hu hu)) rfl rfl ?_ ?_ ?_;(·(exact to_));(·(exact to_)))|refine t1_ ?_|(refine ta_ ?_;intro _)|((fail_if_success (refine ybi rfl ?_));refine ybj rfl ?_ ?_<;>(intro ht;rw [ht];first|replace ht := of_decide_eq_true ht|replace ht := of_decide_eq_false ht|skip))|(refine ych ?_;first|(refine ybw rfl ?_ ?_<;>intro ht)|(refine ybx rfl ?_ ?_<;>intro ht)))
    exact nx_ret1 rfl (rv_tmp rfl) (fun w' s' => ⟨rfl, s'.base⟩)
  have hE : E = 0 := by omega
  obtain ⟨f1, f2, f3, f4⟩ := hfa hE
  obtain ⟨r, hr, hr0, hr1⟩ : ∃ r, IntKind.i64.wrap ((IntKind.u64.wrap m).tmod 1000) = r ∧ 0 ≤ r ∧ r < 1000 := rem_fact m
  obtain ⟨fr, hfr⟩ : ∃ fr, (if (1099511627776 : Int) < N + r then (1099511627776 : Int) else N + r) = fr := ⟨_, rfl⟩
  have hfr1 : N ≤ fr := by rw [← hfr]; split <;> omega
  have hH1 := Has_sp _ u (l.take 40) (c, N) h2 c2 hlt
  rw [f3 N (Int.le_refl _)] at hH1
  have hH2 := Has_sp _ u (l.take 40) (c, fr) h2 c2 hlt
  rw [f3 fr hfr1] at hH2
  have hH3 := Has_sp _ u (l.take 40) (c, N - 1) h2 c2 hlt
  repeat' (first|(refine ycf ?_;apply ybk;(·first|(first|(apply yad;(·rfl);(·exact yaz 0 rfl);(·exact ycj hu))|(refine qv_convert_int' rfl hr)|(apply qv_convert_int;rfl)|(apply qv_rem;(·rfl);(·rfl);(·decide))|(refine qv_min' rfl rfl hfr)));(·rfl);(·rfl))|(refine ybg 0 rfl rfl rfl (cxc_sz hu) (by first|exact cxc_fit hu|exact cxc_fit' hu hu) (cxc_one rfl) (ybh (by first|exact cxc_all hu|exact cxc_all' hu hu)) rfl rfl ?_ ?_ ?_;(·(exact to_));(·(exact to_)))|refine t1_ ?_|(refine ta_ ?_;intro _)|((fail_if_success (refine ybi rfl ?_));refine ybj rfl ?_ ?_<;>(intro ht;rw [ht];first|replace ht := of_decide_eq_true ht|replace ht := of_decide_eq_false ht|skip))|(refine ych ?_;first|(refine ybw rfl ?_ ?_<;>intro ht)|(refine ybx rfl ?_ ?_<;>intro ht)))
  (refine ycn (ycp Try.func13 rfl (by kernel_rfl) rfl) (hH1) rfl rfl rfl ?_ ?_; (· (exact to_)))
  repeat' (first|(refine ycf ?_;apply ybk;(·first|(first|(apply yad;(·rfl);(·exact yaz 0 rfl);(·exact ycj hu))|(refine qv_convert_int' rfl hr)|(apply qv_convert_int;rfl)|(apply qv_rem;(·rfl);(·rfl);(·decide))|(refine qv_min' rfl rfl hfr)));(·rfl);(·rfl))|(refine ybg 0 rfl rfl rfl (cxc_sz hu) (by first|exact cxc_fit hu|exact cxc_fit' hu hu) (cxc_one rfl) (ybh (by first|exact cxc_all hu|exact cxc_all' hu hu)) rfl rfl ?_ ?_ ?_;(·(exact to_));(·(exact to_)))|refine t1_ ?_|(refine ta_ ?_;intro _)|((fail_if_success (refine ybi rfl ?_));refine ybj rfl ?_ ?_<;>(intro ht;rw [ht];first|replace ht := of_decide_eq_true ht|replace ht := of_decide_eq_false ht|skip))|(refine ych ?_;first|(refine ybw rfl ?_ ?_<;>intro ht)|(refine ybx rfl ?_ ?_<;>intro ht)))
  (refine ycn (ycp Try.func13 rfl (by kernel_rfl) rfl) (hH2) rfl rfl rfl ?_ ?_; (· (exact to_)))
  repeat' (first|(refine ycf ?_;apply ybk;(·first|(first|(apply yad;(·rfl);(·exact yaz 0 rfl);(·exact ycj hu))|(refine qv_convert_int' rfl hr)|(apply qv_convert_int;rfl)|(apply qv_rem;(·rfl);(·rfl);(·decide))|(refine qv_min' rfl rfl hfr)));(·rfl);(·rfl))|(refine ybg 0 rfl rfl rfl (cxc_sz hu) (by first|exact cxc_fit hu|exact cxc_fit' hu hu) (cxc_one rfl) (ybh (by first|exact cxc_all hu|exact cxc_all' hu hu)) rfl rfl ?_ ?_ ?_;(·(exact to_));(·(exact to_)))|refine t1_ ?_|(refine ta_ ?_;intro _)|((fail_if_success (refine ybi rfl ?_));refine ybj rfl ?_ ?_<;>(intro ht;rw [ht];first|replace ht := of_decide_eq_true ht|replace ht := of_decide_eq_false ht|skip))|(refine ych ?_;first|(refine ybw rfl ?_ ?_<;>intro ht)|(refine ybx rfl ?_ ?_<;>intro ht)))
  · exact nx_ret1 rfl (rv_tmp rfl) (fun w' s' => ⟨rfl, s'.base⟩)
  · have hn1 := ht
    rw [f4 hn1] at hH3
    (refine ycn (ycp Try.func13 rfl (by kernel_rfl) rfl) (hH3) rfl rfl rfl ?_ ?_; (· (exact to_)))
    repeat' (first|(refine ycf ?_;apply ybk;(·first|(first|(apply yad;(·rfl);(·exact yaz 0 rfl);(·exact ycj hu))|(refine qv_convert_int' rfl hr)|(apply qv_convert_int;rfl)|(apply qv_rem;(·rfl);(·rfl);(·decide))|(refine qv_min' rfl rfl hfr)));(·rfl);(·rfl))|(refine ybg 0 rfl rfl rfl (cxc_sz hu) (by first|exact cxc_fit hu|exact cxc_fit' hu hu) (cxc_one rfl) (ybh (by first|exact cxc_all hu|exact cxc_all' hu hu)) rfl rfl ?_ ?_ ?_;(·(exact to_));(·(exact to_)))|refine t1_ ?_|(refine ta_ ?_;intro _)|((fail_if_success (refine ybi rfl ?_));refine ybj rfl ?_ ?_<;>(intro ht;rw [ht];first|replace ht := of_decide_eq_true ht|replace ht := of_decide_eq_false ht|skip))|(refine ych ?_;first|(refine ybw rfl ?_ ?_<;>intro ht)|(refine ybx rfl ?_ ?_<;>intro ht)))
    exact nx_ret1 rfl (rv_tmp rfl) (fun w' s' => ⟨rfl, s'.base⟩)
end Go.Proofs.Ytbpahaciegfpfaa
