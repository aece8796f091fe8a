/-
  Part 10 of a proof: SbH SbI SbJ.
  Conditions: each theorem states its own.
-/
import Derived.Test.YtkkjppeaaicgaaaRpIPM9
section
namespace Go.Proofs.Ytkkjppeaaicgaaa
open Go Go.Ck
set_option maxRecDepth 100000
set_option maxHeartbeats 4000000
set_option linter.unusedVariables false

theorem symm_sp : ∀ (k g cap n a m b : Nat) (ia im ib : Int) (P A B Q l : List Sb), l = P ++ (A ++ (B ++ Q)) → b - a ≤ k → ia = a → im = m → ib = b → P.length = a → a + A.length = m → m + B.length = b → b + Q.length = n → n ≤ 1000000 → 0 < A.length → 0 < B.length → SortS A → SortS B → Ones A → Ones B →
    ∀ (h : View) (w : World), St ⟨w, h, doms [rowS g cap n l]⟩ h [rowS g cap n l] w →
    Calls Try.prog 87 [.slice (some ⟨g, 0, none⟩) n cap, .int .i64 ia, .int .i64 im, .int .i64 ib, ordV].toArray w fun e w' => ∃ x : Value × List Sb, e = .returned x.1 ∧ St ⟨w, h, doms [rowS g cap n l]⟩ h [rowS g cap n (P ++ (x.2 ++ Q))] w' ∧ KF (A ++ B) x.2 ∧ SortS x.2
  | 0, g, cap, n, a, m, b, ia, im, ib, P, A, B, Q, l, hl, hk, e1, e2, e3, hP, hA, hB, hn, hn62, ha, hb, sA, sB, oA, oB, h, w, s => by omega
  | k + 1, g, cap, n, a, m, b, ia, im, ib, P, A, B, Q, l, hl, hk, e1, e2, e3, hP, hA, hB, hn, hn62, ha, hb, sA, sB, oA, oB, h, w, s => by
    subst e1 e2 e3 hl
    by_cases hA1 : A.length = 1
    · match A, hA1 with
      | [x], _ => exact symm1_sp g cap n a m b P x B Q hP hA hB hn hn62 sB (oA x (List.mem_singleton.2 rfl)) oB h w s
    by_cases hB1 : B.length = 1
    · match B, hB1 with
      | [x], _ => exact symm2_sp g cap n a m b P A x Q hP hA (by omega) hB hn hn62 sA (oB x (List.mem_singleton.2 rfl)) oA h w s
    obtain ⟨mid, hmid⟩ : ∃ q, q = (a + b) / 2 := ⟨_, rfl⟩
    refine calls_enter Try.func87 rfl Try.ntmps87 rfl s ?_
    obtain ⟨s0, r0, hsr⟩ : ∃ s0 r0 : Nat, (mid < m ∧ s0 + b = mid + m ∧ r0 = mid) ∨ (¬ mid < m ∧ s0 = a ∧ r0 = m) := by
      by_cases hmm : mid < m
      · exact ⟨mid + m - b, mid, .inl ⟨hmm, by omega, rfl⟩⟩
      · exact ⟨a, m, .inr ⟨hmm, rfl, rfl⟩⟩
    have f1 : a ≤ s0 := by omega
    have f2 : s0 ≤ r0 := by omega
    have f3 : r0 ≤ m := by omega
    have f4 : r0 ≤ mid := by omega
    have f5 : mid + m ≤ s0 + b := by omega
    have f6 : a < mid ∧ mid < b := by omega
    rcases hsr with ⟨hmm, hs0, hr0⟩ | ⟨hmm, hs0, hr0⟩
    all_goals
      repeat' (first|(refine ycf ?_;apply ybk;(·first|(first|exact tk_|(refine qv_convert_int' (kd := .u64) (r := (a : Int) + (b : Int)) rfl (wrap_u64 (by omega) (by omega)))|(exact qv_shr (j := 1) (r := (mid : Int)) rfl rfl (half hmid) (by decide))|(refine qv_convert_int' (kd := .i64) (r := (mid : Int)) rfl (by rw [IntKind.wrap_i64];omega))));(·rfl);(·rfl))|refine t1_ ?_|(refine ta_ ?_;intro _)|((fail_if_success (refine ybi rfl ?_));refine ybj rfl ?_ ?_<;>(intro ht;rw [ht];first|replace ht := of_decide_eq_true ht|replace ht := of_decide_eq_false ht|skip))|(refine ych ?_;first|(refine ybw rfl ?_ ?_<;>intro ht)|(refine ybx rfl ?_ ?_<;>intro ht)))
      refine cx_loop (X := Nat × Nat) (fun y => [(0, .slice (some ⟨g, 0, none⟩) n cap), (1, .int .i64 a), (2, .int .i64 m), (3, .int .i64 b), (4, ordV), (18, .int .i64 (mid : Nat)), (19, .int .i64 ((mid : Int) + (m : Int))), (20, .int .i64 (y.1 : Nat)), (21, .int .i64 (y.2 : Nat)), (22, .int .i64 ((mid : Int) + (m : Int) - 1))]) (fun _ => h) (fun _ => _)
        (fun y => s0 ≤ y.1 ∧ y.1 ≤ y.2 ∧ y.2 ≤ r0 ∧ (∀ c e f, s0 ≤ c → c < y.1 → A[c - a]? = some e → B[mid - 1 - c]? = some f → ¬ ordD f.d e.d < 0) ∧ (∀ c e f, y.2 ≤ c → c < r0 → A[c - a]? = some e → B[mid - 1 - c]? = some f → ordD f.d e.d < 0)) (fun y => y.2 - y.1) (s0, r0)
        ⟨Nat.le_refl _, f2, Nat.le_refl _, fun c e f h1 h2 => by dsimp only at h2; omega, fun c e f h1 h2 => by dsimp only at h1; omega⟩ (by repeat' (first | exact Sub.nil | refine Sub.cons rfl rfl ?_ | refine Sub.cons rfl (congrArg (Value.int .i64) (by dsimp only; omega)) ?_)) (fun _ s => s) ?_
      rintro ⟨i, j⟩ ⟨hi, hij, hj, hlo, hup⟩
      dsimp only at hi hij hj hlo hup ⊢
      by_cases hlt : i < j
      · obtain ⟨q, hq⟩ : ∃ q, q = (i + j) / 2 := ⟨_, rfl⟩
        obtain ⟨e, he⟩ : ∃ e, A[q - a]? = some e := ⟨_, List.getElem?_eq_getElem (by omega)⟩
        obtain ⟨f, hf⟩ : ∃ f, B[mid - 1 - q]? = some f := ⟨_, List.getElem?_eq_getElem (by omega)⟩
        have hge : (P ++ (A ++ (B ++ Q)))[q]? = some e := by
          rw [List.getElem?_append_right (by omega), hP, List.getElem?_append_left (by have := (List.getElem?_eq_some_iff.1 he).1; omega), he]
        have hgf : (P ++ (A ++ (B ++ Q)))[mid + m - 1 - q]? = some f := by
          have := (List.getElem?_eq_some_iff.1 hf).1
          rw [List.getElem?_append_right (by omega), List.getElem?_append_right (by omega), show mid + m - 1 - q - P.length - A.length = mid - 1 - q by omega, List.getElem?_append_left this, hf]
        have hele := fun (L : List Res) (c : Cells h L ⟨g, 0, none⟩ ((P ++ (A ++ (B ++ Q))).flatMap sbc)) => row_el c hge (show ((q : Int)).toNat = q by omega)
        have helf := fun (L : List Res) (c : Cells h L ⟨g, 0, none⟩ ((P ++ (A ++ (B ++ Q))).flatMap sbc)) => row_el c hgf (show ((mid : Int) + (m : Int) - 1 - (q : Int)).toNat = mid + m - 1 - q by omega)
        have hel := sbc_len e
        have hfl := sbc_len f
        repeat' (first|(refine ycf ?_;apply ybk;(·first|(first|exact tk_|(refine qv_convert_int' (kd := .u64) (r := (i : Int) + (j : Int)) rfl (wrap_u64 (by omega) (by omega)))|(exact qv_shr (j := 1) (r := (q : Int)) rfl rfl (half hq) (by decide))|(refine qv_convert_int' (kd := .i64) (r := (q : Int)) rfl (by rw [IntKind.wrap_i64];omega))|(apply yad;(·rfl);(·exact hele _ (row_cells 0 rfl));(·exact hel))|(apply yad;(·rfl);(·exact helf _ (row_cells 0 rfl));(·exact hfl))));(·rfl);(·rfl))|refine t1_ ?_|(refine ta_ ?_;intro _)|((fail_if_success (refine ybi rfl ?_));refine ybj rfl ?_ ?_<;>(intro ht;rw [ht];first|replace ht := of_decide_eq_true ht|replace ht := of_decide_eq_false ht|skip))|(refine ych ?_;first|(refine ybw rfl ?_ ?_<;>intro ht)|(refine ybx rfl ?_ ?_<;>intro ht)))
        refine cx_region_draw' rfl (by kernel_rfl) ?_
        repeat' (refine ycf ?_;(first|(first|(apply ybm;(·(first|(first|exact tk_|(refine qv_convert_int' (kd := .u64) (r := (i : Int) + (j : Int)) rfl (wrap_u64 (by omega) (by omega)))|(exact qv_shr (j := 1) (r := (q : Int)) rfl rfl (half hq) (by decide))|(refine qv_convert_int' (kd := .i64) (r := (q : Int)) rfl (by rw [IntKind.wrap_i64];omega))|(apply yad;(·rfl);(·exact hele _ (row_cells 0 rfl));(·exact hel))|(apply yad;(·rfl);(·exact helf _ (row_cells 0 rfl));(·exact hfl)))|exact tq_));(·rfl);(·rfl);(·(exact th_)))|refine ybl rfl rfl ?_|((fail_if_success (refine ybi rfl ?_));refine ybj rfl ?_ ?_<;>(intro ht;rw [ht];first|replace ht := of_decide_eq_true ht|replace ht := of_decide_eq_false ht|skip))|(refine tb_ ?_ ?_ ?_;(·(exact to_));(·intro _;(exact to_));intro _)|(first|(refine tqs_ ?_ ?_ ?_;(·(exact to_));(·(exact to_))))|(apply ybn;(·(first|(first|exact tk_|(refine qv_convert_int' (kd := .u64) (r := (i : Int) + (j : Int)) rfl (wrap_u64 (by omega) (by omega)))|(exact qv_shr (j := 1) (r := (q : Int)) rfl rfl (half hq) (by decide))|(refine qv_convert_int' (kd := .i64) (r := (q : Int)) rfl (by rw [IntKind.wrap_i64];omega))|(apply yad;(·rfl);(·exact hele _ (row_cells 0 rfl));(·exact hel))|(apply yad;(·rfl);(·exact helf _ (row_cells 0 rfl));(·exact hfl)))|exact tq_));(·rfl);(·rfl);(·rfl);(·(exact to_))))|refine ycg ?_))
        (refine ycn (call_val rfl Try.func32 rfl (by kernel_rfl) rfl) (sorder_sp f e h) rfl rfl rfl ?_ ?_; (· (exact to_)))
        by_cases hO : ordD f.d e.d < 0
        · repeat' (refine ycf ?_;(first|(first|(apply ybm;(·(first|(first|exact tk_|(refine qv_convert_int' (kd := .u64) (r := (i : Int) + (j : Int)) rfl (wrap_u64 (by omega) (by omega)))|(exact qv_shr (j := 1) (r := (q : Int)) rfl rfl (half hq) (by decide))|(refine qv_convert_int' (kd := .i64) (r := (q : Int)) rfl (by rw [IntKind.wrap_i64];omega))|(apply yad;(·rfl);(·exact hele _ (row_cells 0 rfl));(·exact hel))|(apply yad;(·rfl);(·exact helf _ (row_cells 0 rfl));(·exact hfl)))|exact tq_));(·rfl);(·rfl);(·(exact th_)))|refine ybl rfl rfl ?_|((fail_if_success (refine ybi rfl ?_));refine ybj rfl ?_ ?_<;>(intro ht;rw [ht];first|replace ht := of_decide_eq_true ht|replace ht := of_decide_eq_false ht|skip))|(refine tb_ ?_ ?_ ?_;(·(exact to_));(·intro _;(exact to_));intro _)|(first|(refine tqs_ ?_ ?_ ?_;(·(exact to_));(·(exact to_))))|(apply ybn;(·(first|(first|exact tk_|(refine qv_convert_int' (kd := .u64) (r := (i : Int) + (j : Int)) rfl (wrap_u64 (by omega) (by omega)))|(exact qv_shr (j := 1) (r := (q : Int)) rfl rfl (half hq) (by decide))|(refine qv_convert_int' (kd := .i64) (r := (q : Int)) rfl (by rw [IntKind.wrap_i64];omega))|(apply yad;(·rfl);(·exact hele _ (row_cells 0 rfl));(·exact hel))|(apply yad;(·rfl);(·exact helf _ (row_cells 0 rfl));(·exact hfl)))|exact tq_));(·rfl);(·rfl);(·rfl);(·(exact to_))))|refine ycg ?_))
          repeat' (first|(refine ycf ?_;apply ybk;(·first|(first|exact tk_|(refine qv_convert_int' (kd := .u64) (r := (i : Int) + (j : Int)) rfl (wrap_u64 (by omega) (by omega)))|(exact qv_shr (j := 1) (r := (q : Int)) rfl rfl (half hq) (by decide))|(refine qv_convert_int' (kd := .i64) (r := (q : Int)) rfl (by rw [IntKind.wrap_i64];omega))|(apply yad;(·rfl);(·exact hele _ (row_cells 0 rfl));(·exact hel))|(apply yad;(·rfl);(·exact helf _ (row_cells 0 rfl));(·exact hfl))));(·rfl);(·rfl))|refine t1_ ?_|(refine ta_ ?_;intro _)|((fail_if_success (refine ybi rfl ?_));refine ybj rfl ?_ ?_<;>(intro ht;rw [ht];first|replace ht := of_decide_eq_true ht|replace ht := of_decide_eq_false ht|skip))|(refine ych ?_;first|(refine ybw rfl ?_ ?_<;>intro ht)|(refine ybx rfl ?_ ?_<;>intro ht)))
          refine nx_round (i, q) ⟨hi, by show i ≤ q; omega, by show q ≤ r0; omega, hlo, fun c e' f' h1 h2 he' hf' => ?_⟩ (by show q - i < j - i; omega) ts_ (fun _ s => s)
          dsimp only at h1
          exact ord_le_ltx (ord_lt_le (sort_at sB hf' hf (by omega)) hO) (sort_at sA he he' (by omega))
        · repeat' (refine ycf ?_;(first|(first|(apply ybm;(·(first|(first|exact tk_|(refine qv_convert_int' (kd := .u64) (r := (i : Int) + (j : Int)) rfl (wrap_u64 (by omega) (by omega)))|(exact qv_shr (j := 1) (r := (q : Int)) rfl rfl (half hq) (by decide))|(refine qv_convert_int' (kd := .i64) (r := (q : Int)) rfl (by rw [IntKind.wrap_i64];omega))|(apply yad;(·rfl);(·exact hele _ (row_cells 0 rfl));(·exact hel))|(apply yad;(·rfl);(·exact helf _ (row_cells 0 rfl));(·exact hfl)))|exact tq_));(·rfl);(·rfl);(·(exact th_)))|refine ybl rfl rfl ?_|((fail_if_success (refine ybi rfl ?_));refine ybj rfl ?_ ?_<;>(intro ht;rw [ht];first|replace ht := of_decide_eq_true ht|replace ht := of_decide_eq_false ht|skip))|(refine tb_ ?_ ?_ ?_;(·(exact to_));(·intro _;(exact to_));intro _)|(first|(refine tqs_ ?_ ?_ ?_;(·(exact to_));(·(exact to_))))|(apply ybn;(·(first|(first|exact tk_|(refine qv_convert_int' (kd := .u64) (r := (i : Int) + (j : Int)) rfl (wrap_u64 (by omega) (by omega)))|(exact qv_shr (j := 1) (r := (q : Int)) rfl rfl (half hq) (by decide))|(refine qv_convert_int' (kd := .i64) (r := (q : Int)) rfl (by rw [IntKind.wrap_i64];omega))|(apply yad;(·rfl);(·exact hele _ (row_cells 0 rfl));(·exact hel))|(apply yad;(·rfl);(·exact helf _ (row_cells 0 rfl));(·exact hfl)))|exact tq_));(·rfl);(·rfl);(·rfl);(·(exact to_))))|refine ycg ?_))
          repeat' (first|(refine ycf ?_;apply ybk;(·first|(first|exact tk_|(refine qv_convert_int' (kd := .u64) (r := (i : Int) + (j : Int)) rfl (wrap_u64 (by omega) (by omega)))|(exact qv_shr (j := 1) (r := (q : Int)) rfl rfl (half hq) (by decide))|(refine qv_convert_int' (kd := .i64) (r := (q : Int)) rfl (by rw [IntKind.wrap_i64];omega))|(apply yad;(·rfl);(·exact hele _ (row_cells 0 rfl));(·exact hel))|(apply yad;(·rfl);(·exact helf _ (row_cells 0 rfl));(·exact hfl))));(·rfl);(·rfl))|refine t1_ ?_|(refine ta_ ?_;intro _)|((fail_if_success (refine ybi rfl ?_));refine ybj rfl ?_ ?_<;>(intro ht;rw [ht];first|replace ht := of_decide_eq_true ht|replace ht := of_decide_eq_false ht|skip))|(refine ych ?_;first|(refine ybw rfl ?_ ?_<;>intro ht)|(refine ybx rfl ?_ ?_<;>intro ht)))
          refine nx_round (q + 1, j) ⟨by show s0 ≤ q + 1; omega, by show q + 1 ≤ j; omega, hj, fun c e' f' h1 h2 he' hf' h3 => ?_, hup⟩ (by show j - (q + 1) < j - i; omega) ts_ (fun _ s => s)
          dsimp only at h2
          exact hO (ord_le_ltx (ord_lt_le (sort_at sB hf hf' (by omega)) h3) (sort_at sA he' he (by omega)))
      · have hij' : i = j := by omega
        subst hij'
        iterate 22 (first | (refine ycf ?_; apply ybk; (· first | (exact tk_)); (· rfl); (· rfl)) | refine t1_ ?_ | (refine ta_ ?_; intro _) | ((fail_if_success (refine ybi rfl ?_)); refine ybj rfl ?_ ?_ <;> (intro ht; rw [ht]; first | replace ht := of_decide_eq_true ht | replace ht := of_decide_eq_false ht | skip)) | (refine ych ?_; first | (refine ybw rfl ?_ ?_ <;> intro ht) | (refine ybx rfl ?_ ?_ <;> intro ht)))
        have hAs : A = A.take (i - a) ++ A.drop (i - a) := (List.take_append_drop ..).symm
        have hBs : B = B.take (mid - i) ++ B.drop (mid - i) := (List.take_append_drop ..).symm
        have lA1 : (A.take (i - a)).length = i - a := by simp; omega
        have lA2 : (A.drop (i - a)).length = m - i := by simp; omega
        have lB1 : (B.take (mid - i)).length = mid - i := by simp; omega
        have lB2 : (B.drop (mid - i)).length = b + i - (mid + m) := by simp; omega
        have hX : ∀ x ∈ A.take (i - a), ∀ y ∈ B.drop (mid - i), ordD x.d y.d ≤ 0 := fun x hx y hy => by
          obtain ⟨u, hu, rfl⟩ := List.getElem_of_mem hx
          obtain ⟨v, hv, rfl⟩ := List.getElem_of_mem hy
          rw [List.getElem_take, List.getElem_drop]
          have hs : s0 < i := by omega
          have h1 := hlo (i - 1) A[i - 1 - a] B[mid - 1 - (i - 1)] (by omega) (by omega) (List.getElem?_eq_getElem (by omega)) (List.getElem?_eq_getElem (by omega))
          exact ord_le_trans (sort_at sA (List.getElem?_eq_getElem (by omega)) (List.getElem?_eq_getElem (by omega)) (by omega)) (ord_le_trans (ord_le.2 h1) (sort_at sB (List.getElem?_eq_getElem (by omega)) (List.getElem?_eq_getElem (by omega)) (by omega)))
        have hY : ∀ x ∈ A.drop (i - a), ∀ y ∈ B.take (mid - i), ordD y.d x.d < 0 := fun x hx y hy => by
          obtain ⟨u, hu, rfl⟩ := List.getElem_of_mem hx
          obtain ⟨v, hv, rfl⟩ := List.getElem_of_mem hy
          rw [List.getElem_take, List.getElem_drop]
          have hs : i < r0 := by omega
          have h1 := hup i A[i - a] B[mid - 1 - i] (by omega) (by omega) (List.getElem?_eq_getElem (by omega)) (List.getElem?_eq_getElem (by omega))
          exact ord_le_ltx (ord_lt_le (sort_at sB (List.getElem?_eq_getElem (by omega)) (List.getElem?_eq_getElem (by omega)) (by omega)) h1) (sort_at sA (List.getElem?_eq_getElem (by omega)) (List.getElem?_eq_getElem (by omega)) (by omega))
        generalize A.take (i - a) = A1 at hAs lA1 hX
        generalize A.drop (i - a) = A2 at hAs lA2 hY
        generalize B.take (mid - i) = B1 at hBs lB1 hY
        generalize B.drop (mid - i) = B2 at hBs lB2 hX
        clear hlo hup
        subst hAs hBs
        obtain ⟨oA1, oA2⟩ := Ones.app.1 oA
        obtain ⟨oB1, oB2⟩ := Ones.app.1 oB
        obtain ⟨sA1, sA2, sA12⟩ := List.pairwise_append.1 sA
        obtain ⟨sB1, sB2, sB12⟩ := List.pairwise_append.1 sB
        refine ybo ?_
        refine cx_cut (X := Unit) (fun _ => [(0, .slice (some ⟨g, 0, none⟩) n cap), (1, .int .i64 a), (3, .int .i64 b), (4, ordV), (18, .int .i64 (mid : Nat)), (20, .int .i64 (i : Nat)), (24, .int .i64 ((mid : Int) + (m : Int) - (i : Int)))]) (fun _ => h) (fun _ => [rowS g cap n (P ++ (A1 ++ (B1 ++ (A2 ++ (B2 ++ Q)))))]) (fun _ => True) ?_ ?_
        · by_cases c1 : i < m
          · by_cases c2 : i < mid
            · repeat' (first | (refine ycf ?_; apply ybk; (· first | (exact tk_)); (· rfl); (· rfl)) | refine t1_ ?_ | (refine ta_ ?_; intro _) | ((fail_if_success (refine ybi rfl ?_)); refine ybj rfl ?_ ?_ <;> (intro ht; rw [ht]; first | replace ht := of_decide_eq_true ht | replace ht := of_decide_eq_false ht | skip)) | (refine ych ?_; first | (refine ybw rfl ?_ ?_ <;> intro ht) | (refine ybx rfl ?_ ?_ <;> intro ht)))
              (refine rx_call_m (ycp Try.func98 rfl (by kernel_rfl) rfl) (perm_at (k := 0) rfl) (rotate_i g cap n i m (mid + m - i) _ _ _ (by omega) (by omega) (by omega) (P ++ A1) A2 B1 (B2 ++ Q) _ (by simp) (by simp; omega) (by omega) (by omega) (by simp; omega) hn62 (by omega) (by omega) oA2 oB1 h) rfl rfl rfl ?_ ?_ ?_; (· (exact to_)); (· intro _ _ hle; (exact to_)); intro x px hle)
              repeat' (first | (refine ycf ?_; apply ybk; (· first | (exact tk_)); (· rfl); (· rfl)) | refine t1_ ?_ | (refine ta_ ?_; intro _) | ((fail_if_success (refine ybi rfl ?_)); refine ybj rfl ?_ ?_ <;> (intro ht; rw [ht]; first | replace ht := of_decide_eq_true ht | replace ht := of_decide_eq_false ht | skip)) | (refine ych ?_; first | (refine ybw rfl ?_ ?_ <;> intro ht) | (refine ybx rfl ?_ ?_ <;> intro ht)))
              exact nx_cut () trivial ts_ (fun _ s => by simpa using s)
            · first
                | (exfalso; omega)
                | (have : B1 = [] := List.eq_nil_of_length_eq_zero (by omega)
                   repeat' (first | (refine ycf ?_; apply ybk; (· first | (exact tk_)); (· rfl); (· rfl)) | refine t1_ ?_ | (refine ta_ ?_; intro _) | ((fail_if_success (refine ybi rfl ?_)); refine ybj rfl ?_ ?_ <;> (intro ht; rw [ht]; first | replace ht := of_decide_eq_true ht | replace ht := of_decide_eq_false ht | skip)) | (refine ych ?_; first | (refine ybw rfl ?_ ?_ <;> intro ht) | (refine ybx rfl ?_ ?_ <;> intro ht)))
                   exact nx_cut () trivial ts_ (fun _ s => by subst this; simpa using s))
          · first
              | (exfalso; omega)
              | (have : A2 = [] := List.eq_nil_of_length_eq_zero (by omega)
                 repeat' (first | (refine ycf ?_; apply ybk; (· first | (exact tk_)); (· rfl); (· rfl)) | refine t1_ ?_ | (refine ta_ ?_; intro _) | ((fail_if_success (refine ybi rfl ?_)); refine ybj rfl ?_ ?_ <;> (intro ht; rw [ht]; first | replace ht := of_decide_eq_true ht | replace ht := of_decide_eq_false ht | skip)) | (refine ych ?_; first | (refine ybw rfl ?_ ?_ <;> intro ht) | (refine ybx rfl ?_ ?_ <;> intro ht)))
                 exact nx_cut () trivial ts_ (fun _ s => by subst this; simpa using s))
        rintro ⟨⟩ _
        refine yby ?_
        refine ybo ?_
        refine cx_cut (X := List Sb) (fun _ => [(0, .slice (some ⟨g, 0, none⟩) n cap), (1, .int .i64 a), (3, .int .i64 b), (4, ordV), (18, .int .i64 (mid : Nat)), (20, .int .i64 (i : Nat)), (24, .int .i64 ((mid : Int) + (m : Int) - (i : Int)))]) (fun _ => h) (fun C1 => [rowS g cap n (P ++ (C1 ++ (A2 ++ (B2 ++ Q))))]) (fun C1 => KF (A1 ++ B1) C1 ∧ SortS C1) ?_ ?_
        · by_cases c1 : a < i
          · by_cases c2 : i < mid
            · repeat' (first | (refine ycf ?_; apply ybk; (· first | (exact tk_)); (· rfl); (· rfl)) | refine t1_ ?_ | (refine ta_ ?_; intro _) | ((fail_if_success (refine ybi rfl ?_)); refine ybj rfl ?_ ?_ <;> (intro ht; rw [ht]; first | replace ht := of_decide_eq_true ht | replace ht := of_decide_eq_false ht | skip)) | (refine ych ?_; first | (refine ybw rfl ?_ ?_ <;> intro ht) | (refine ybx rfl ?_ ?_ <;> intro ht)))
              (refine rx_call_m (ycp Try.func87 rfl (by kernel_rfl) rfl) (perm_at (k := 0) rfl) (symm_sp k g cap n a i mid _ _ _ P A1 B1 (A2 ++ (B2 ++ Q)) _ rfl (by omega) rfl rfl rfl hP (by omega) (by omega) (by simp; omega) hn62 (by omega) (by omega) sA1 sB1 oA1 oB1 h) rfl rfl rfl ?_ ?_ ?_; (· (exact to_)); (· intro _ _ hle; (exact to_)); intro x px hle)
              repeat' (first | (refine ycf ?_; apply ybk; (· first | (exact tk_)); (· rfl); (· rfl)) | refine t1_ ?_ | (refine ta_ ?_; intro _) | ((fail_if_success (refine ybi rfl ?_)); refine ybj rfl ?_ ?_ <;> (intro ht; rw [ht]; first | replace ht := of_decide_eq_true ht | replace ht := of_decide_eq_false ht | skip)) | (refine ych ?_; first | (refine ybw rfl ?_ ?_ <;> intro ht) | (refine ybx rfl ?_ ?_ <;> intro ht)))
              exact nx_cut x.2 px ts_ (fun _ s => s)
            · first
                | (exfalso; omega)
                | (have : B1 = [] := List.eq_nil_of_length_eq_zero (by omega)
                   repeat' (first | (refine ycf ?_; apply ybk; (· first | (exact tk_)); (· rfl); (· rfl)) | refine t1_ ?_ | (refine ta_ ?_; intro _) | ((fail_if_success (refine ybi rfl ?_)); refine ybj rfl ?_ ?_ <;> (intro ht; rw [ht]; first | replace ht := of_decide_eq_true ht | replace ht := of_decide_eq_false ht | skip)) | (refine ych ?_; first | (refine ybw rfl ?_ ?_ <;> intro ht) | (refine ybx rfl ?_ ?_ <;> intro ht)))
                   exact nx_cut A1 ⟨by subst this; simpa using KF.refl A1, sA1⟩ ts_ (fun _ s => by subst this; simpa using s))
          · first
              | (exfalso; omega)
              | (have : A1 = [] := List.eq_nil_of_length_eq_zero (by omega)
                 repeat' (first | (refine ycf ?_; apply ybk; (· first | (exact tk_)); (· rfl); (· rfl)) | refine t1_ ?_ | (refine ta_ ?_; intro _) | ((fail_if_success (refine ybi rfl ?_)); refine ybj rfl ?_ ?_ <;> (intro ht; rw [ht]; first | replace ht := of_decide_eq_true ht | replace ht := of_decide_eq_false ht | skip)) | (refine ych ?_; first | (refine ybw rfl ?_ ?_ <;> intro ht) | (refine ybx rfl ?_ ?_ <;> intro ht)))
                 exact nx_cut B1 ⟨by subst this; simpa using KF.refl B1, sB1⟩ ts_ (fun _ s => by subst this; simpa using s))
        rintro C1 ⟨k1, t1⟩
        have lC1 := k1.len
        rw [List.length_append] at lC1
        refine yby ?_
        have fin : ∀ C2, KF (A2 ++ B2) C2 → SortS C2 → KF ((A1 ++ A2) ++ (B1 ++ B2)) (C1 ++ C2) ∧ SortS (C1 ++ C2) := fun C2 k2 t2 => by
          refine ⟨?_, List.pairwise_append.2 ⟨t1, t2, fun x hx y hy => ?_⟩⟩
          · have q1 : KF ((A1 ++ A2) ++ (B1 ++ B2)) ((A1 ++ B1) ++ (A2 ++ B2)) := by
              have e1 : (A1 ++ A2) ++ (B1 ++ B2) = A1 ++ ((A2 ++ B1) ++ B2) := by simp
              have e2 : (A1 ++ B1) ++ (A2 ++ B2) = A1 ++ ((B1 ++ A2) ++ B2) := by simp
              rw [e1, e2]
              exact (KF.refl _).app ((KF.swap fun x hx y hy e => ord_self x.d (by have := hY x hx y hy; rwa [e] at this)).app (KF.refl _))
            exact q1.trans (k1.app k2)
          · rcases List.mem_append.1 ((k1.mem x).2 hx) with hx | hx <;> rcases List.mem_append.1 ((k2.mem y).2 hy) with hy | hy
            · exact sA12 x hx y hy
            · exact hX x hx y hy
            · exact ord_le_lt (hY y hy x hx)
            · exact sB12 x hx y hy
        by_cases c1 : i < m
        · by_cases c2 : mid + m < i + b
          · repeat' (first | (refine ycf ?_; apply ybk; (· first | (exact tk_)); (· rfl); (· rfl)) | refine t1_ ?_ | (refine ta_ ?_; intro _) | ((fail_if_success (refine ybi rfl ?_)); refine ybj rfl ?_ ?_ <;> (intro ht; rw [ht]; first | replace ht := of_decide_eq_true ht | replace ht := of_decide_eq_false ht | skip)) | (refine ych ?_; first | (refine ybw rfl ?_ ?_ <;> intro ht) | (refine ybx rfl ?_ ?_ <;> intro ht)))
            (refine rx_call_m (ycp Try.func87 rfl (by kernel_rfl) rfl) (perm_at (k := 0) rfl) (symm_sp k g cap n mid (mid + m - i) b _ _ _ (P ++ C1) A2 B2 Q _ (by simp) (by omega) rfl (by omega) rfl (by simp; omega) (by omega) (by omega) (by omega) hn62 (by omega) (by omega) sA2 sB2 oA2 oB2 h) rfl rfl rfl ?_ ?_ ?_; (· (exact to_)); (· intro _ _ hle; (exact to_)); intro x px hle)
            repeat' (first | (refine ycf ?_; apply ybk; (· first | (exact tk_)); (· rfl); (· rfl)) | refine t1_ ?_ | (refine ta_ ?_; intro _) | ((fail_if_success (refine ybi rfl ?_)); refine ybj rfl ?_ ?_ <;> (intro ht; rw [ht]; first | replace ht := of_decide_eq_true ht | replace ht := of_decide_eq_false ht | skip)) | (refine ych ?_; first | (refine ybw rfl ?_ ?_ <;> intro ht) | (refine ybx rfl ?_ ?_ <;> intro ht)))
            exact nx_end0 rfl (fun w' s' => ⟨(_, C1 ++ x.2), rfl, by simpa using s', fin _ px.1 px.2⟩)
          · first
              | (exfalso; omega)
              | (have : B2 = [] := List.eq_nil_of_length_eq_zero (by omega)
                 repeat' (first | (refine ycf ?_; apply ybk; (· first | (exact tk_)); (· rfl); (· rfl)) | refine t1_ ?_ | (refine ta_ ?_; intro _) | ((fail_if_success (refine ybi rfl ?_)); refine ybj rfl ?_ ?_ <;> (intro ht; rw [ht]; first | replace ht := of_decide_eq_true ht | replace ht := of_decide_eq_false ht | skip)) | (refine ych ?_; first | (refine ybw rfl ?_ ?_ <;> intro ht) | (refine ybx rfl ?_ ?_ <;> intro ht)))
                 exact nx_end0 rfl (fun w' s' => ⟨(_, C1 ++ A2), rfl, by subst this; simpa using s', fin _ (by subst this; simpa using KF.refl A2) sA2⟩))
        · first
            | (exfalso; omega)
            | (have : A2 = [] := List.eq_nil_of_length_eq_zero (by omega)
               repeat' (first | (refine ycf ?_; apply ybk; (· first | (exact tk_)); (· rfl); (· rfl)) | refine t1_ ?_ | (refine ta_ ?_; intro _) | ((fail_if_success (refine ybi rfl ?_)); refine ybj rfl ?_ ?_ <;> (intro ht; rw [ht]; first | replace ht := of_decide_eq_true ht | replace ht := of_decide_eq_false ht | skip)) | (refine ych ?_; first | (refine ybw rfl ?_ ?_ <;> intro ht) | (refine ybx rfl ?_ ?_ <;> intro ht)))
               exact nx_end0 rfl (fun w' s' => ⟨(_, C1 ++ B2), rfl, by subst this; simpa using s', fin _ (by subst this; simpa using KF.refl B2) sB2⟩))
end Go.Proofs.Ytkkjppeaaicgaaa
end

section
namespace Go.Proofs.Ytkkjppeaaicgaaa
open Go Go.Ck
set_option maxRecDepth 100000
set_option maxHeartbeats 4000000
set_option linter.unusedVariables false

def seg (l : List Sb) (d t : Nat) : List Sb := (l.drop d).take t
theorem dvd_add_le {k d a : Nat} (h1 : k ∣ d) (h2 : k ∣ a) (h : d < a) : d + k ≤ a := by
  have := Nat.le_of_dvd (by omega) (Nat.dvd_sub h2 h1)
  omega
theorem seg_same {P C D Q : List Sb} {d t : Nat} (hl : C.length = D.length) (h : d + t ≤ P.length ∨ P.length + C.length ≤ d) : seg (P ++ (C ++ Q)) d t = seg (P ++ (D ++ Q)) d t := by
  unfold seg
  rcases h with h | h
  · rw [List.drop_append_of_le_length (by omega), List.drop_append_of_le_length (by omega), List.take_append_of_le_length (by simp; omega), List.take_append_of_le_length (by simp; omega)]
  · rw [← List.append_assoc, ← List.append_assoc]
    have e1 : d = (P ++ C).length + (d - (P ++ C).length) := by simp; omega
    have e2 : d = (P ++ D).length + (d - (P ++ D).length) := by simp; omega
    rw [e1, List.drop_length_add_append, ← e1]
    conv => rhs; rw [e2, List.drop_length_add_append]
    congr 2
    simp; omega
theorem seg_mid {P C Q : List Sb} {t : Nat} (h : t = C.length ∨ (C.length ≤ t ∧ Q = [])) : seg (P ++ (C ++ Q)) P.length t = C := by
  unfold seg
  rw [List.drop_left]
  rcases h with rfl | ⟨h, rfl⟩
  · exact List.take_left
  · rw [List.append_nil, List.take_of_length_le h]
theorem seg_split (l : List Sb) (a b : Nat) (h : a ≤ b) : l = l.take a ++ (seg l a (b - a) ++ l.drop b) := by
  unfold seg
  have : l.drop b = (l.drop a).drop (b - a) := by rw [List.drop_drop]; congr 1; omega
  rw [this, List.take_append_drop, List.take_append_drop]
theorem seg_len {l : List Sb} {d t : Nat} (h : d + t ≤ l.length) : (seg l d t).length = t := by unfold seg; simp; omega
theorem seg_nil {l : List Sb} {d t : Nat} (h : l.length ≤ d) : seg l d t = [] := by unfold seg; rw [List.drop_eq_nil_of_le h, List.take_nil]

theorem seg_split2 (l : List Sb) (a b c : Nat) (h : a ≤ b) (h2 : b ≤ c) : l = l.take a ++ (seg l a (b - a) ++ (seg l b (c - b) ++ l.drop c)) := by
  have e1 := seg_split l a b h
  have e2 : l.drop b = seg l b (c - b) ++ l.drop c := by
    unfold seg
    have : l.drop c = (l.drop b).drop (c - b) := by rw [List.drop_drop]; congr 1; omega
    rw [this, List.take_append_drop]
  rw [← e2, ← e1]
theorem seg_mem {l : List Sb} {d t : Nat} {x : Sb} (h : x ∈ seg l d t) : x ∈ l := List.mem_of_mem_drop (List.mem_of_mem_take h)
/-- runs of k are sorted -/
def Runs (k : Nat) (l : List Sb) : Prop := ∀ d, k ∣ d → SortS (seg l d k)

theorem stable_sp (g cap m : Nat) (l : List Sb) (hm : l.length = m) (hm62 : m ≤ 100000) (h1 : Ones l) (h : View) (w : World) (s : St ⟨w, h, doms [rowS g cap m l]⟩ h [rowS g cap m l] w) :
    Calls Try.prog 67 [.slice (some ⟨g, 0, none⟩) m cap, .int .i64 m, ordV].toArray w fun e w' => ∃ x : Value × List Sb, e = .returned x.1 ∧ St ⟨w, h, doms [rowS g cap m l]⟩ h [rowS g cap m x.2] w' ∧ KF l x.2 ∧ SortS x.2 := by
  have ones : ∀ {cur : List Sb}, KF l cur → Ones cur := fun kf x hx => h1 x ((kf.mem x).2 hx)
  refine calls_enter Try.func67 rfl Try.ntmps67 rfl s ?_
  repeat' (first | refine tw_ ?_ | (refine ta_ ?_; intro _) | ((fail_if_success (refine ybi rfl ?_)); refine ybj rfl ?_ ?_ <;> (intro ht; rw [ht]; first | replace ht := of_decide_eq_true ht | replace ht := of_decide_eq_false ht | skip)) | (refine ych ?_; first | (refine ybw rfl ?_ ?_ <;> intro ht) | (refine ybx rfl ?_ ?_ <;> intro ht)))
  refine cx_loop (X := Nat × List Sb) (fun x => [(0, .slice (some ⟨g, 0, none⟩) m cap), (1, .int .i64 m), (2, ordV), (6, .int .i64 20), (7, .int .i64 (x.1 : Nat)), (8, .int .i64 (x.1 + 20 : Nat))]) (fun _ => h) (fun x => [rowS g cap m x.2])
    (fun x => x.1 ≤ m ∧ 20 ∣ x.1 ∧ KF l x.2 ∧ ∀ d, 20 ∣ d → d < x.1 → SortS (seg x.2 d 20)) (fun x => m - x.1) (0, l) ⟨Nat.zero_le _, ⟨0, rfl⟩, KF.refl _, fun d _ hd => by cases hd⟩ ts_ (fun _ s => s) ?_
  rintro ⟨a, cur⟩ ⟨ha, hda, kf, hrun⟩
  dsimp only at ha hda kf hrun ⊢
  have hcl : cur.length = m := by rw [← kf.len, hm]
  have step : ∀ b cur', a ≤ b → b ≤ m → b ≤ a + 20 → (b = a + 20 ∨ b = m) → InsR cur a b cur' → KF l cur' ∧ ∀ d, 20 ∣ d → d < a + 20 → SortS (seg cur' d 20) := fun b cur' h1 h2 h3 h4 hr => by
    obtain ⟨S, hSl, k1, t1, rfl⟩ := hr
    have hs := seg_split cur a b h1
    have hsl : (seg cur a (b - a)).length = b - a := seg_len (by omega)
    have hpl : (cur.take a).length = a := by simp; omega
    have hseg : (cur.take b).drop a = seg cur a (b - a) := by unfold seg; rw [List.drop_take]
    rw [hseg] at k1
    refine ⟨kf.trans ?_, fun d hd hda' => ?_⟩
    · conv => lhs; rw [hs]
      exact (KF.refl _).app (k1.app (KF.refl _))
    · by_cases hlt : d < a
      · have := dvd_add_le hd hda hlt
        rw [seg_same (D := seg cur a (b - a)) (by omega) (.inl (by omega)), ← hs]
        exact hrun d hd hlt
      · have hd2 : d = a := by
          by_cases e : d = a
          · exact e
          · have := dvd_add_le hda hd (by omega); omega
        subst hd2
        have := seg_mid (P := cur.take d) (C := S) (Q := cur.drop b) (t := 20) (by
          rcases h4 with h4 | h4
          · left; omega
          · right; exact ⟨by omega, List.drop_eq_nil_of_le (by omega)⟩)
        rw [hpl] at this
        rw [this]
        exact t1
  by_cases hb : a + 20 ≤ m
  · repeat' (first | (refine ycf ?_; apply ybk; (· first | (exact tk_)); (· rfl); (· rfl)) | refine t1_ ?_ | (refine ta_ ?_; intro _) | ((fail_if_success (refine ybi rfl ?_)); refine ybj rfl ?_ ?_ <;> (intro ht; rw [ht]; first | replace ht := of_decide_eq_true ht | replace ht := of_decide_eq_false ht | skip)) | (refine ych ?_; first | (refine ybw rfl ?_ ?_ <;> intro ht) | (refine ybx rfl ?_ ?_ <;> intro ht)))
    (refine rx_call_m (ycp Try.func86 rfl (by kernel_rfl) rfl) (perm_at (k := 0) rfl) (insSort_sp g cap m a (a + 20) cur hcl (by omega) hb (by omega) (ones kf) h) rfl rfl rfl ?_ ?_ ?_; (· (exact to_)); (· intro _ _ hle; (exact to_)); intro x px hle)
    obtain ⟨q1, q2⟩ := step (a + 20) x.2 (by omega) hb (by omega) (.inl rfl) px
    repeat' (first | (refine ycf ?_; apply ybk; (· first | (exact tk_)); (· rfl); (· rfl)) | refine t1_ ?_ | (refine ta_ ?_; intro _) | ((fail_if_success (refine ybi rfl ?_)); refine ybj rfl ?_ ?_ <;> (intro ht; rw [ht]; first | replace ht := of_decide_eq_true ht | replace ht := of_decide_eq_false ht | skip)) | (refine ych ?_; first | (refine ybw rfl ?_ ?_ <;> intro ht) | (refine ybx rfl ?_ ?_ <;> intro ht)))
    exact nx_round (a + 20, x.2) ⟨hb, by show 20 ∣ a + 20; omega, q1, q2⟩ (by show m - (a + 20) < m - a; omega) (by repeat' (first | exact Sub.nil | refine Sub.cons rfl rfl ?_ | refine Sub.cons rfl (congrArg (Value.int .i64) (by dsimp only; omega)) ?_)) (fun _ s => s)
  · repeat' (first | (refine ycf ?_; apply ybk; (· first | (exact tk_)); (· rfl); (· rfl)) | refine t1_ ?_ | (refine ta_ ?_; intro _) | ((fail_if_success (refine ybi rfl ?_)); refine ybj rfl ?_ ?_ <;> (intro ht; rw [ht]; first | replace ht := of_decide_eq_true ht | replace ht := of_decide_eq_false ht | skip)) | (refine ych ?_; first | (refine ybw rfl ?_ ?_ <;> intro ht) | (refine ybx rfl ?_ ?_ <;> intro ht)))
    (refine rx_call_m (ycp Try.func86 rfl (by kernel_rfl) rfl) (perm_at (k := 0) rfl) (insSort_sp g cap m a m cur hcl ha (Nat.le_refl _) (by omega) (ones kf) h) rfl rfl rfl ?_ ?_ ?_; (· (exact to_)); (· intro _ _ hle; (exact to_)); intro x px hle)
    obtain ⟨q1, q2⟩ := step m x.2 ha (Nat.le_refl _) (by omega) (.inr rfl) px
    have hx2 : x.2.length = m := by rw [← q1.len, hm]
    have hR : Runs 20 x.2 := fun d hd => by
      by_cases hd2 : d < a + 20
      · exact q2 d hd hd2
      · rw [seg_nil (by omega)]; exact List.Pairwise.nil
    generalize x.2 = cur0 at q1 hR hx2 ⊢
    clear px q2 step hrun kf hcl
    repeat' (first | (refine ycf ?_; apply ybk; (· first | (exact tk_)); (· rfl); (· rfl)) | refine t1_ ?_ | (refine ta_ ?_; intro _) | ((fail_if_success (refine ybi rfl ?_)); refine ybj rfl ?_ ?_ <;> (intro ht; rw [ht]; first | replace ht := of_decide_eq_true ht | replace ht := of_decide_eq_false ht | skip)) | (refine ych ?_; first | (refine ybw rfl ?_ ?_ <;> intro ht) | (refine ybx rfl ?_ ?_ <;> intro ht)))
    refine cx_loop (X := Nat × List Sb) (fun x => [(0, .slice (some ⟨g, 0, none⟩) m cap), (1, .int .i64 m), (2, ordV), (6, .int .i64 (x.1 : Nat))]) (fun _ => h) (fun x => [rowS g cap m x.2])
      (fun x => 0 < x.1 ∧ x.1 ≤ 200000 ∧ KF l x.2 ∧ Runs x.1 x.2) (fun x => m - x.1) (20, cur0) ⟨(by show 0 < 20; decide), (by show 20 ≤ 200000; decide), q1, hR⟩ ts_ (fun _ s => s) ?_
    clear hR q1 hx2
    rintro ⟨bs, cur⟩ ⟨hb0, hb2, kf, hR⟩
    dsimp only at hb0 hb2 kf hR ⊢
    have hcl : cur.length = m := by rw [← kf.len, hm]
    by_cases hlt : bs < m
    · have hmul : IntKind.i64.wrap (2 * (bs : Int)) = ((2 * bs : Nat) : Int) := by rw [IntKind.wrap_i64]; omega
      have hmul' : IntKind.i64.wrap ((bs : Int) * 2) = ((2 * bs : Nat) : Int) := by rw [IntKind.wrap_i64]; omega
      repeat' (first | (refine ycf ?_; apply ybk; (· first | (first | exact tk_ | (exact qv_mul' rfl rfl hmul) | (exact qv_mul' rfl rfl hmul'))); (· rfl); (· rfl)) | refine t1_ ?_ | (refine ta_ ?_; intro _) | ((fail_if_success (refine ybi rfl ?_)); refine ybj rfl ?_ ?_ <;> (intro ht; rw [ht]; first | replace ht := of_decide_eq_true ht | replace ht := of_decide_eq_false ht | skip)) | (refine ych ?_; first | (refine ybw rfl ?_ ?_ <;> intro ht) | (refine ybx rfl ?_ ?_ <;> intro ht)))
      refine cx_loop (X := Nat × List Sb) (fun x => [(0, .slice (some ⟨g, 0, none⟩) m cap), (1, .int .i64 m), (2, ordV), (6, .int .i64 (bs : Nat)), (7, .int .i64 (x.1 : Nat)), (8, .int .i64 (x.1 + 2 * bs : Nat))]) (fun _ => h) (fun x => [rowS g cap m x.2])
        (fun x => x.1 ≤ m ∧ 2 * bs ∣ x.1 ∧ KF l x.2 ∧ (∀ d, 2 * bs ∣ d → d < x.1 → SortS (seg x.2 d (2 * bs))) ∧ ∀ d, bs ∣ d → x.1 ≤ d → SortS (seg x.2 d bs)) (fun x => m - x.1) (0, cur) ⟨Nat.zero_le _, ⟨0, rfl⟩, kf, ⟨fun d _ hd => absurd hd (Nat.not_lt_zero _), fun d hd _ => hR d hd⟩⟩
        (by repeat' (first | exact Sub.nil | refine Sub.cons rfl rfl ?_ | refine Sub.cons rfl (congrArg (Value.int .i64) (by dsimp only; omega)) ?_)) (fun _ s => s) ?_
      clear hR kf hcl cur
      rintro ⟨a, cur⟩ ⟨ha, hda, kf, hr1, hr2⟩
      dsimp only at ha hda kf hr1 hr2 ⊢
      have hcl : cur.length = m := by rw [← kf.len, hm]
      have hda1 : bs ∣ a := Nat.dvd_trans ⟨2, by rw [Nat.mul_comm]⟩ hda
      have step : ∀ c C, a + bs ≤ c → c ≤ m → c ≤ a + 2 * bs → (c = a + 2 * bs ∨ c = m) → KF (seg cur a bs ++ seg cur (a + bs) (c - (a + bs))) C → SortS C →
          KF l (cur.take a ++ (C ++ cur.drop c)) ∧ (∀ d, 2 * bs ∣ d → d < a + 2 * bs → SortS (seg (cur.take a ++ (C ++ cur.drop c)) d (2 * bs))) ∧ (∀ d, bs ∣ d → a + 2 * bs ≤ d → SortS (seg (cur.take a ++ (C ++ cur.drop c)) d bs)) := fun c C h1 h2 h3 h4 k1 t1 => by
        have hs := seg_split2 cur a (a + bs) c (by omega) h1
        rw [show a + bs - a = bs by omega, ← List.append_assoc (seg cur a bs)] at hs
        have hlen := k1.len
        have hpl : (cur.take a).length = a := by simp; omega
        have hDl : (seg cur a bs ++ seg cur (a + bs) (c - (a + bs))).length = c - a := by
          rw [List.length_append, seg_len (by omega), seg_len (by omega)]; omega
        generalize seg cur a bs ++ seg cur (a + bs) (c - (a + bs)) = D at hs hlen hDl k1
        refine ⟨kf.trans ?_, fun d hd hda' => ?_, fun d hd hda' => ?_⟩
        · conv => lhs; rw [hs]
          exact (KF.refl _).app (k1.app (KF.refl _))
        · by_cases hlt : d < a
          · have := dvd_add_le hd hda hlt
            rw [seg_same (D := D) hlen.symm (.inl (by omega)), ← hs]
            exact hr1 d hd hlt
          · have hd2 : d = a := by
              by_cases e : d = a
              · exact e
              · have := dvd_add_le hda hd (by omega); omega
            subst hd2
            have := seg_mid (P := cur.take d) (C := C) (Q := cur.drop c) (t := 2 * bs) (by
              rcases h4 with h4 | h4
              · left; omega
              · right; exact ⟨by omega, List.drop_eq_nil_of_le (by omega)⟩)
            rw [hpl] at this
            rw [this]
            exact t1
        · rw [seg_same (D := D) hlen.symm (.inr (by omega)), ← hs]
          exact hr2 d hd (by omega)
      have sA : SortS (seg cur a bs) := hr2 a hda1 (Nat.le_refl _)
      have oo : ∀ d t, Ones (seg cur d t) := fun d t x hx => ones kf x (seg_mem hx)
      by_cases hb : a + 2 * bs ≤ m
      · have sB : SortS (seg cur (a + bs) (a + 2 * bs - (a + bs))) := by
          rw [show a + 2 * bs - (a + bs) = bs by omega]
          exact hr2 (a + bs) (Nat.dvd_add hda1 (Nat.dvd_refl _)) (by omega)
        have lA : (seg cur a bs).length = bs := seg_len (by omega)
        have lB : (seg cur (a + bs) (a + 2 * bs - (a + bs))).length = bs := by rw [seg_len (by omega)]; omega
        have hs := seg_split2 cur a (a + bs) (a + 2 * bs) (by omega) (by omega)
        rw [show a + bs - a = bs by omega] at hs
        have hstep := step (a + 2 * bs)
        repeat' (first | (refine ycf ?_; apply ybk; (· first | (first | exact tk_ | (exact qv_mul' rfl rfl hmul) | (exact qv_mul' rfl rfl hmul'))); (· rfl); (· rfl)) | refine t1_ ?_ | (refine ta_ ?_; intro _) | ((fail_if_success (refine ybi rfl ?_)); refine ybj rfl ?_ ?_ <;> (intro ht; rw [ht]; first | replace ht := of_decide_eq_true ht | replace ht := of_decide_eq_false ht | skip)) | (refine ych ?_; first | (refine ybw rfl ?_ ?_ <;> intro ht) | (refine ybx rfl ?_ ?_ <;> intro ht)))
        (refine rx_call_m (ycp Try.func87 rfl (by kernel_rfl) rfl) (perm_at (k := 0) rfl) (symm_sp (a + 2 * bs - a) g cap m a (a + bs) (a + 2 * bs) _ _ _ (cur.take a) _ _ (cur.drop (a + 2 * bs)) cur hs (Nat.le_refl _) rfl (by omega) rfl (by simp; omega) (by omega) (by omega) (by simp; omega) (by omega) (by omega) (by omega) sA sB (oo _ _) (oo _ _) h) rfl rfl rfl ?_ ?_ ?_; (· (exact to_)); (· intro _ _ hle; (exact to_)); intro x px hle)
        obtain ⟨z1, z2, z3⟩ := hstep x.2 (by omega) hb (by omega) (.inl rfl) px.1 px.2
        repeat' (first | (refine ycf ?_; apply ybk; (· first | (first | exact tk_ | (exact qv_mul' rfl rfl hmul) | (exact qv_mul' rfl rfl hmul'))); (· rfl); (· rfl)) | refine t1_ ?_ | (refine ta_ ?_; intro _) | ((fail_if_success (refine ybi rfl ?_)); refine ybj rfl ?_ ?_ <;> (intro ht; rw [ht]; first | replace ht := of_decide_eq_true ht | replace ht := of_decide_eq_false ht | skip)) | (refine ych ?_; first | (refine ybw rfl ?_ ?_ <;> intro ht) | (refine ybx rfl ?_ ?_ <;> intro ht)))
        exact nx_round (a + 2 * bs, _) ⟨hb, Nat.dvd_add hda (Nat.dvd_refl _), z1, z2, z3⟩ (by show m - (a + 2 * bs) < m - a; omega) (by repeat' (first | exact Sub.nil | refine Sub.cons rfl rfl ?_ | refine Sub.cons rfl (congrArg (Value.int .i64) (by dsimp only; omega)) ?_)) (fun _ s => s)
      · have fin : ∀ cur', KF l cur' → (∀ d, 2 * bs ∣ d → d < a + 2 * bs → SortS (seg cur' d (2 * bs))) → Runs (2 * bs) cur' := fun cur' k1 h1 d hd => by
          by_cases hd2 : d < a + 2 * bs
          · exact h1 d hd hd2
          · rw [seg_nil (by rw [← k1.len]; omega)]; exact List.Pairwise.nil
        by_cases hb3 : a + bs < m
        · have sB : SortS (seg cur (a + bs) (m - (a + bs))) := by
            have := hr2 (a + bs) (Nat.dvd_add hda1 (Nat.dvd_refl _)) (by omega)
            unfold seg at this ⊢
            rw [List.take_of_length_le (by simp; omega)] at this
            rw [List.take_of_length_le (by simp; omega)]
            exact this
          have lA : (seg cur a bs).length = bs := seg_len (by omega)
          have lB : (seg cur (a + bs) (m - (a + bs))).length = m - (a + bs) := seg_len (by omega)
          have hs := seg_split2 cur a (a + bs) m (by omega) (by omega)
          rw [show a + bs - a = bs by omega] at hs
          have hstep := step m
          repeat' (first | (refine ycf ?_; apply ybk; (· first | (first | exact tk_ | (exact qv_mul' rfl rfl hmul) | (exact qv_mul' rfl rfl hmul'))); (· rfl); (· rfl)) | refine t1_ ?_ | (refine ta_ ?_; intro _) | ((fail_if_success (refine ybi rfl ?_)); refine ybj rfl ?_ ?_ <;> (intro ht; rw [ht]; first | replace ht := of_decide_eq_true ht | replace ht := of_decide_eq_false ht | skip)) | (refine ych ?_; first | (refine ybw rfl ?_ ?_ <;> intro ht) | (refine ybx rfl ?_ ?_ <;> intro ht)))
          (refine rx_call_m (ycp Try.func87 rfl (by kernel_rfl) rfl) (perm_at (k := 0) rfl) (symm_sp (m - a) g cap m a (a + bs) m _ _ _ (cur.take a) _ _ (cur.drop m) cur hs (Nat.le_refl _) rfl (by omega) rfl (by simp; omega) (by omega) (by omega) (by simp; omega) (by omega) (by omega) (by omega) sA sB (oo _ _) (oo _ _) h) rfl rfl rfl ?_ ?_ ?_; (· (exact to_)); (· intro _ _ hle; (exact to_)); intro x px hle)
          obtain ⟨z1, z2, z3⟩ := hstep x.2 (by omega) (Nat.le_refl _) (by omega) (.inr rfl) px.1 px.2
          repeat' (first | (refine ycf ?_; apply ybk; (· first | (first | exact tk_ | (exact qv_mul' rfl rfl hmul) | (exact qv_mul' rfl rfl hmul'))); (· rfl); (· rfl)) | refine t1_ ?_ | (refine ta_ ?_; intro _) | ((fail_if_success (refine ybi rfl ?_)); refine ybj rfl ?_ ?_ <;> (intro ht; rw [ht]; first | replace ht := of_decide_eq_true ht | replace ht := of_decide_eq_false ht | skip)) | (refine ych ?_; first | (refine ybw rfl ?_ ?_ <;> intro ht) | (refine ybx rfl ?_ ?_ <;> intro ht)))
          exact nx_round (2 * bs, _) ⟨by show 0 < 2 * bs; omega, by show 2 * bs ≤ 200000; omega, z1, fin _ z1 z2⟩ (by show m - 2 * bs < m - bs; omega) (by repeat' (first | exact Sub.nil | refine Sub.cons rfl rfl ?_ | refine Sub.cons rfl (congrArg (Value.int .i64) (by dsimp only; omega)) ?_)) (fun _ s => s)
        · repeat' (first | (refine ycf ?_; apply ybk; (· first | (first | exact tk_ | (exact qv_mul' rfl rfl hmul) | (exact qv_mul' rfl rfl hmul'))); (· rfl); (· rfl)) | refine t1_ ?_ | (refine ta_ ?_; intro _) | ((fail_if_success (refine ybi rfl ?_)); refine ybj rfl ?_ ?_ <;> (intro ht; rw [ht]; first | replace ht := of_decide_eq_true ht | replace ht := of_decide_eq_false ht | skip)) | (refine ych ?_; first | (refine ybw rfl ?_ ?_ <;> intro ht) | (refine ybx rfl ?_ ?_ <;> intro ht)))
          refine nx_round (2 * bs, cur) ⟨by show 0 < 2 * bs; omega, by show 2 * bs ≤ 200000; omega, kf, fin _ kf fun d hd hd2 => ?_⟩ (by show m - 2 * bs < m - bs; omega) (by repeat' (first | exact Sub.nil | refine Sub.cons rfl rfl ?_ | refine Sub.cons rfl (congrArg (Value.int .i64) (by dsimp only; omega)) ?_)) (fun _ s => s)
          by_cases hd3 : d < a
          · exact hr1 d hd hd3
          · have hd4 : d = a := by
              by_cases e : d = a
              · exact e
              · have := dvd_add_le hda hd (by omega); omega
            subst hd4
            unfold seg at sA ⊢
            rw [List.take_of_length_le (by simp; omega)] at sA ⊢
            exact sA
    · repeat' (first | (refine ycf ?_; apply ybk; (· first | (first | exact tk_ | (exact qv_mul' rfl rfl hmul) | (exact qv_mul' rfl rfl hmul'))); (· rfl); (· rfl)) | refine t1_ ?_ | (refine ta_ ?_; intro _) | ((fail_if_success (refine ybi rfl ?_)); refine ybj rfl ?_ ?_ <;> (intro ht; rw [ht]; first | replace ht := of_decide_eq_true ht | replace ht := of_decide_eq_false ht | skip)) | (refine ych ?_; first | (refine ybw rfl ?_ ?_ <;> intro ht) | (refine ybx rfl ?_ ?_ <;> intro ht)))
      refine nx_end0 rfl (fun w' s' => ⟨(_, cur), rfl, s', kf, ?_⟩)
      have := hR 0 ⟨0, rfl⟩
      unfold seg at this
      rwa [List.drop_zero, List.take_of_length_le (by omega)] at this

theorem sortStable_sp (g cap m : Nat) (l : List Sb) (hm : l.length = m) (hm62 : m ≤ 100000) (h1 : Ones l) (h : View) (w : World) (s : St ⟨w, h, doms [rowS g cap m l]⟩ h [rowS g cap m l] w) :
    Calls Try.prog 48 [.slice (some ⟨g, 0, none⟩) m cap, ordV].toArray w fun e w' => ∃ x : Value × List Sb, e = .returned x.1 ∧ St ⟨w, h, doms [rowS g cap m l]⟩ h [rowS g cap m x.2] w' ∧ KF l x.2 ∧ SortS x.2 := by
  refine calls_enter Try.func48 rfl Try.ntmps48 rfl s ?_
  repeat' (first | (refine ycf ?_; apply ybk; (· first | (first | exact tk_ | (exact qv_mul' rfl rfl hmul) | (exact qv_mul' rfl rfl hmul'))); (· rfl); (· rfl)) | refine t1_ ?_ | (refine ta_ ?_; intro _) | ((fail_if_success (refine ybi rfl ?_)); refine ybj rfl ?_ ?_ <;> (intro ht; rw [ht]; first | replace ht := of_decide_eq_true ht | replace ht := of_decide_eq_false ht | skip)) | (refine ych ?_; first | (refine ybw rfl ?_ ?_ <;> intro ht) | (refine ybx rfl ?_ ?_ <;> intro ht)))
  (refine rx_call_m (ycp Try.func67 rfl (by kernel_rfl) rfl) (perm_at (k := 0) rfl) (stable_sp g cap m l hm hm62 h1 h) rfl rfl rfl ?_ ?_ ?_; (· (exact to_)); (· intro _ _ hle; (exact to_)); intro x px hle)
  repeat' (first | (refine ycf ?_; apply ybk; (· first | (first | exact tk_ | (exact qv_mul' rfl rfl hmul) | (exact qv_mul' rfl rfl hmul'))); (· rfl); (· rfl)) | refine t1_ ?_ | (refine ta_ ?_; intro _) | ((fail_if_success (refine ybi rfl ?_)); refine ybj rfl ?_ ?_ <;> (intro ht; rw [ht]; first | replace ht := of_decide_eq_true ht | replace ht := of_decide_eq_false ht | skip)) | (refine ych ?_; first | (refine ybw rfl ?_ ?_ <;> intro ht) | (refine ybx rfl ?_ ?_ <;> intro ht)))
  exact nx_end0 rfl (fun w' s' => ⟨(_, x.2), rfl, s', px⟩)
end Go.Proofs.Ytkkjppeaaicgaaa
end

section
namespace Go.Proofs.Ytkkjppeaaicgaaa
open Go Go.Ck
set_option maxRecDepth 100000
set_option maxHeartbeats 4000000
set_option linter.unusedVariables false

abbrev rowX (v : Value) (l : List Sb) : Res := Res.row 41 20 v l.length (l.flatMap sbc)
theorem one_sb {h : View} {l : List Sb} (hs : ∀ x ∈ l, Sv h x) : ∀ u ∈ l.flatMap sbc, u.oneCell' = true := fun u hu => by
  obtain ⟨x, hx, hu⟩ := List.mem_flatMap.1 hu
  have := sbc_one (s := x) (hs x hx).one.1 (hs x hx).one.2
  exact List.all_eq_true.1 this u hu

theorem sGrow_sp (m : Nat) (hm : m ≤ 1000000) (h : View) (w : World) (s : St ⟨w, h, []⟩ h [] w) :
    Calls Try.prog 66 [.slice none 0 0, .int .i64 m].toArray w fun e w' => ∃ v, e = .returned v ∧ St ⟨w, h, []⟩ h [rowX v []] w' ∧ True := by
  refine calls_enter Try.func66 rfl Try.ntmps66 rfl s ?_
  repeat' (first | (refine ycf ?_; apply ybk; (· first | (first | (apply qv_cap; rfl) | (apply qv_slice_to; (· rfl); (· rfl); (· omega); (· omega)))); (· rfl); (· rfl)) | refine t1_ ?_ | (refine ta_ ?_; intro _) | ((fail_if_success (refine ybi rfl ?_)); refine ybj rfl ?_ ?_ <;> (intro ht; rw [ht]; first | replace ht := of_decide_eq_true ht | replace ht := of_decide_eq_false ht | skip)) | (refine ych ?_; first | (refine ybw rfl ?_ ?_ <;> intro ht) | (refine ybx rfl ?_ ?_ <;> intro ht)))
  · refine rx_row 41 20 ?_
    have hm0 : 0 < m := by omega
    have e1 : (m : Int) - (((0 : Nat) : Int) - ((0 : Nat) : Int)) = m := by omega
    rw [e1]
    refine rx_grow_nil 0 rfl rfl rfl hm0 rfl (by omega) (by unfold maxLen; omega) (by omega) rfl rfl rfl ybf (fun _ _ => ybf) ?_
    intro b cap hc1 hc2
    refine rx_cut 0 0 rfl (Nat.zero_le _) ?_
    repeat' (first | (refine ycf ?_; apply ybk; (· first | (first | (apply qv_cap; rfl) | (apply qv_slice_to; (· rfl); (· rfl); (· omega); (· omega)))); (· rfl); (· rfl)) | refine t1_ ?_ | (refine ta_ ?_; intro _) | ((fail_if_success (refine ybi rfl ?_)); refine ybj rfl ?_ ?_ <;> (intro ht; rw [ht]; first | replace ht := of_decide_eq_true ht | replace ht := of_decide_eq_false ht | skip)) | (refine ych ?_; first | (refine ybw rfl ?_ ?_ <;> intro ht) | (refine ybx rfl ?_ ?_ <;> intro ht)))
    refine nx_ret1 rfl (rv_tmp rfl) (fun w' s' => ⟨_, rfl, ?_, trivial⟩)
    exact s'
  · refine nx_ret1 rfl (rv_tmp rfl) (fun w' s' => ⟨_, rfl, ?_, trivial⟩)
    exact s'.rowNil _ _

def flatS (parts : List (Value × List Sb)) (k : Nat) : List Sb := (parts.take k).flatMap (·.2)
theorem flatS_succ {parts : List (Value × List Sb)} {k : Nat} (hk : k < parts.length) : flatS parts (k + 1) = flatS parts k ++ parts[k].2 := by
  unfold flatS
  rw [List.take_succ_eq_append_getElem hk, List.flatMap_append]
  simp
theorem flatS_le {parts : List (Value × List Sb)} {k : Nat} (hk : k ≤ parts.length) : (flatS parts k).length ≤ (flatS parts parts.length).length := by
  unfold flatS
  rw [List.take_length]
  conv => rhs; rw [← List.take_append_drop k parts]
  rw [List.flatMap_append, List.length_append]
  omega

theorem sConcat_sp (sv : Value) (parts : List (Value × List Sb)) (h : View) (hs : Sc h 1 sv parts.length (parts.map (·.1))) (hp : ∀ p ∈ parts, Ss h p.1 p.2) (hlen : (flatS parts parts.length).length ≤ 1000000) (hpl : parts.length ≤ 1000000) (w : World) (s : St ⟨w, h, []⟩ h [] w) :
    Calls Try.prog 47 [sv].toArray w fun e w' => ∃ v, e = .returned v ∧ St ⟨w, h, []⟩ h [rowX v (flatS parts parts.length)] w' ∧ True := by
  obtain ⟨_, ad, cap, rfl, hcap, _⟩ := id hs
  refine calls_enter Try.func47 rfl Try.ntmps47 rfl s ?_
  repeat' (first | (refine ycf ?_; apply ybk; (· first | (first | (apply qv_cap; rfl) | (apply qv_slice_to; (· rfl); (· rfl); (· omega); (· omega)))); (· rfl); (· rfl)) | refine t1_ ?_ | (refine ta_ ?_; intro _) | ((fail_if_success (refine ybi rfl ?_)); refine ybj rfl ?_ ?_ <;> (intro ht; rw [ht]; first | replace ht := of_decide_eq_true ht | replace ht := of_decide_eq_false ht | skip)) | (refine ych ?_; first | (refine ybw rfl ?_ ?_ <;> intro ht) | (refine ybx rfl ?_ ?_ <;> intro ht)))
  refine cx_loop (X := Nat) (fun k => [(0, .slice ad parts.length cap), (3, .int .i64 (flatS parts k).length), (9, .slice ad parts.length cap), (10, .int .i64 parts.length), (11, .int .i64 k)]) (fun _ => h) (fun _ => []) (fun k => k ≤ parts.length) (fun k => parts.length - k) 0 (Nat.zero_le _) ts_ (fun _ s => s) ?_
  intro k hk
  by_cases hkl : k < parts.length
  · obtain ⟨bs, o, rfl⟩ := hs.ad (by omega) (by omega)
    have hel : ∀ L, CellAt h L bs (o + k * 1) parts[k].1 := fun L => (hs.cells (L := L)).cell (by simp [hkl])
    obtain ⟨hd, hsv⟩ := hp _ (List.getElem_mem hkl)
    obtain ⟨_, ad1, cap1, hv1, _, _⟩ := id hd
    have e1 := flatS_succ hkl
    have h1 := flatS_le (parts := parts) (k := k + 1) hkl
    have h2 : (flatS parts (k + 1)).length = (flatS parts k).length + parts[k].2.length := by rw [e1, List.length_append]
    rw [hv1] at hel
    repeat' (first | (refine ycf ?_; apply ybk; (· first | (first | (apply qv_cap; rfl) | (apply qv_slice_to; (· rfl); (· rfl); (· omega); (· omega))) | (apply yae; (· rfl); (· exact hel _))); (· rfl); (· rfl)) | refine t1_ ?_ | (refine ta_ ?_; intro _) | ((fail_if_success (refine ybi rfl ?_)); refine ybj rfl ?_ ?_ <;> (intro ht; rw [ht]; first | replace ht := of_decide_eq_true ht | replace ht := of_decide_eq_false ht | skip)) | (refine ych ?_; first | (refine ybw rfl ?_ ?_ <;> intro ht) | (refine ybx rfl ?_ ?_ <;> intro ht)))
    · refine nx_round (k + 1) (by show k + 1 ≤ _; omega) (by show parts.length - (k + 1) < parts.length - k; omega) ?_ (fun _ s => s)
      rw [h2]
      exact ts_
    · omega
  · have ek : k = parts.length := by omega
    subst ek
    repeat' (first | (refine ycf ?_; apply ybk; (· first | (first | (apply qv_cap; rfl) | (apply qv_slice_to; (· rfl); (· rfl); (· omega); (· omega))) | (apply yae; (· rfl); (· exact hel _))); (· rfl); (· rfl)) | refine t1_ ?_ | (refine ta_ ?_; intro _) | ((fail_if_success (refine ybi rfl ?_)); refine ybj rfl ?_ ?_ <;> (intro ht; rw [ht]; first | replace ht := of_decide_eq_true ht | replace ht := of_decide_eq_false ht | skip)) | (refine ych ?_; first | (refine ybw rfl ?_ ?_ <;> intro ht) | (refine ybx rfl ?_ ?_ <;> intro ht)))
    · omega
    (refine yco (ycp Try.func66 rfl (by kernel_rfl) rfl) (sGrow_sp (flatS parts parts.length).length hlen h) rfl rfl rfl ?_ ?_ ?_; (· (exact to_)); (· intro _ _ hle; (exact to_)); intro x px hle)
    repeat' (first | (refine ycf ?_; apply ybk; (· first | (first | (apply qv_cap; rfl) | (apply qv_slice_to; (· rfl); (· rfl); (· omega); (· omega))) | (apply yae; (· rfl); (· exact hel _))); (· rfl); (· rfl)) | refine t1_ ?_ | (refine ta_ ?_; intro _) | ((fail_if_success (refine ybi rfl ?_)); refine ybj rfl ?_ ?_ <;> (intro ht; rw [ht]; first | replace ht := of_decide_eq_true ht | replace ht := of_decide_eq_false ht | skip)) | (refine ych ?_; first | (refine ybw rfl ?_ ?_ <;> intro ht) | (refine ybx rfl ?_ ?_ <;> intro ht)))
    have e0 : flatS parts 0 = [] := rfl
    refine cx_loop (X := Nat × Value) (fun y => [(6, y.2), (25, .slice ad parts.length cap), (26, .int .i64 parts.length), (27, .int .i64 y.1)]) (fun _ => h) (fun y => [rowX y.2 (flatS parts y.1)]) (fun y => y.1 ≤ parts.length) (fun y => parts.length - y.1) (0, x) (Nat.zero_le _) ts_ (fun _ s => s) ?_
    rintro ⟨k, v⟩ hk
    replace hk : k ≤ parts.length := hk
    dsimp only
    by_cases hkl : k < parts.length
    · obtain ⟨bs, o, rfl⟩ := hs.ad (by omega) (by omega)
      have hel : ∀ L, CellAt h L bs (o + k * 1) parts[k].1 := fun L => (hs.cells (L := L)).cell (by simp [hkl])
      obtain ⟨hd, hsv⟩ := hp _ (List.getElem_mem hkl)
      obtain ⟨_, ad1, cap1, hv1, _, _⟩ := id hd
      have e1 := flatS_succ hkl
      have h1 := flatS_le (parts := parts) (k := k + 1) hkl
      have h2 : (flatS parts (k + 1)).length = (flatS parts k).length + parts[k].2.length := by rw [e1, List.length_append]
      rw [hv1] at hel hd
      repeat' (first | (refine ycf ?_; apply ybk; (· first | (first | (apply qv_cap; rfl) | (apply qv_slice_to; (· rfl); (· rfl); (· omega); (· omega))) | (apply yae; (· rfl); (· exact hel _))); (· rfl); (· rfl)) | refine t1_ ?_ | (refine ta_ ?_; intro _) | ((fail_if_success (refine ybi rfl ?_)); refine ybj rfl ?_ ?_ <;> (intro ht; rw [ht]; first | replace ht := of_decide_eq_true ht | replace ht := of_decide_eq_false ht | skip)) | (refine ych ?_; first | (refine ybw rfl ?_ ?_ <;> intro ht) | (refine ybx rfl ?_ ?_ <;> intro ht)))
      · refine rx_append_sc (sz := 20) 0 rfl rfl rfl hd (one_sb hsv) rfl (by omega) (by unfold maxLen; omega) (by omega) rfl rfl rfl ybf (fun _ => ybf) ?_
        intro v2 _
        repeat' (first | (refine ycf ?_; apply ybk; (· first | (first | (apply qv_cap; rfl) | (apply qv_slice_to; (· rfl); (· rfl); (· omega); (· omega))) | (apply yae; (· rfl); (· exact hel _))); (· rfl); (· rfl)) | refine t1_ ?_ | (refine ta_ ?_; intro _) | ((fail_if_success (refine ybi rfl ?_)); refine ybj rfl ?_ ?_ <;> (intro ht; rw [ht]; first | replace ht := of_decide_eq_true ht | replace ht := of_decide_eq_false ht | skip)) | (refine ych ?_; first | (refine ybw rfl ?_ ?_ <;> intro ht) | (refine ybx rfl ?_ ?_ <;> intro ht)))
        refine nx_round (k + 1, v2) (by show k + 1 ≤ _; omega) (by show parts.length - (k + 1) < parts.length - k; omega) ts_ (fun _ s => ?_)
        dsimp only
        unfold rowX
        rw [h2, e1, List.flatMap_append]
        exact s
      · omega
    · have ek : k = parts.length := by omega
      subst ek
      repeat' (first | (refine ycf ?_; apply ybk; (· first | (first | (apply qv_cap; rfl) | (apply qv_slice_to; (· rfl); (· rfl); (· omega); (· omega))) | (apply yae; (· rfl); (· exact hel _))); (· rfl); (· rfl)) | refine t1_ ?_ | (refine ta_ ?_; intro _) | ((fail_if_success (refine ybi rfl ?_)); refine ybj rfl ?_ ?_ <;> (intro ht; rw [ht]; first | replace ht := of_decide_eq_true ht | replace ht := of_decide_eq_false ht | skip)) | (refine ych ?_; first | (refine ybw rfl ?_ ?_ <;> intro ht) | (refine ybx rfl ?_ ?_ <;> intro ht)))
      · omega
      refine nx_ret1 rfl (rv_tmp rfl) (fun w' s' => ⟨_, rfl, ?_, trivial⟩)
      exact s'
end Go.Proofs.Ytkkjppeaaicgaaa
end
