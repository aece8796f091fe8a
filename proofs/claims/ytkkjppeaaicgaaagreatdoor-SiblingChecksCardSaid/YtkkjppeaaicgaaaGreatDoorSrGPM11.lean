/-
  Part 11 of a proof: SbF SbG SbH.
  Conditions: each theorem states its own.
-/
import Derived.Test.YtkkjppeaaicgaaaGreatDoorSrGPM10
section
namespace Go.Proofs.YtkkjppeaaicgaaaGreatDoor
open Go Go.Ck
set_option maxRecDepth 100000
set_option maxHeartbeats 4000000
set_option linter.unusedVariables false
theorem insL_up {P S Q : List Sb} {x y : Sb} {t : Nat} (hy : S[t]? = some y) : ((insL P S Q x t).set (P.length + t) y).set (P.length + t + 1) x = insL P S Q x (t + 1) := by
  obtain ⟨hyl, rfl⟩ := List.getElem?_eq_some_iff.1 hy
  have e1 : S.take (t + 1) = S.take t ++ [S[t]] := List.take_succ_eq_append_getElem (by omega)
  have e2 : S.drop t = S[t] :: S.drop (t + 1) := List.drop_eq_getElem_cons (by omega)
  have e3 : (P ++ S.take t).length = P.length + t := by simp; omega
  have e4 : insL P S Q x (t + 1) = (P ++ S.take t) ++ (S[t] :: x :: (S.drop (t + 1) ++ Q)) := by
    unfold insL; rw [e1]; simp only [List.append_assoc, List.singleton_append]
  have e5 : insL P S Q x t = (P ++ S.take t) ++ (x :: S[t] :: (S.drop (t + 1) ++ Q)) := by
    unfold insL; simp only [e2, List.append_assoc, List.cons_append]
  have h := swp_far (A := P ++ S.take t) (B := []) (C := S.drop (t + 1) ++ Q) (x := x) (y := S[t])
  rw [e3] at h
  rw [e5, e4]
  exact h
theorem insL_z {P S Q : List Sb} {x y : Sb} {t : Nat} (hy : S[t]? = some y) : (insL P S Q x t)[P.length + t + 1]? = some y := by
  obtain ⟨hyl, rfl⟩ := List.getElem?_eq_some_iff.1 hy
  have e2 : S.drop t = S[t] :: S.drop (t + 1) := List.drop_eq_getElem_cons (by omega)
  unfold insL
  rw [List.getElem?_append_right (by omega), List.getElem?_append_right (by simp; omega), e2]
  have : P.length + t + 1 - P.length - (S.take t).length = 1 := by simp; omega
  rw [this]; rfl
theorem sort_at {S : List Sb} {i j : Nat} {x y : Sb} (hs : SortS S) (hx : S[i]? = some x) (hy : S[j]? = some y) (hij : i ≤ j) : ordD x.d y.d ≤ 0 := by
  obtain ⟨h1, rfl⟩ := List.getElem?_eq_some_iff.1 hx
  obtain ⟨h2, rfl⟩ := List.getElem?_eq_some_iff.1 hy
  by_cases e : i = j
  · subst e
    have := ord_self S[i].d
    rw [ord_le]; exact this
  · exact List.pairwise_iff_getElem.1 hs i j h1 h2 (by omega)
theorem ord_lt_le {x y z : Dt} (h1 : ordD x y ≤ 0) (h2 : ordD y z < 0) : ordD x z < 0 := by
  rw [ord_le] at h1
  rw [ord_iff] at *
  omega
theorem ord_le_ltx {x y z : Dt} (h1 : ordD x y < 0) (h2 : ordD y z ≤ 0) : ordD x z < 0 := by
  rw [ord_le] at h2
  rw [ord_iff] at *
  omega
theorem up_kf {S : List Sb} {x : Sb} {t : Nat} (hlo : ∀ y ∈ S.take t, ordD y.d x.d < 0) : KF (x :: S) (S.take t ++ (x :: S.drop t)) := by
  have h1 : x :: S = (x :: S.take t) ++ S.drop t := by rw [List.cons_append, List.take_append_drop]
  have h2 : S.take t ++ (x :: S.drop t) = (S.take t ++ [x]) ++ S.drop t := by simp
  rw [h1, h2]
  exact (KF.move fun y hy e => ord_self x.d (by have := hlo y hy; rwa [e] at this)).symm.app (KF.refl _)
theorem mid_sort {S : List Sb} {x : Sb} {t : Nat} (hs : SortS S) (hlo : ∀ y ∈ S.take t, ordD y.d x.d ≤ 0) (hup : ∀ y ∈ S.drop t, ordD x.d y.d ≤ 0) : SortS (S.take t ++ (x :: S.drop t)) := by
  have h1 : SortS (S.take t ++ S.drop t) := by rw [List.take_append_drop]; exact hs
  obtain ⟨q1, q2, q3⟩ := List.pairwise_append.1 h1
  refine List.pairwise_append.2 ⟨q1, List.pairwise_cons.2 ⟨fun y hy => hup y hy, q2⟩, fun z hz y hy => ?_⟩
  rcases List.mem_cons.1 hy with rfl | hy
  · exact hlo z hz
  · exact q3 z hz y hy
theorem half {i j q : Nat} (hq : q = (i + j) / 2) : ((i : Int) + (j : Int)).fdiv (2 ^ 1) = (q : Int) := by
  rw [show (2 : Int) ^ 1 = 2 from rfl, Int.fdiv_eq_ediv_of_nonneg _ (by decide)]
  omega
theorem symm1_sp (g cap n a m b : Nat) (P : List Sb) (x : Sb) (B Q : List Sb) (hP : P.length = a) (hA : a + 1 = m) (hB : m + B.length = b) (hn : b + Q.length = n) (hn62 : n ≤ 1000000) (sB : SortS B) (ox : x.mv.oneCell' = true ∧ x.bv.oneCell' = true) (oB : Ones B) (h : View) (w : World)
    (s : St ⟨w, h, doms [rowS g cap n (P ++ (x :: (B ++ Q)))]⟩ h [rowS g cap n (P ++ (x :: (B ++ Q)))] w) :
    Calls Tryz.prog 125 [.slice (some ⟨g, 0, none⟩) n cap, .int .i64 a, .int .i64 m, .int .i64 b, ordV].toArray w fun e w' => ∃ y : Value × List Sb, e = .returned y.1 ∧ St ⟨w, h, doms [rowS g cap n (P ++ (x :: (B ++ Q)))]⟩ h [rowS g cap n (P ++ (y.2 ++ Q))] w' ∧ KF (x :: B) y.2 ∧ SortS y.2 := by
  have hxl := sbc_len x
  have hrow : P ++ (x :: (B ++ Q)) = insL P B Q x 0 := by simp [insL]
  have hgx : (P ++ (x :: (B ++ Q)))[a]? = some x := by rw [← hP]; simp
  have helx := fun (L : List Res) (c : Cells h L ⟨g, 0, none⟩ ((P ++ (x :: (B ++ Q))).flatMap sbc)) => row_el c hgx (show ((a : Int)).toNat = a by omega)
  refine calls_enter Tryz.func125 rfl Tryz.ntmps125 rfl s ?_
  repeat' (first|(refine ycf ?_;apply ybk;(·first|(exact tk_));(·rfl);(·rfl))|refine t1_ ?_|(refine ta_ ?_;intro _)|((fail_if_success (refine ybi rfl ?_));refine ybj rfl ?_ ?_<;>(intro ht;rw [ht];first|replace ht := oet_ ht|replace ht := oef_ ht|skip))|(refine ych ?_;first|(refine ybw rfl ?_ ?_<;>intro ht)|(refine ybx rfl ?_ ?_<;>intro ht)))
  refine cx_loop (X := Nat × Nat) (fun y => [(0, .slice (some ⟨g, 0, none⟩) n cap), (1, .int .i64 a), (4, ordV), (10, .int .i64 (y.1 : Nat)), (11, .int .i64 (y.2 : Nat))]) (fun _ => h) (fun _ => _)
    (fun y => m ≤ y.1 ∧ y.1 ≤ y.2 ∧ y.2 ≤ b ∧ (∀ t e, B[t]? = some e → t < y.1 - m → ordD e.d x.d < 0) ∧ (∀ t e, B[t]? = some e → y.2 - m ≤ t → ¬ ordD e.d x.d < 0)) (fun y => y.2 - y.1) (m, b)
    ⟨Nat.le_refl _, by show m ≤ b; omega, Nat.le_refl _, fun t e _ ht => by dsimp only at ht; omega, fun t e he ht => by have := (List.getElem?_eq_some_iff.1 he).1; dsimp only at ht; omega⟩ ts_ (fun _ s => s) ?_
  rintro ⟨i, j⟩ ⟨hi, hij, hj, hlo, hup⟩
  dsimp only at hi hij hj hlo hup ⊢
  by_cases hlt : i < j
  · obtain ⟨q, hq⟩ : ∃ q, q = (i + j) / 2 := ⟨_, rfl⟩
    obtain ⟨e, he⟩ : ∃ e, B[q - m]? = some e := ⟨_, List.getElem?_eq_getElem (by omega)⟩
    have hge : (P ++ (x :: (B ++ Q)))[q]? = some e := by
      rw [List.getElem?_append_right (by omega), show q - P.length = (q - m) + 1 by omega, List.getElem?_cons_succ, List.getElem?_append_left (by have := (List.getElem?_eq_some_iff.1 he).1; omega), he]
    have hele := fun (L : List Res) (c : Cells h L ⟨g, 0, none⟩ ((P ++ (x :: (B ++ Q))).flatMap sbc)) => row_el c hge (show ((q : Int)).toNat = q by omega)
    have hel := sbc_len e
    repeat' (first|(refine ycf ?_;apply ybk;(·first|(first|exact tk_|(refine qv_convert_int' (kd := .u64) (r := (i : Int) + (j : Int)) rfl (wrap_u64 (by omega) (by omega)))|(exact qv_shr (j := 1) (r := (q : Int)) rfl rfl (half hq) (by decide))|(refine qv_convert_int' (kd := .i64) (r := (q : Int)) rfl (by rw [IntKind.wrap_i64];omega))|(apply yad;(·rfl);(·exact hele _ (row_cells 0 rfl));(·exact hel))|(apply yad;(·rfl);(·exact helx _ (row_cells 0 rfl));(·exact hxl))));(·rfl);(·rfl))|refine t1_ ?_|(refine ta_ ?_;intro _)|((fail_if_success (refine ybi rfl ?_));refine ybj rfl ?_ ?_<;>(intro ht;rw [ht];first|replace ht := oet_ ht|replace ht := oef_ ht|skip))|(refine ych ?_;first|(refine ybw rfl ?_ ?_<;>intro ht)|(refine ybx rfl ?_ ?_<;>intro ht)))
    refine cx_region_draw' rfl (by kernel_rfl) ?_
    repeat' (refine ycf ?_;(first|(first|(apply ybm;(·(first|(first|exact tk_|(refine qv_convert_int' (kd := .u64) (r := (i : Int) + (j : Int)) rfl (wrap_u64 (by omega) (by omega)))|(exact qv_shr (j := 1) (r := (q : Int)) rfl rfl (half hq) (by decide))|(refine qv_convert_int' (kd := .i64) (r := (q : Int)) rfl (by rw [IntKind.wrap_i64];omega))|(apply yad;(·rfl);(·exact hele _ (row_cells 0 rfl));(·exact hel))|(apply yad;(·rfl);(·exact helx _ (row_cells 0 rfl));(·exact hxl)))|exact tq_));(·rfl);(·rfl);(·(exact th_)))|refine ybl rfl rfl ?_|((fail_if_success (refine ybi rfl ?_));refine ybj rfl ?_ ?_<;>(intro ht;rw [ht];first|replace ht := oet_ ht|replace ht := oef_ ht|skip))|(refine tb_ ?_ ?_ ?_;(·(exact to_));(·intro _;(exact to_));intro _)|(first|(refine tqs_ ?_ ?_ ?_;(·(exact to_));(·(exact to_))))|(apply ybn;(·(first|(first|exact tk_|(refine qv_convert_int' (kd := .u64) (r := (i : Int) + (j : Int)) rfl (wrap_u64 (by omega) (by omega)))|(exact qv_shr (j := 1) (r := (q : Int)) rfl rfl (half hq) (by decide))|(refine qv_convert_int' (kd := .i64) (r := (q : Int)) rfl (by rw [IntKind.wrap_i64];omega))|(apply yad;(·rfl);(·exact hele _ (row_cells 0 rfl));(·exact hel))|(apply yad;(·rfl);(·exact helx _ (row_cells 0 rfl));(·exact hxl)))|exact tq_));(·rfl);(·rfl);(·rfl);(·(exact to_))))|refine ycg ?_))
    (refine ycn (call_val rfl Tryz.func36 rfl (by kernel_rfl) rfl) (sorder_sp e x h) rfl rfl rfl ?_ ?_; (· (exact to_)))
    by_cases hO : ordD e.d x.d < 0
    · repeat' (refine ycf ?_;(first|(first|(apply ybm;(·(first|(first|exact tk_|(refine qv_convert_int' (kd := .u64) (r := (i : Int) + (j : Int)) rfl (wrap_u64 (by omega) (by omega)))|(exact qv_shr (j := 1) (r := (q : Int)) rfl rfl (half hq) (by decide))|(refine qv_convert_int' (kd := .i64) (r := (q : Int)) rfl (by rw [IntKind.wrap_i64];omega))|(apply yad;(·rfl);(·exact hele _ (row_cells 0 rfl));(·exact hel))|(apply yad;(·rfl);(·exact helx _ (row_cells 0 rfl));(·exact hxl)))|exact tq_));(·rfl);(·rfl);(·(exact th_)))|refine ybl rfl rfl ?_|((fail_if_success (refine ybi rfl ?_));refine ybj rfl ?_ ?_<;>(intro ht;rw [ht];first|replace ht := oet_ ht|replace ht := oef_ ht|skip))|(refine tb_ ?_ ?_ ?_;(·(exact to_));(·intro _;(exact to_));intro _)|(first|(refine tqs_ ?_ ?_ ?_;(·(exact to_));(·(exact to_))))|(apply ybn;(·(first|(first|exact tk_|(refine qv_convert_int' (kd := .u64) (r := (i : Int) + (j : Int)) rfl (wrap_u64 (by omega) (by omega)))|(exact qv_shr (j := 1) (r := (q : Int)) rfl rfl (half hq) (by decide))|(refine qv_convert_int' (kd := .i64) (r := (q : Int)) rfl (by rw [IntKind.wrap_i64];omega))|(apply yad;(·rfl);(·exact hele _ (row_cells 0 rfl));(·exact hel))|(apply yad;(·rfl);(·exact helx _ (row_cells 0 rfl));(·exact hxl)))|exact tq_));(·rfl);(·rfl);(·rfl);(·(exact to_))))|refine ycg ?_))
      repeat' (first|(refine ycf ?_;apply ybk;(·first|(first|exact tk_|(refine qv_convert_int' (kd := .u64) (r := (i : Int) + (j : Int)) rfl (wrap_u64 (by omega) (by omega)))|(exact qv_shr (j := 1) (r := (q : Int)) rfl rfl (half hq) (by decide))|(refine qv_convert_int' (kd := .i64) (r := (q : Int)) rfl (by rw [IntKind.wrap_i64];omega))|(apply yad;(·rfl);(·exact hele _ (row_cells 0 rfl));(·exact hel))|(apply yad;(·rfl);(·exact helx _ (row_cells 0 rfl));(·exact hxl))));(·rfl);(·rfl))|refine t1_ ?_|(refine ta_ ?_;intro _)|((fail_if_success (refine ybi rfl ?_));refine ybj rfl ?_ ?_<;>(intro ht;rw [ht];first|replace ht := oet_ ht|replace ht := oef_ ht|skip))|(refine ych ?_;first|(refine ybw rfl ?_ ?_<;>intro ht)|(refine ybx rfl ?_ ?_<;>intro ht)))
      refine nx_round (q + 1, j) ⟨by show m ≤ q + 1; omega, by show q + 1 ≤ j; omega, hj, fun t z hz ht => ?_, hup⟩ (by show j - (q + 1) < j - i; omega) ts_ (fun _ s => s)
      exact ord_lt_le (sort_at sB hz he (by dsimp only at ht; omega)) hO
    · repeat' (refine ycf ?_;(first|(first|(apply ybm;(·(first|(first|exact tk_|(refine qv_convert_int' (kd := .u64) (r := (i : Int) + (j : Int)) rfl (wrap_u64 (by omega) (by omega)))|(exact qv_shr (j := 1) (r := (q : Int)) rfl rfl (half hq) (by decide))|(refine qv_convert_int' (kd := .i64) (r := (q : Int)) rfl (by rw [IntKind.wrap_i64];omega))|(apply yad;(·rfl);(·exact hele _ (row_cells 0 rfl));(·exact hel))|(apply yad;(·rfl);(·exact helx _ (row_cells 0 rfl));(·exact hxl)))|exact tq_));(·rfl);(·rfl);(·(exact th_)))|refine ybl rfl rfl ?_|((fail_if_success (refine ybi rfl ?_));refine ybj rfl ?_ ?_<;>(intro ht;rw [ht];first|replace ht := oet_ ht|replace ht := oef_ ht|skip))|(refine tb_ ?_ ?_ ?_;(·(exact to_));(·intro _;(exact to_));intro _)|(first|(refine tqs_ ?_ ?_ ?_;(·(exact to_));(·(exact to_))))|(apply ybn;(·(first|(first|exact tk_|(refine qv_convert_int' (kd := .u64) (r := (i : Int) + (j : Int)) rfl (wrap_u64 (by omega) (by omega)))|(exact qv_shr (j := 1) (r := (q : Int)) rfl rfl (half hq) (by decide))|(refine qv_convert_int' (kd := .i64) (r := (q : Int)) rfl (by rw [IntKind.wrap_i64];omega))|(apply yad;(·rfl);(·exact hele _ (row_cells 0 rfl));(·exact hel))|(apply yad;(·rfl);(·exact helx _ (row_cells 0 rfl));(·exact hxl)))|exact tq_));(·rfl);(·rfl);(·rfl);(·(exact to_))))|refine ycg ?_))
      repeat' (first|(refine ycf ?_;apply ybk;(·first|(first|exact tk_|(refine qv_convert_int' (kd := .u64) (r := (i : Int) + (j : Int)) rfl (wrap_u64 (by omega) (by omega)))|(exact qv_shr (j := 1) (r := (q : Int)) rfl rfl (half hq) (by decide))|(refine qv_convert_int' (kd := .i64) (r := (q : Int)) rfl (by rw [IntKind.wrap_i64];omega))|(apply yad;(·rfl);(·exact hele _ (row_cells 0 rfl));(·exact hel))|(apply yad;(·rfl);(·exact helx _ (row_cells 0 rfl));(·exact hxl))));(·rfl);(·rfl))|refine t1_ ?_|(refine ta_ ?_;intro _)|((fail_if_success (refine ybi rfl ?_));refine ybj rfl ?_ ?_<;>(intro ht;rw [ht];first|replace ht := oet_ ht|replace ht := oef_ ht|skip))|(refine ych ?_;first|(refine ybw rfl ?_ ?_<;>intro ht)|(refine ybx rfl ?_ ?_<;>intro ht)))
      refine nx_round (i, q) ⟨hi, by show i ≤ q; omega, by show q ≤ b; omega, hlo, fun t z hz ht hz2 => ?_⟩ (by show q - i < j - i; omega) ts_ (fun _ s => s)
      exact hO (ord_lt_le (sort_at sB he hz (by dsimp only at ht; omega)) hz2)
  · have hij' : i = j := by omega
    subst hij'
    repeat' (first|(refine ycf ?_;apply ybk;(·first|(exact tk_));(·rfl);(·rfl))|refine t1_ ?_|(refine ta_ ?_;intro _)|((fail_if_success (refine ybi rfl ?_));refine ybj rfl ?_ ?_<;>(intro ht;rw [ht];first|replace ht := oet_ ht|replace ht := oef_ ht|skip))|(refine ych ?_;first|(refine ybw rfl ?_ ?_<;>intro ht)|(refine ybx rfl ?_ ?_<;>intro ht)))
    obtain ⟨u0, hu0⟩ : ∃ u0, u0 = i - m := ⟨_, rfl⟩
    have hkf : KF (x :: B) (B.take u0 ++ (x :: B.drop u0)) := up_kf fun y hy => by
      obtain ⟨t, ht, rfl⟩ := List.getElem_of_mem hy
      rw [List.getElem_take]
      exact hlo t _ (List.getElem?_eq_getElem (by simp at ht; omega)) (by simp at ht; omega)
    have hst : SortS (B.take u0 ++ (x :: B.drop u0)) := mid_sort sB (fun y hy => by
      obtain ⟨t, ht, rfl⟩ := List.getElem_of_mem hy
      rw [List.getElem_take]
      exact ord_le_lt (hlo t _ (List.getElem?_eq_getElem (by simp at ht; omega)) (by simp at ht; omega))) (fun y hy => by
      obtain ⟨t, ht, rfl⟩ := List.getElem_of_mem hy
      rw [List.getElem_drop]
      exact ord_le.2 (hup (u0 + t) _ (List.getElem?_eq_getElem (by simp at ht; omega)) (by omega)))
    refine cx_loop (X := Nat) (fun u => [(0, .slice (some ⟨g, 0, none⟩) n cap), (10, .int .i64 (i : Nat)), (13, .int .i64 (a + u : Nat))]) (fun _ => h) (fun u => [rowS g cap n (insL P B Q x u)])
      (fun u => u ≤ u0) (fun u => u0 - u) 0 (Nat.zero_le _) ts_ (fun _ s => by rw [← hrow]; exact s) ?_
    intro u hu
    have hln : (insL P B Q x u).length = n := by rw [insL_len (by omega)]; omega
    by_cases hu1 : u < u0
    · obtain ⟨y, hy⟩ : ∃ y, B[u]? = some y := ⟨_, List.getElem?_eq_getElem (by omega)⟩
      have hyl := sbc_len y
      have hy1 := oB y (List.mem_of_getElem? hy)
      have gx := insL_x (P := P) (S := B) (Q := Q) (x := x) (t := u) (by omega)
      have gy := insL_z (P := P) (Q := Q) (x := x) hy
      have gy' : ((insL P B Q x u).set (P.length + u) y)[P.length + u + 1]? = some y := by rw [List.getElem?_set_ne (by omega)]; exact gy
      have hsw := insL_up (P := P) (Q := Q) (x := x) hy
      have hel := fun (L : List Res) (c : Cells h L ⟨g, 0, none⟩ ((insL P B Q x u).flatMap sbc)) => row_el c gx (show ((a + u : Nat) : Int).toNat = P.length + u by omega)
      repeat' (first|(refine ycf ?_;apply ybk;(·first|(exact tk_));(·rfl);(·rfl))|refine t1_ ?_|(refine ta_ ?_;intro _)|((fail_if_success (refine ybi rfl ?_));refine ybj rfl ?_ ?_<;>(intro ht;rw [ht];first|replace ht := oet_ ht|replace ht := oef_ ht|skip))|(refine ych ?_;first|(refine ybw rfl ?_ ?_<;>intro ht)|(refine ybx rfl ?_ ?_<;>intro ht)))
      refine cx_region_drawL [Res.part g (0 + (((a + u : Nat) : Int) + 1).toNat * 20) (.int .i64 y.d.1) (sbc y).tail] [13] rfl (by kernel_rfl) ?_
      repeat' (refine ycf ?_;(first|(first|(apply ybm;(·(first|(first|exact tk_|(apply yad;(·rfl);(·exact (show Cells _ _ _ (sbc y) from part_cells 0 rfl));(·exact hyl))|(apply yad;(·rfl);(·exact hel _ (row_cells 0 rfl));(·exact hxl)))|exact tq_));(·rfl);(·rfl);(·(first|exact row_part gy (by omega)|exact row_part gy' (by omega))))|refine ybl rfl rfl ?_|((fail_if_success (refine ybi rfl ?_));refine ybj rfl ?_ ?_<;>(intro ht;rw [ht];first|replace ht := oet_ ht|replace ht := oef_ ht|skip))|(refine tb_ ?_ ?_ ?_;(·(first|exact ybf|(refine .inl ?_;(first|exact row_part gy (by omega)|exact row_part gy' (by omega)))|exact to_));(·intro _;(first|exact ybf|(refine .inl ?_;(first|exact row_part gy (by omega)|exact row_part gy' (by omega)))|exact to_));intro _)|(first|(first|(refine rx_rowstore 0 rfl rfl rfl (sbc_sz y) (by rw [sbc_sz];omega) (sbc_one hy1.1 hy1.2) (spl_flat (j := P.length + u) (by omega) (by omega)) rfl rfl ?_ ?_ ?_;(·(first|exact ybf|(refine .inl ?_;(first|exact row_part gy (by omega)|exact row_part gy' (by omega)))|exact to_));(·(first|exact ybf|(refine .inl ?_;(first|exact row_part gy (by omega)|exact row_part gy' (by omega)))|exact to_)))|(refine rx_rowstore 0 rfl rfl rfl (sbc_sz x) (by rw [sbc_sz];omega) (sbc_one ox.1 ox.2) (spl_flat (j := P.length + u + 1) (by omega) (by rw [List.length_set];omega)) rfl rfl ?_ ?_ ?_;(·(first|exact ybf|(refine .inl ?_;(first|exact row_part gy (by omega)|exact row_part gy' (by omega)))|exact to_));(·(first|exact ybf|(refine .inl ?_;(first|exact row_part gy (by omega)|exact row_part gy' (by omega)))|exact to_))))|(refine tqs_ ?_ ?_ ?_;(·(first|exact ybf|(refine .inl ?_;(first|exact row_part gy (by omega)|exact row_part gy' (by omega)))|exact to_));(·(first|exact ybf|(refine .inl ?_;(first|exact row_part gy (by omega)|exact row_part gy' (by omega)))|exact to_))))|(apply ybn;(·(first|(first|exact tk_|(apply yad;(·rfl);(·exact (show Cells _ _ _ (sbc y) from part_cells 0 rfl));(·exact hyl))|(apply yad;(·rfl);(·exact hel _ (row_cells 0 rfl));(·exact hxl)))|exact tq_));(·rfl);(·rfl);(·rfl);(·(first|exact ybf|(refine .inl ?_;(first|exact row_part gy (by omega)|exact row_part gy' (by omega)))|exact to_))))|refine ycg ?_))
      rw [hsw]
      repeat' (first|(refine ycf ?_;apply ybk;(·first|(first|exact tk_|(apply yad;(·rfl);(·exact (show Cells _ _ _ (sbc y) from part_cells 0 rfl));(·exact hyl))|(apply yad;(·rfl);(·exact hel _ (row_cells 0 rfl));(·exact hxl))));(·rfl);(·rfl))|(first|(refine rx_rowstore 0 rfl rfl rfl (sbc_sz y) (by rw [sbc_sz];omega) (sbc_one hy1.1 hy1.2) (spl_flat (j := P.length + u) (by omega) (by omega)) rfl rfl ?_ ?_ ?_;(·(first|exact ybf|(refine .inl ?_;(first|exact row_part gy (by omega)|exact row_part gy' (by omega)))|exact to_));(·(first|exact ybf|(refine .inl ?_;(first|exact row_part gy (by omega)|exact row_part gy' (by omega)))|exact to_)))|(refine rx_rowstore 0 rfl rfl rfl (sbc_sz x) (by rw [sbc_sz];omega) (sbc_one ox.1 ox.2) (spl_flat (j := P.length + u + 1) (by omega) (by rw [List.length_set];omega)) rfl rfl ?_ ?_ ?_;(·(first|exact ybf|(refine .inl ?_;(first|exact row_part gy (by omega)|exact row_part gy' (by omega)))|exact to_));(·(first|exact ybf|(refine .inl ?_;(first|exact row_part gy (by omega)|exact row_part gy' (by omega)))|exact to_))))|refine t1_ ?_|(refine ta_ ?_;intro _)|((fail_if_success (refine ybi rfl ?_));refine ybj rfl ?_ ?_<;>(intro ht;rw [ht];first|replace ht := oet_ ht|replace ht := oef_ ht|skip))|(refine ych ?_;first|(refine ybw rfl ?_ ?_<;>intro ht)|(refine ybx rfl ?_ ?_<;>intro ht)))
      exact nx_round (u + 1) (by omega) (by omega) (by repeat' (first|exact Sub.nil|refine Sub.cons rfl rfl ?_|refine Sub.cons rfl (congrArg (Value.int .i64) (by omega)) ?_)) (fun _ s => s)
    · have hu2 : u = u0 := by omega
      subst hu2
      repeat' (first|(refine ycf ?_;apply ybk;(·first|(exact tk_));(·rfl);(·rfl))|(first|(refine rx_rowstore 0 rfl rfl rfl (sbc_sz y) (by rw [sbc_sz];omega) (sbc_one hy1.1 hy1.2) (spl_flat (j := P.length + u) (by omega) (by omega)) rfl rfl ?_ ?_ ?_;(·(first|exact ybf|(refine .inl ?_;(first|exact row_part gy (by omega)|exact row_part gy' (by omega)))|exact to_));(·(first|exact ybf|(refine .inl ?_;(first|exact row_part gy (by omega)|exact row_part gy' (by omega)))|exact to_)))|(refine rx_rowstore 0 rfl rfl rfl (sbc_sz x) (by rw [sbc_sz];omega) (sbc_one ox.1 ox.2) (spl_flat (j := P.length + u + 1) (by omega) (by rw [List.length_set];omega)) rfl rfl ?_ ?_ ?_;(·(first|exact ybf|(refine .inl ?_;(first|exact row_part gy (by omega)|exact row_part gy' (by omega)))|exact to_));(·(first|exact ybf|(refine .inl ?_;(first|exact row_part gy (by omega)|exact row_part gy' (by omega)))|exact to_))))|refine t1_ ?_|(refine ta_ ?_;intro _)|((fail_if_success (refine ybi rfl ?_));refine ybj rfl ?_ ?_<;>(intro ht;rw [ht];first|replace ht := oet_ ht|replace ht := oef_ ht|skip))|(refine ych ?_;first|(refine ybw rfl ?_ ?_<;>intro ht)|(refine ybx rfl ?_ ?_<;>intro ht)))
      refine nx_ret0 rfl (fun w' s' => ⟨(_, B.take u ++ (x :: B.drop u)), rfl, ?_, hkf, hst⟩)
      have e : P ++ ((B.take u ++ (x :: B.drop u)) ++ Q) = insL P B Q x u := by simp [insL]
      rw [e]
      exact s'
end Go.Proofs.YtkkjppeaaicgaaaGreatDoor
end

section
namespace Go.Proofs.YtkkjppeaaicgaaaGreatDoor
open Go Go.Ck
set_option maxRecDepth 100000
set_option maxHeartbeats 4000000
set_option linter.unusedVariables false
theorem symm2_sp (g cap n a m b : Nat) (P A : List Sb) (x : Sb) (Q : List Sb) (hP : P.length = a) (hA : a + A.length = m) (hA2 : 1 < A.length) (hB : m + 1 = b) (hn : b + Q.length = n) (hn62 : n ≤ 1000000) (sA : SortS A) (ox : x.mv.oneCell' = true ∧ x.bv.oneCell' = true) (oA : Ones A) (h : View) (w : World)
    (s : St ⟨w, h, doms [rowS g cap n (P ++ (A ++ (x :: Q)))]⟩ h [rowS g cap n (P ++ (A ++ (x :: Q)))] w) :
    Calls Tryz.prog 125 [.slice (some ⟨g, 0, none⟩) n cap, .int .i64 a, .int .i64 m, .int .i64 b, ordV].toArray w fun e w' => ∃ y : Value × List Sb, e = .returned y.1 ∧ St ⟨w, h, doms [rowS g cap n (P ++ (A ++ (x :: Q)))]⟩ h [rowS g cap n (P ++ (y.2 ++ Q))] w' ∧ KF (A ++ [x]) y.2 ∧ SortS y.2 := by
  have hxl := sbc_len x
  have hrow : P ++ (A ++ (x :: Q)) = insL P A Q x A.length := by simp [insL]
  have hgx : (P ++ (A ++ (x :: Q)))[m]? = some x := by rw [hrow, ← hA, ← hP]; exact insL_x (Nat.le_refl _)
  have helx := fun (L : List Res) (c : Cells h L ⟨g, 0, none⟩ ((P ++ (A ++ (x :: Q))).flatMap sbc)) => row_el c hgx (show ((m : Int)).toNat = m by omega)
  refine calls_enter Tryz.func125 rfl Tryz.ntmps125 rfl s ?_
  repeat' (first|(refine ycf ?_;apply ybk;(·first|(exact tk_));(·rfl);(·rfl))|refine t1_ ?_|(refine ta_ ?_;intro _)|((fail_if_success (refine ybi rfl ?_));refine ybj rfl ?_ ?_<;>(intro ht;rw [ht];first|replace ht := oet_ ht|replace ht := oef_ ht|skip))|(refine ych ?_;first|(refine ybw rfl ?_ ?_<;>intro ht)|(refine ybx rfl ?_ ?_<;>intro ht)))
  refine cx_loop (X := Nat × Nat) (fun y => [(0, .slice (some ⟨g, 0, none⟩) n cap), (1, .int .i64 a), (2, .int .i64 m), (4, ordV), (14, .int .i64 (y.1 : Nat)), (15, .int .i64 (y.2 : Nat))]) (fun _ => h) (fun _ => _)
    (fun y => a ≤ y.1 ∧ y.1 ≤ y.2 ∧ y.2 ≤ m ∧ (∀ t e, A[t]? = some e → t < y.1 - a → ¬ ordD x.d e.d < 0) ∧ (∀ t e, A[t]? = some e → y.2 - a ≤ t → ordD x.d e.d < 0)) (fun y => y.2 - y.1) (a, m)
    ⟨Nat.le_refl _, by show a ≤ m; omega, Nat.le_refl _, fun t e _ ht => by dsimp only at ht; omega, fun t e he ht => by have := (List.getElem?_eq_some_iff.1 he).1; dsimp only at ht; omega⟩ ts_ (fun _ s => s) ?_
  rintro ⟨i, j⟩ ⟨hi, hij, hj, hlo, hup⟩
  dsimp only at hi hij hj hlo hup ⊢
  by_cases hlt : i < j
  · obtain ⟨q, hq⟩ : ∃ q, q = (i + j) / 2 := ⟨_, rfl⟩
    obtain ⟨e, he⟩ : ∃ e, A[q - a]? = some e := ⟨_, List.getElem?_eq_getElem (by omega)⟩
    have hge : (P ++ (A ++ (x :: Q)))[q]? = some e := by
      rw [List.getElem?_append_right (by omega), hP, List.getElem?_append_left (by have := (List.getElem?_eq_some_iff.1 he).1; omega), he]
    have hele := fun (L : List Res) (c : Cells h L ⟨g, 0, none⟩ ((P ++ (A ++ (x :: Q))).flatMap sbc)) => row_el c hge (show ((q : Int)).toNat = q by omega)
    have hel := sbc_len e
    repeat' (first|(refine ycf ?_;apply ybk;(·first|(first|exact tk_|(refine qv_convert_int' (kd := .u64) (r := (i : Int) + (j : Int)) rfl (wrap_u64 (by omega) (by omega)))|(exact qv_shr (j := 1) (r := (q : Int)) rfl rfl (half hq) (by decide))|(refine qv_convert_int' (kd := .i64) (r := (q : Int)) rfl (by rw [IntKind.wrap_i64];omega))|(apply yad;(·rfl);(·exact helx _ (row_cells 0 rfl));(·exact hxl))|(apply yad;(·rfl);(·exact hele _ (row_cells 0 rfl));(·exact hel))));(·rfl);(·rfl))|refine t1_ ?_|(refine ta_ ?_;intro _)|((fail_if_success (refine ybi rfl ?_));refine ybj rfl ?_ ?_<;>(intro ht;rw [ht];first|replace ht := oet_ ht|replace ht := oef_ ht|skip))|(refine ych ?_;first|(refine ybw rfl ?_ ?_<;>intro ht)|(refine ybx rfl ?_ ?_<;>intro ht)))
    refine cx_region_draw' rfl (by kernel_rfl) ?_
    repeat' (refine ycf ?_;(first|(first|(apply ybm;(·(first|(first|exact tk_|(refine qv_convert_int' (kd := .u64) (r := (i : Int) + (j : Int)) rfl (wrap_u64 (by omega) (by omega)))|(exact qv_shr (j := 1) (r := (q : Int)) rfl rfl (half hq) (by decide))|(refine qv_convert_int' (kd := .i64) (r := (q : Int)) rfl (by rw [IntKind.wrap_i64];omega))|(apply yad;(·rfl);(·exact helx _ (row_cells 0 rfl));(·exact hxl))|(apply yad;(·rfl);(·exact hele _ (row_cells 0 rfl));(·exact hel)))|exact tq_));(·rfl);(·rfl);(·(exact th_)))|refine ybl rfl rfl ?_|((fail_if_success (refine ybi rfl ?_));refine ybj rfl ?_ ?_<;>(intro ht;rw [ht];first|replace ht := oet_ ht|replace ht := oef_ ht|skip))|(refine tb_ ?_ ?_ ?_;(·(exact to_));(·intro _;(exact to_));intro _)|(first|(refine tqs_ ?_ ?_ ?_;(·(exact to_));(·(exact to_))))|(apply ybn;(·(first|(first|exact tk_|(refine qv_convert_int' (kd := .u64) (r := (i : Int) + (j : Int)) rfl (wrap_u64 (by omega) (by omega)))|(exact qv_shr (j := 1) (r := (q : Int)) rfl rfl (half hq) (by decide))|(refine qv_convert_int' (kd := .i64) (r := (q : Int)) rfl (by rw [IntKind.wrap_i64];omega))|(apply yad;(·rfl);(·exact helx _ (row_cells 0 rfl));(·exact hxl))|(apply yad;(·rfl);(·exact hele _ (row_cells 0 rfl));(·exact hel)))|exact tq_));(·rfl);(·rfl);(·rfl);(·(exact to_))))|refine ycg ?_))
    (refine ycn (call_val rfl Tryz.func36 rfl (by kernel_rfl) rfl) (sorder_sp x e h) rfl rfl rfl ?_ ?_; (· (exact to_)))
    by_cases hO : ordD x.d e.d < 0
    · repeat' (refine ycf ?_;(first|(first|(apply ybm;(·(first|(first|exact tk_|(refine qv_convert_int' (kd := .u64) (r := (i : Int) + (j : Int)) rfl (wrap_u64 (by omega) (by omega)))|(exact qv_shr (j := 1) (r := (q : Int)) rfl rfl (half hq) (by decide))|(refine qv_convert_int' (kd := .i64) (r := (q : Int)) rfl (by rw [IntKind.wrap_i64];omega))|(apply yad;(·rfl);(·exact helx _ (row_cells 0 rfl));(·exact hxl))|(apply yad;(·rfl);(·exact hele _ (row_cells 0 rfl));(·exact hel)))|exact tq_));(·rfl);(·rfl);(·(exact th_)))|refine ybl rfl rfl ?_|((fail_if_success (refine ybi rfl ?_));refine ybj rfl ?_ ?_<;>(intro ht;rw [ht];first|replace ht := oet_ ht|replace ht := oef_ ht|skip))|(refine tb_ ?_ ?_ ?_;(·(exact to_));(·intro _;(exact to_));intro _)|(first|(refine tqs_ ?_ ?_ ?_;(·(exact to_));(·(exact to_))))|(apply ybn;(·(first|(first|exact tk_|(refine qv_convert_int' (kd := .u64) (r := (i : Int) + (j : Int)) rfl (wrap_u64 (by omega) (by omega)))|(exact qv_shr (j := 1) (r := (q : Int)) rfl rfl (half hq) (by decide))|(refine qv_convert_int' (kd := .i64) (r := (q : Int)) rfl (by rw [IntKind.wrap_i64];omega))|(apply yad;(·rfl);(·exact helx _ (row_cells 0 rfl));(·exact hxl))|(apply yad;(·rfl);(·exact hele _ (row_cells 0 rfl));(·exact hel)))|exact tq_));(·rfl);(·rfl);(·rfl);(·(exact to_))))|refine ycg ?_))
      repeat' (first|(refine ycf ?_;apply ybk;(·first|(first|exact tk_|(refine qv_convert_int' (kd := .u64) (r := (i : Int) + (j : Int)) rfl (wrap_u64 (by omega) (by omega)))|(exact qv_shr (j := 1) (r := (q : Int)) rfl rfl (half hq) (by decide))|(refine qv_convert_int' (kd := .i64) (r := (q : Int)) rfl (by rw [IntKind.wrap_i64];omega))|(apply yad;(·rfl);(·exact helx _ (row_cells 0 rfl));(·exact hxl))|(apply yad;(·rfl);(·exact hele _ (row_cells 0 rfl));(·exact hel))));(·rfl);(·rfl))|refine t1_ ?_|(refine ta_ ?_;intro _)|((fail_if_success (refine ybi rfl ?_));refine ybj rfl ?_ ?_<;>(intro ht;rw [ht];first|replace ht := oet_ ht|replace ht := oef_ ht|skip))|(refine ych ?_;first|(refine ybw rfl ?_ ?_<;>intro ht)|(refine ybx rfl ?_ ?_<;>intro ht)))
      refine nx_round (i, q) ⟨hi, by show i ≤ q; omega, by show q ≤ m; omega, hlo, fun t z hz ht => ?_⟩ (by show q - i < j - i; omega) ts_ (fun _ s => s)
      exact ord_le_ltx hO (sort_at sA he hz (by dsimp only at ht; omega))
    · repeat' (refine ycf ?_;(first|(first|(apply ybm;(·(first|(first|exact tk_|(refine qv_convert_int' (kd := .u64) (r := (i : Int) + (j : Int)) rfl (wrap_u64 (by omega) (by omega)))|(exact qv_shr (j := 1) (r := (q : Int)) rfl rfl (half hq) (by decide))|(refine qv_convert_int' (kd := .i64) (r := (q : Int)) rfl (by rw [IntKind.wrap_i64];omega))|(apply yad;(·rfl);(·exact helx _ (row_cells 0 rfl));(·exact hxl))|(apply yad;(·rfl);(·exact hele _ (row_cells 0 rfl));(·exact hel)))|exact tq_));(·rfl);(·rfl);(·(exact th_)))|refine ybl rfl rfl ?_|((fail_if_success (refine ybi rfl ?_));refine ybj rfl ?_ ?_<;>(intro ht;rw [ht];first|replace ht := oet_ ht|replace ht := oef_ ht|skip))|(refine tb_ ?_ ?_ ?_;(·(exact to_));(·intro _;(exact to_));intro _)|(first|(refine tqs_ ?_ ?_ ?_;(·(exact to_));(·(exact to_))))|(apply ybn;(·(first|(first|exact tk_|(refine qv_convert_int' (kd := .u64) (r := (i : Int) + (j : Int)) rfl (wrap_u64 (by omega) (by omega)))|(exact qv_shr (j := 1) (r := (q : Int)) rfl rfl (half hq) (by decide))|(refine qv_convert_int' (kd := .i64) (r := (q : Int)) rfl (by rw [IntKind.wrap_i64];omega))|(apply yad;(·rfl);(·exact helx _ (row_cells 0 rfl));(·exact hxl))|(apply yad;(·rfl);(·exact hele _ (row_cells 0 rfl));(·exact hel)))|exact tq_));(·rfl);(·rfl);(·rfl);(·(exact to_))))|refine ycg ?_))
      repeat' (first|(refine ycf ?_;apply ybk;(·first|(first|exact tk_|(refine qv_convert_int' (kd := .u64) (r := (i : Int) + (j : Int)) rfl (wrap_u64 (by omega) (by omega)))|(exact qv_shr (j := 1) (r := (q : Int)) rfl rfl (half hq) (by decide))|(refine qv_convert_int' (kd := .i64) (r := (q : Int)) rfl (by rw [IntKind.wrap_i64];omega))|(apply yad;(·rfl);(·exact helx _ (row_cells 0 rfl));(·exact hxl))|(apply yad;(·rfl);(·exact hele _ (row_cells 0 rfl));(·exact hel))));(·rfl);(·rfl))|refine t1_ ?_|(refine ta_ ?_;intro _)|((fail_if_success (refine ybi rfl ?_));refine ybj rfl ?_ ?_<;>(intro ht;rw [ht];first|replace ht := oet_ ht|replace ht := oef_ ht|skip))|(refine ych ?_;first|(refine ybw rfl ?_ ?_<;>intro ht)|(refine ybx rfl ?_ ?_<;>intro ht)))
      refine nx_round (q + 1, j) ⟨by show a ≤ q + 1; omega, by show q + 1 ≤ j; omega, hj, fun t z hz ht hz2 => ?_, hup⟩ (by show j - (q + 1) < j - i; omega) ts_ (fun _ s => s)
      exact hO (ord_le_ltx hz2 (sort_at sA hz he (by dsimp only at ht; omega)))
  · have hij' : i = j := by omega
    subst hij'
    obtain ⟨u0, hu0⟩ : ∃ u0, u0 = i - a := ⟨_, rfl⟩
    have hkf : KF (A ++ [x]) (A.take u0 ++ (x :: A.drop u0)) := ins_kf fun y hy => by
      obtain ⟨t, ht, rfl⟩ := List.getElem_of_mem hy
      rw [List.getElem_drop]
      exact hup (u0 + t) _ (List.getElem?_eq_getElem (by simp at ht; omega)) (by omega)
    have hst : SortS (A.take u0 ++ (x :: A.drop u0)) := mid_sort sA (fun y hy => by
      obtain ⟨t, ht, rfl⟩ := List.getElem_of_mem hy
      rw [List.getElem_take]
      exact ord_le.2 (hlo t _ (List.getElem?_eq_getElem (by simp at ht; omega)) (by simp at ht; omega))) (fun y hy => by
      obtain ⟨t, ht, rfl⟩ := List.getElem_of_mem hy
      rw [List.getElem_drop]
      exact ord_le_lt (hup (u0 + t) _ (List.getElem?_eq_getElem (by simp at ht; omega)) (by omega)))
    repeat' (first|(refine ycf ?_;apply ybk;(·first|(exact tk_));(·rfl);(·rfl))|refine t1_ ?_|(refine ta_ ?_;intro _)|((fail_if_success (refine ybi rfl ?_));refine ybj rfl ?_ ?_<;>(intro ht;rw [ht];first|replace ht := oet_ ht|replace ht := oef_ ht|skip))|(refine ych ?_;first|(refine ybw rfl ?_ ?_<;>intro ht)|(refine ybx rfl ?_ ?_<;>intro ht)))
    refine cx_loop (X := Nat) (fun u => [(0, .slice (some ⟨g, 0, none⟩) n cap), (14, .int .i64 (i : Nat)), (17, .int .i64 (a + u : Nat))]) (fun _ => h) (fun u => [rowS g cap n (insL P A Q x u)])
      (fun u => u0 ≤ u ∧ u ≤ A.length) (fun u => u) A.length ⟨by omega, Nat.le_refl _⟩ (by repeat' (first|exact Sub.nil|refine Sub.cons rfl rfl ?_|refine Sub.cons rfl (congrArg (Value.int .i64) (by omega)) ?_)) (fun _ s => by rw [← hrow];exact s) ?_
    rintro u ⟨hu, hu'⟩
    have hln : (insL P A Q x u).length = n := by rw [insL_len (by omega)]; omega
    by_cases hu1 : u0 < u
    · obtain ⟨y, hy⟩ : ∃ y, A[u - 1]? = some y := ⟨_, List.getElem?_eq_getElem (by omega)⟩
      have hyl := sbc_len y
      have hy1 := oA y (List.mem_of_getElem? hy)
      have gx := insL_x (P := P) (S := A) (Q := Q) (x := x) (t := u) (by omega)
      have gy := insL_y (P := P) (Q := Q) (x := x) (by omega) hu' hy
      have gy' : ((insL P A Q x u).set (P.length + u) y)[P.length + u - 1]? = some y := by rw [List.getElem?_set_ne (by omega)]; exact gy
      have hsw := insL_swap (P := P) (Q := Q) (x := x) (by omega) hu' hy
      have hel := fun (L : List Res) (c : Cells h L ⟨g, 0, none⟩ ((insL P A Q x u).flatMap sbc)) => row_el c gx (show ((a + u : Nat) : Int).toNat = P.length + u by omega)
      repeat' (first|(refine ycf ?_;apply ybk;(·first|(exact tk_));(·rfl);(·rfl))|refine t1_ ?_|(refine ta_ ?_;intro _)|((fail_if_success (refine ybi rfl ?_));refine ybj rfl ?_ ?_<;>(intro ht;rw [ht];first|replace ht := oet_ ht|replace ht := oef_ ht|skip))|(refine ych ?_;first|(refine ybw rfl ?_ ?_<;>intro ht)|(refine ybx rfl ?_ ?_<;>intro ht)))
      refine cx_region_drawL [Res.part g (0 + (((a + u : Nat) : Int) - 1).toNat * 20) (.int .i64 y.d.1) (sbc y).tail] [13] rfl (by kernel_rfl) ?_
      repeat' (refine ycf ?_;(first|(first|(apply ybm;(·(first|(first|exact tk_|(apply yad;(·rfl);(·exact (show Cells _ _ _ (sbc y) from part_cells 0 rfl));(·exact hyl))|(apply yad;(·rfl);(·exact hel _ (row_cells 0 rfl));(·exact hxl)))|exact tq_));(·rfl);(·rfl);(·(first|exact row_part gy (by omega)|exact row_part gy' (by omega))))|refine ybl rfl rfl ?_|((fail_if_success (refine ybi rfl ?_));refine ybj rfl ?_ ?_<;>(intro ht;rw [ht];first|replace ht := oet_ ht|replace ht := oef_ ht|skip))|(refine tb_ ?_ ?_ ?_;(·(first|exact ybf|(refine .inl ?_;(first|exact row_part gy (by omega)|exact row_part gy' (by omega)))|exact to_));(·intro _;(first|exact ybf|(refine .inl ?_;(first|exact row_part gy (by omega)|exact row_part gy' (by omega)))|exact to_));intro _)|(first|(first|(refine rx_rowstore 0 rfl rfl rfl (sbc_sz y) (by rw [sbc_sz];omega) (sbc_one hy1.1 hy1.2) (spl_flat (j := P.length + u) (by omega) (by omega)) rfl rfl ?_ ?_ ?_;(·(first|exact ybf|(refine .inl ?_;(first|exact row_part gy (by omega)|exact row_part gy' (by omega)))|exact to_));(·(first|exact ybf|(refine .inl ?_;(first|exact row_part gy (by omega)|exact row_part gy' (by omega)))|exact to_)))|(refine rx_rowstore 0 rfl rfl rfl (sbc_sz x) (by rw [sbc_sz];omega) (sbc_one ox.1 ox.2) (spl_flat (j := P.length + u - 1) (by omega) (by rw [List.length_set];omega)) rfl rfl ?_ ?_ ?_;(·(first|exact ybf|(refine .inl ?_;(first|exact row_part gy (by omega)|exact row_part gy' (by omega)))|exact to_));(·(first|exact ybf|(refine .inl ?_;(first|exact row_part gy (by omega)|exact row_part gy' (by omega)))|exact to_))))|(refine tqs_ ?_ ?_ ?_;(·(first|exact ybf|(refine .inl ?_;(first|exact row_part gy (by omega)|exact row_part gy' (by omega)))|exact to_));(·(first|exact ybf|(refine .inl ?_;(first|exact row_part gy (by omega)|exact row_part gy' (by omega)))|exact to_))))|(apply ybn;(·(first|(first|exact tk_|(apply yad;(·rfl);(·exact (show Cells _ _ _ (sbc y) from part_cells 0 rfl));(·exact hyl))|(apply yad;(·rfl);(·exact hel _ (row_cells 0 rfl));(·exact hxl)))|exact tq_));(·rfl);(·rfl);(·rfl);(·(first|exact ybf|(refine .inl ?_;(first|exact row_part gy (by omega)|exact row_part gy' (by omega)))|exact to_))))|refine ycg ?_))
      rw [hsw]
      repeat' (first|(refine ycf ?_;apply ybk;(·first|(first|exact tk_|(apply yad;(·rfl);(·exact (show Cells _ _ _ (sbc y) from part_cells 0 rfl));(·exact hyl))|(apply yad;(·rfl);(·exact hel _ (row_cells 0 rfl));(·exact hxl))));(·rfl);(·rfl))|(first|(refine rx_rowstore 0 rfl rfl rfl (sbc_sz y) (by rw [sbc_sz];omega) (sbc_one hy1.1 hy1.2) (spl_flat (j := P.length + u) (by omega) (by omega)) rfl rfl ?_ ?_ ?_;(·(first|exact ybf|(refine .inl ?_;(first|exact row_part gy (by omega)|exact row_part gy' (by omega)))|exact to_));(·(first|exact ybf|(refine .inl ?_;(first|exact row_part gy (by omega)|exact row_part gy' (by omega)))|exact to_)))|(refine rx_rowstore 0 rfl rfl rfl (sbc_sz x) (by rw [sbc_sz];omega) (sbc_one ox.1 ox.2) (spl_flat (j := P.length + u - 1) (by omega) (by rw [List.length_set];omega)) rfl rfl ?_ ?_ ?_;(·(first|exact ybf|(refine .inl ?_;(first|exact row_part gy (by omega)|exact row_part gy' (by omega)))|exact to_));(·(first|exact ybf|(refine .inl ?_;(first|exact row_part gy (by omega)|exact row_part gy' (by omega)))|exact to_))))|refine t1_ ?_|(refine ta_ ?_;intro _)|((fail_if_success (refine ybi rfl ?_));refine ybj rfl ?_ ?_<;>(intro ht;rw [ht];first|replace ht := oet_ ht|replace ht := oef_ ht|skip))|(refine ych ?_;first|(refine ybw rfl ?_ ?_<;>intro ht)|(refine ybx rfl ?_ ?_<;>intro ht)))
      exact nx_round (u - 1) ⟨by omega, by omega⟩ (by omega) (by repeat' (first|exact Sub.nil|refine Sub.cons rfl rfl ?_|refine Sub.cons rfl (congrArg (Value.int .i64) (by omega)) ?_)) (fun _ s => s)
    · have hu2 : u = u0 := by omega
      subst hu2
      repeat' (first|(refine ycf ?_;apply ybk;(·first|(exact tk_));(·rfl);(·rfl))|(first|(refine rx_rowstore 0 rfl rfl rfl (sbc_sz y) (by rw [sbc_sz];omega) (sbc_one hy1.1 hy1.2) (spl_flat (j := P.length + u) (by omega) (by omega)) rfl rfl ?_ ?_ ?_;(·(first|exact ybf|(refine .inl ?_;(first|exact row_part gy (by omega)|exact row_part gy' (by omega)))|exact to_));(·(first|exact ybf|(refine .inl ?_;(first|exact row_part gy (by omega)|exact row_part gy' (by omega)))|exact to_)))|(refine rx_rowstore 0 rfl rfl rfl (sbc_sz x) (by rw [sbc_sz];omega) (sbc_one ox.1 ox.2) (spl_flat (j := P.length + u - 1) (by omega) (by rw [List.length_set];omega)) rfl rfl ?_ ?_ ?_;(·(first|exact ybf|(refine .inl ?_;(first|exact row_part gy (by omega)|exact row_part gy' (by omega)))|exact to_));(·(first|exact ybf|(refine .inl ?_;(first|exact row_part gy (by omega)|exact row_part gy' (by omega)))|exact to_))))|refine t1_ ?_|(refine ta_ ?_;intro _)|((fail_if_success (refine ybi rfl ?_));refine ybj rfl ?_ ?_<;>(intro ht;rw [ht];first|replace ht := oet_ ht|replace ht := oef_ ht|skip))|(refine ych ?_;first|(refine ybw rfl ?_ ?_<;>intro ht)|(refine ybx rfl ?_ ?_<;>intro ht)))
      refine nx_ret0 rfl (fun w' s' => ⟨(_, A.take u ++ (x :: A.drop u)), rfl, ?_, hkf, hst⟩)
      have e : P ++ ((A.take u ++ (x :: A.drop u)) ++ Q) = insL P A Q x u := by simp [insL]
      rw [e]
      exact s'
end Go.Proofs.YtkkjppeaaicgaaaGreatDoor
end

section
namespace Go.Proofs.YtkkjppeaaicgaaaGreatDoor
open Go Go.Ck
set_option maxRecDepth 100000
set_option maxHeartbeats 4000000
set_option linter.unusedVariables false
theorem symm_sp : ∀ (k g cap n a m b : Nat) (ia im ib : Int) (P A B Q l : List Sb), l = P ++ (A ++ (B ++ Q)) → b - a ≤ k → ia = a → im = m → ib = b → P.length = a → a + A.length = m → m + B.length = b → b + Q.length = n → n ≤ 1000000 → 0 < A.length → 0 < B.length → SortS A → SortS B → Ones A → Ones B →
    ∀ (h : View) (w : World), St ⟨w, h, doms [rowS g cap n l]⟩ h [rowS g cap n l] w →
    Calls Tryz.prog 125 [.slice (some ⟨g, 0, none⟩) n cap, .int .i64 ia, .int .i64 im, .int .i64 ib, ordV].toArray w fun e w' => ∃ x : Value × List Sb, e = .returned x.1 ∧ St ⟨w, h, doms [rowS g cap n l]⟩ h [rowS g cap n (P ++ (x.2 ++ Q))] w' ∧ KF (A ++ B) x.2 ∧ SortS x.2
  | 0, g, cap, n, a, m, b, ia, im, ib, P, A, B, Q, l, hl, hk, e1, e2, e3, hP, hA, hB, hn, hn62, ha, hb, sA, sB, oA, oB, h, w, s => by omega
  | k + 1, g, cap, n, a, m, b, ia, im, ib, P, A, B, Q, l, hl, hk, e1, e2, e3, hP, hA, hB, hn, hn62, ha, hb, sA, sB, oA, oB, h, w, s => by
    subst e1 e2 e3 hl
    by_cases hA1 : A.length = 1
    · match A, hA1 with
      | [x], _ => exact symm1_sp g cap n a m b P x B Q hP hA hB hn hn62 sB (oA x (List.mem_singleton.2 rfl)) oB h w s
    by_cases hB1 : B.length = 1
    · match B, hB1 with
      | [x], _ => exact symm2_sp g cap n a m b P A x Q hP hA (by omega) hB hn hn62 sA (oB x (List.mem_singleton.2 rfl)) oA h w s
    obtain ⟨mid, hmid⟩ : ∃ q, q = (a + b) / 2 := ⟨_, rfl⟩
    refine calls_enter Tryz.func125 rfl Tryz.ntmps125 rfl s ?_
    obtain ⟨s0, r0, hsr⟩ : ∃ s0 r0 : Nat, (mid < m ∧ s0 + b = mid + m ∧ r0 = mid) ∨ (¬ mid < m ∧ s0 = a ∧ r0 = m) := by
      by_cases hmm : mid < m
      · exact ⟨mid + m - b, mid, .inl ⟨hmm, by omega, rfl⟩⟩
      · exact ⟨a, m, .inr ⟨hmm, rfl, rfl⟩⟩
    have f1 : a ≤ s0 := by omega
    have f2 : s0 ≤ r0 := by omega
    have f3 : r0 ≤ m := by omega
    have f4 : r0 ≤ mid := by omega
    have f5 : mid + m ≤ s0 + b := by omega
    have f6 : a < mid ∧ mid < b := by omega
    rcases hsr with ⟨hmm, hs0, hr0⟩ | ⟨hmm, hs0, hr0⟩
    all_goals
      repeat' (first|(refine ycf ?_;apply ybk;(·first|(first|exact tk_|(refine qv_convert_int' (kd := .u64) (r := (a : Int) + (b : Int)) rfl (wrap_u64 (by omega) (by omega)))|(exact qv_shr (j := 1) (r := (mid : Int)) rfl rfl (half hmid) (by decide))|(refine qv_convert_int' (kd := .i64) (r := (mid : Int)) rfl (by rw [IntKind.wrap_i64];omega))));(·rfl);(·rfl))|refine t1_ ?_|(refine ta_ ?_;intro _)|((fail_if_success (refine ybi rfl ?_));refine ybj rfl ?_ ?_<;>(intro ht;rw [ht];first|replace ht := oet_ ht|replace ht := oef_ ht|skip))|(refine ych ?_;first|(refine ybw rfl ?_ ?_<;>intro ht)|(refine ybx rfl ?_ ?_<;>intro ht)))
      refine cx_loop (X := Nat × Nat) (fun y => [(0, .slice (some ⟨g, 0, none⟩) n cap), (1, .int .i64 a), (2, .int .i64 m), (3, .int .i64 b), (4, ordV), (18, .int .i64 (mid : Nat)), (19, .int .i64 ((mid : Int) + (m : Int))), (20, .int .i64 (y.1 : Nat)), (21, .int .i64 (y.2 : Nat)), (22, .int .i64 ((mid : Int) + (m : Int) - 1))]) (fun _ => h) (fun _ => _)
        (fun y => s0 ≤ y.1 ∧ y.1 ≤ y.2 ∧ y.2 ≤ r0 ∧ (∀ c e f, s0 ≤ c → c < y.1 → A[c - a]? = some e → B[mid - 1 - c]? = some f → ¬ ordD f.d e.d < 0) ∧ (∀ c e f, y.2 ≤ c → c < r0 → A[c - a]? = some e → B[mid - 1 - c]? = some f → ordD f.d e.d < 0)) (fun y => y.2 - y.1) (s0, r0)
        ⟨Nat.le_refl _, f2, Nat.le_refl _, fun c e f h1 h2 => by dsimp only at h2;omega, fun c e f h1 h2 => by dsimp only at h1;omega⟩ (by repeat' (first|exact Sub.nil|refine Sub.cons rfl rfl ?_|refine Sub.cons rfl (congrArg (Value.int .i64) (by dsimp only;omega)) ?_)) (fun _ s => s) ?_
      rintro ⟨i, j⟩ ⟨hi, hij, hj, hlo, hup⟩
      dsimp only at hi hij hj hlo hup ⊢
      by_cases hlt : i < j
      · obtain ⟨q, hq⟩ : ∃ q, q = (i + j) / 2 := ⟨_, rfl⟩
        obtain ⟨e, he⟩ : ∃ e, A[q - a]? = some e := ⟨_, List.getElem?_eq_getElem (by omega)⟩
        obtain ⟨f, hf⟩ : ∃ f, B[mid - 1 - q]? = some f := ⟨_, List.getElem?_eq_getElem (by omega)⟩
        have hge : (P ++ (A ++ (B ++ Q)))[q]? = some e := by
          rw [List.getElem?_append_right (by omega), hP, List.getElem?_append_left (by have := (List.getElem?_eq_some_iff.1 he).1; omega), he]
        have hgf : (P ++ (A ++ (B ++ Q)))[mid + m - 1 - q]? = some f := by
          have := (List.getElem?_eq_some_iff.1 hf).1
          rw [List.getElem?_append_right (by omega), List.getElem?_append_right (by omega), show mid + m - 1 - q - P.length - A.length = mid - 1 - q by omega, List.getElem?_append_left this, hf]
        have hele := fun (L : List Res) (c : Cells h L ⟨g, 0, none⟩ ((P ++ (A ++ (B ++ Q))).flatMap sbc)) => row_el c hge (show ((q : Int)).toNat = q by omega)
        have helf := fun (L : List Res) (c : Cells h L ⟨g, 0, none⟩ ((P ++ (A ++ (B ++ Q))).flatMap sbc)) => row_el c hgf (show ((mid : Int) + (m : Int) - 1 - (q : Int)).toNat = mid + m - 1 - q by omega)
        have hel := sbc_len e
        have hfl := sbc_len f
        repeat' (first|(refine ycf ?_;apply ybk;(·first|(first|exact tk_|(refine qv_convert_int' (kd := .u64) (r := (i : Int) + (j : Int)) rfl (wrap_u64 (by omega) (by omega)))|(exact qv_shr (j := 1) (r := (q : Int)) rfl rfl (half hq) (by decide))|(refine qv_convert_int' (kd := .i64) (r := (q : Int)) rfl (by rw [IntKind.wrap_i64];omega))|(apply yad;(·rfl);(·exact hele _ (row_cells 0 rfl));(·exact hel))|(apply yad;(·rfl);(·exact helf _ (row_cells 0 rfl));(·exact hfl))));(·rfl);(·rfl))|refine t1_ ?_|(refine ta_ ?_;intro _)|((fail_if_success (refine ybi rfl ?_));refine ybj rfl ?_ ?_<;>(intro ht;rw [ht];first|replace ht := oet_ ht|replace ht := oef_ ht|skip))|(refine ych ?_;first|(refine ybw rfl ?_ ?_<;>intro ht)|(refine ybx rfl ?_ ?_<;>intro ht)))
        refine cx_region_draw' rfl (by kernel_rfl) ?_
        repeat' (refine ycf ?_;(first|(first|(apply ybm;(·(first|(first|exact tk_|(refine qv_convert_int' (kd := .u64) (r := (i : Int) + (j : Int)) rfl (wrap_u64 (by omega) (by omega)))|(exact qv_shr (j := 1) (r := (q : Int)) rfl rfl (half hq) (by decide))|(refine qv_convert_int' (kd := .i64) (r := (q : Int)) rfl (by rw [IntKind.wrap_i64];omega))|(apply yad;(·rfl);(·exact hele _ (row_cells 0 rfl));(·exact hel))|(apply yad;(·rfl);(·exact helf _ (row_cells 0 rfl));(·exact hfl)))|exact tq_));(·rfl);(·rfl);(·(exact th_)))|refine ybl rfl rfl ?_|((fail_if_success (refine ybi rfl ?_));refine ybj rfl ?_ ?_<;>(intro ht;rw [ht];first|replace ht := oet_ ht|replace ht := oef_ ht|skip))|(refine tb_ ?_ ?_ ?_;(·(exact to_));(·intro _;(exact to_));intro _)|(first|(refine tqs_ ?_ ?_ ?_;(·(exact to_));(·(exact to_))))|(apply ybn;(·(first|(first|exact tk_|(refine qv_convert_int' (kd := .u64) (r := (i : Int) + (j : Int)) rfl (wrap_u64 (by omega) (by omega)))|(exact qv_shr (j := 1) (r := (q : Int)) rfl rfl (half hq) (by decide))|(refine qv_convert_int' (kd := .i64) (r := (q : Int)) rfl (by rw [IntKind.wrap_i64];omega))|(apply yad;(·rfl);(·exact hele _ (row_cells 0 rfl));(·exact hel))|(apply yad;(·rfl);(·exact helf _ (row_cells 0 rfl));(·exact hfl)))|exact tq_));(·rfl);(·rfl);(·rfl);(·(exact to_))))|refine ycg ?_))
        (refine ycn (call_val rfl Tryz.func36 rfl (by kernel_rfl) rfl) (sorder_sp f e h) rfl rfl rfl ?_ ?_; (· (exact to_)))
        by_cases hO : ordD f.d e.d < 0
        · repeat' (refine ycf ?_;(first|(first|(apply ybm;(·(first|(first|exact tk_|(refine qv_convert_int' (kd := .u64) (r := (i : Int) + (j : Int)) rfl (wrap_u64 (by omega) (by omega)))|(exact qv_shr (j := 1) (r := (q : Int)) rfl rfl (half hq) (by decide))|(refine qv_convert_int' (kd := .i64) (r := (q : Int)) rfl (by rw [IntKind.wrap_i64];omega))|(apply yad;(·rfl);(·exact hele _ (row_cells 0 rfl));(·exact hel))|(apply yad;(·rfl);(·exact helf _ (row_cells 0 rfl));(·exact hfl)))|exact tq_));(·rfl);(·rfl);(·(exact th_)))|refine ybl rfl rfl ?_|((fail_if_success (refine ybi rfl ?_));refine ybj rfl ?_ ?_<;>(intro ht;rw [ht];first|replace ht := oet_ ht|replace ht := oef_ ht|skip))|(refine tb_ ?_ ?_ ?_;(·(exact to_));(·intro _;(exact to_));intro _)|(first|(refine tqs_ ?_ ?_ ?_;(·(exact to_));(·(exact to_))))|(apply ybn;(·(first|(first|exact tk_|(refine qv_convert_int' (kd := .u64) (r := (i : Int) + (j : Int)) rfl (wrap_u64 (by omega) (by omega)))|(exact qv_shr (j := 1) (r := (q : Int)) rfl rfl (half hq) (by decide))|(refine qv_convert_int' (kd := .i64) (r := (q : Int)) rfl (by rw [IntKind.wrap_i64];omega))|(apply yad;(·rfl);(·exact hele _ (row_cells 0 rfl));(·exact hel))|(apply yad;(·rfl);(·exact helf _ (row_cells 0 rfl));(·exact hfl)))|exact tq_));(·rfl);(·rfl);(·rfl);(·(exact to_))))|refine ycg ?_))
          repeat' (first|(refine ycf ?_;apply ybk;(·first|(first|exact tk_|(refine qv_convert_int' (kd := .u64) (r := (i : Int) + (j : Int)) rfl (wrap_u64 (by omega) (by omega)))|(exact qv_shr (j := 1) (r := (q : Int)) rfl rfl (half hq) (by decide))|(refine qv_convert_int' (kd := .i64) (r := (q : Int)) rfl (by rw [IntKind.wrap_i64];omega))|(apply yad;(·rfl);(·exact hele _ (row_cells 0 rfl));(·exact hel))|(apply yad;(·rfl);(·exact helf _ (row_cells 0 rfl));(·exact hfl))));(·rfl);(·rfl))|refine t1_ ?_|(refine ta_ ?_;intro _)|((fail_if_success (refine ybi rfl ?_));refine ybj rfl ?_ ?_<;>(intro ht;rw [ht];first|replace ht := oet_ ht|replace ht := oef_ ht|skip))|(refine ych ?_;first|(refine ybw rfl ?_ ?_<;>intro ht)|(refine ybx rfl ?_ ?_<;>intro ht)))
          refine nx_round (i, q) ⟨hi, by show i ≤ q; omega, by show q ≤ r0; omega, hlo, fun c e' f' h1 h2 he' hf' => ?_⟩ (by show q - i < j - i; omega) ts_ (fun _ s => s)
          dsimp only at h1
          exact ord_le_ltx (ord_lt_le (sort_at sB hf' hf (by omega)) hO) (sort_at sA he he' (by omega))
        · repeat' (refine ycf ?_;(first|(first|(apply ybm;(·(first|(first|exact tk_|(refine qv_convert_int' (kd := .u64) (r := (i : Int) + (j : Int)) rfl (wrap_u64 (by omega) (by omega)))|(exact qv_shr (j := 1) (r := (q : Int)) rfl rfl (half hq) (by decide))|(refine qv_convert_int' (kd := .i64) (r := (q : Int)) rfl (by rw [IntKind.wrap_i64];omega))|(apply yad;(·rfl);(·exact hele _ (row_cells 0 rfl));(·exact hel))|(apply yad;(·rfl);(·exact helf _ (row_cells 0 rfl));(·exact hfl)))|exact tq_));(·rfl);(·rfl);(·(exact th_)))|refine ybl rfl rfl ?_|((fail_if_success (refine ybi rfl ?_));refine ybj rfl ?_ ?_<;>(intro ht;rw [ht];first|replace ht := oet_ ht|replace ht := oef_ ht|skip))|(refine tb_ ?_ ?_ ?_;(·(exact to_));(·intro _;(exact to_));intro _)|(first|(refine tqs_ ?_ ?_ ?_;(·(exact to_));(·(exact to_))))|(apply ybn;(·(first|(first|exact tk_|(refine qv_convert_int' (kd := .u64) (r := (i : Int) + (j : Int)) rfl (wrap_u64 (by omega) (by omega)))|(exact qv_shr (j := 1) (r := (q : Int)) rfl rfl (half hq) (by decide))|(refine qv_convert_int' (kd := .i64) (r := (q : Int)) rfl (by rw [IntKind.wrap_i64];omega))|(apply yad;(·rfl);(·exact hele _ (row_cells 0 rfl));(·exact hel))|(apply yad;(·rfl);(·exact helf _ (row_cells 0 rfl));(·exact hfl)))|exact tq_));(·rfl);(·rfl);(·rfl);(·(exact to_))))|refine ycg ?_))
          repeat' (first|(refine ycf ?_;apply ybk;(·first|(first|exact tk_|(refine qv_convert_int' (kd := .u64) (r := (i : Int) + (j : Int)) rfl (wrap_u64 (by omega) (by omega)))|(exact qv_shr (j := 1) (r := (q : Int)) rfl rfl (half hq) (by decide))|(refine qv_convert_int' (kd := .i64) (r := (q : Int)) rfl (by rw [IntKind.wrap_i64];omega))|(apply yad;(·rfl);(·exact hele _ (row_cells 0 rfl));(·exact hel))|(apply yad;(·rfl);(·exact helf _ (row_cells 0 rfl));(·exact hfl))));(·rfl);(·rfl))|refine t1_ ?_|(refine ta_ ?_;intro _)|((fail_if_success (refine ybi rfl ?_));refine ybj rfl ?_ ?_<;>(intro ht;rw [ht];first|replace ht := oet_ ht|replace ht := oef_ ht|skip))|(refine ych ?_;first|(refine ybw rfl ?_ ?_<;>intro ht)|(refine ybx rfl ?_ ?_<;>intro ht)))
          refine nx_round (q + 1, j) ⟨by show s0 ≤ q + 1; omega, by show q + 1 ≤ j; omega, hj, fun c e' f' h1 h2 he' hf' h3 => ?_, hup⟩ (by show j - (q + 1) < j - i; omega) ts_ (fun _ s => s)
          dsimp only at h2
          exact hO (ord_le_ltx (ord_lt_le (sort_at sB hf hf' (by omega)) h3) (sort_at sA he' he (by omega)))
      · have hij' : i = j := by omega
        subst hij'
        iterate 22 (first|(refine ycf ?_;apply ybk;(·first|(exact tk_));(·rfl);(·rfl))|refine t1_ ?_|(refine ta_ ?_;intro _)|((fail_if_success (refine ybi rfl ?_));refine ybj rfl ?_ ?_<;>(intro ht;rw [ht];first|replace ht := oet_ ht|replace ht := oef_ ht|skip))|(refine ych ?_;first|(refine ybw rfl ?_ ?_<;>intro ht)|(refine ybx rfl ?_ ?_<;>intro ht)))
        have hAs : A = A.take (i - a) ++ A.drop (i - a) := (List.take_append_drop ..).symm
        have hBs : B = B.take (mid - i) ++ B.drop (mid - i) := (List.take_append_drop ..).symm
        have lA1 : (A.take (i - a)).length = i - a := by simp; omega
        have lA2 : (A.drop (i - a)).length = m - i := by simp; omega
        have lB1 : (B.take (mid - i)).length = mid - i := by simp; omega
        have lB2 : (B.drop (mid - i)).length = b + i - (mid + m) := by simp; omega
        have hX : ∀ x ∈ A.take (i - a), ∀ y ∈ B.drop (mid - i), ordD x.d y.d ≤ 0 := fun x hx y hy => by
          obtain ⟨u, hu, rfl⟩ := List.getElem_of_mem hx
          obtain ⟨v, hv, rfl⟩ := List.getElem_of_mem hy
          rw [List.getElem_take, List.getElem_drop]
          have hs : s0 < i := by omega
          have h1 := hlo (i - 1) A[i - 1 - a] B[mid - 1 - (i - 1)] (by omega) (by omega) (List.getElem?_eq_getElem (by omega)) (List.getElem?_eq_getElem (by omega))
          exact ord_le_trans (sort_at sA (List.getElem?_eq_getElem (by omega)) (List.getElem?_eq_getElem (by omega)) (by omega)) (ord_le_trans (ord_le.2 h1) (sort_at sB (List.getElem?_eq_getElem (by omega)) (List.getElem?_eq_getElem (by omega)) (by omega)))
        have hY : ∀ x ∈ A.drop (i - a), ∀ y ∈ B.take (mid - i), ordD y.d x.d < 0 := fun x hx y hy => by
          obtain ⟨u, hu, rfl⟩ := List.getElem_of_mem hx
          obtain ⟨v, hv, rfl⟩ := List.getElem_of_mem hy
          rw [List.getElem_take, List.getElem_drop]
          have hs : i < r0 := by omega
          have h1 := hup i A[i - a] B[mid - 1 - i] (by omega) (by omega) (List.getElem?_eq_getElem (by omega)) (List.getElem?_eq_getElem (by omega))
          exact ord_le_ltx (ord_lt_le (sort_at sB (List.getElem?_eq_getElem (by omega)) (List.getElem?_eq_getElem (by omega)) (by omega)) h1) (sort_at sA (List.getElem?_eq_getElem (by omega)) (List.getElem?_eq_getElem (by omega)) (by omega))
        generalize A.take (i - a) = A1 at hAs lA1 hX
        generalize A.drop (i - a) = A2 at hAs lA2 hY
        generalize B.take (mid - i) = B1 at hBs lB1 hY
        generalize B.drop (mid - i) = B2 at hBs lB2 hX
        clear hlo hup
        subst hAs hBs
        obtain ⟨oA1, oA2⟩ := Ones.app.1 oA
        obtain ⟨oB1, oB2⟩ := Ones.app.1 oB
        obtain ⟨sA1, sA2, sA12⟩ := List.pairwise_append.1 sA
        obtain ⟨sB1, sB2, sB12⟩ := List.pairwise_append.1 sB
        refine ybo ?_
        refine cx_cut (X := Unit) (fun _ => [(0, .slice (some ⟨g, 0, none⟩) n cap), (1, .int .i64 a), (3, .int .i64 b), (4, ordV), (18, .int .i64 (mid : Nat)), (20, .int .i64 (i : Nat)), (24, .int .i64 ((mid : Int) + (m : Int) - (i : Int)))]) (fun _ => h) (fun _ => [rowS g cap n (P ++ (A1 ++ (B1 ++ (A2 ++ (B2 ++ Q)))))]) (fun _ => True) ?_ ?_
        · by_cases c1 : i < m
          · by_cases c2 : i < mid
            · repeat' (first|(refine ycf ?_;apply ybk;(·first|(exact tk_));(·rfl);(·rfl))|refine t1_ ?_|(refine ta_ ?_;intro _)|((fail_if_success (refine ybi rfl ?_));refine ybj rfl ?_ ?_<;>(intro ht;rw [ht];first|replace ht := oet_ ht|replace ht := oef_ ht|skip))|(refine ych ?_;first|(refine ybw rfl ?_ ?_<;>intro ht)|(refine ybx rfl ?_ ?_<;>intro ht)))
              (refine rx_call_m (ycp Tryz.func126 rfl (by kernel_rfl) rfl) (perm_at (k := 0) rfl) (rotate_i g cap n i m (mid + m - i) _ _ _ (by omega) (by omega) (by omega) (P ++ A1) A2 B1 (B2 ++ Q) _ (by simp) (by simp; omega) (by omega) (by omega) (by simp; omega) hn62 (by omega) (by omega) oA2 oB1 h) rfl rfl rfl ?_ ?_ ?_; (· (exact to_)); (· intro _ _ hle; (exact to_)); intro x px hle)
              repeat' (first|(refine ycf ?_;apply ybk;(·first|(exact tk_));(·rfl);(·rfl))|refine t1_ ?_|(refine ta_ ?_;intro _)|((fail_if_success (refine ybi rfl ?_));refine ybj rfl ?_ ?_<;>(intro ht;rw [ht];first|replace ht := oet_ ht|replace ht := oef_ ht|skip))|(refine ych ?_;first|(refine ybw rfl ?_ ?_<;>intro ht)|(refine ybx rfl ?_ ?_<;>intro ht)))
              exact nx_cut () trivial ts_ (fun _ s => by simpa using s)
            · first
                | (exfalso; omega)
                | (have : B1 = [] := List.eq_nil_of_length_eq_zero (by omega)
                   repeat' (first|(refine ycf ?_;apply ybk;(·first|(exact tk_));(·rfl);(·rfl))|refine t1_ ?_|(refine ta_ ?_;intro _)|((fail_if_success (refine ybi rfl ?_));refine ybj rfl ?_ ?_<;>(intro ht;rw [ht];first|replace ht := oet_ ht|replace ht := oef_ ht|skip))|(refine ych ?_;first|(refine ybw rfl ?_ ?_<;>intro ht)|(refine ybx rfl ?_ ?_<;>intro ht)))
                   exact nx_cut () trivial ts_ (fun _ s => by subst this; simpa using s))
          · first
              | (exfalso; omega)
              | (have : A2 = [] := List.eq_nil_of_length_eq_zero (by omega)
                 repeat' (first|(refine ycf ?_;apply ybk;(·first|(exact tk_));(·rfl);(·rfl))|refine t1_ ?_|(refine ta_ ?_;intro _)|((fail_if_success (refine ybi rfl ?_));refine ybj rfl ?_ ?_<;>(intro ht;rw [ht];first|replace ht := oet_ ht|replace ht := oef_ ht|skip))|(refine ych ?_;first|(refine ybw rfl ?_ ?_<;>intro ht)|(refine ybx rfl ?_ ?_<;>intro ht)))
                 exact nx_cut () trivial ts_ (fun _ s => by subst this; simpa using s))
        rintro ⟨⟩ _
        refine yby ?_
        refine ybo ?_
        refine cx_cut (X := List Sb) (fun _ => [(0, .slice (some ⟨g, 0, none⟩) n cap), (1, .int .i64 a), (3, .int .i64 b), (4, ordV), (18, .int .i64 (mid : Nat)), (20, .int .i64 (i : Nat)), (24, .int .i64 ((mid : Int) + (m : Int) - (i : Int)))]) (fun _ => h) (fun C1 => [rowS g cap n (P ++ (C1 ++ (A2 ++ (B2 ++ Q))))]) (fun C1 => KF (A1 ++ B1) C1 ∧ SortS C1) ?_ ?_
        · by_cases c1 : a < i
          · by_cases c2 : i < mid
            · repeat' (first|(refine ycf ?_;apply ybk;(·first|(exact tk_));(·rfl);(·rfl))|refine t1_ ?_|(refine ta_ ?_;intro _)|((fail_if_success (refine ybi rfl ?_));refine ybj rfl ?_ ?_<;>(intro ht;rw [ht];first|replace ht := oet_ ht|replace ht := oef_ ht|skip))|(refine ych ?_;first|(refine ybw rfl ?_ ?_<;>intro ht)|(refine ybx rfl ?_ ?_<;>intro ht)))
              (refine rx_call_m (ycp Tryz.func125 rfl (by kernel_rfl) rfl) (perm_at (k := 0) rfl) (symm_sp k g cap n a i mid _ _ _ P A1 B1 (A2 ++ (B2 ++ Q)) _ rfl (by omega) rfl rfl rfl hP (by omega) (by omega) (by simp; omega) hn62 (by omega) (by omega) sA1 sB1 oA1 oB1 h) rfl rfl rfl ?_ ?_ ?_; (· (exact to_)); (· intro _ _ hle; (exact to_)); intro x px hle)
              repeat' (first|(refine ycf ?_;apply ybk;(·first|(exact tk_));(·rfl);(·rfl))|refine t1_ ?_|(refine ta_ ?_;intro _)|((fail_if_success (refine ybi rfl ?_));refine ybj rfl ?_ ?_<;>(intro ht;rw [ht];first|replace ht := oet_ ht|replace ht := oef_ ht|skip))|(refine ych ?_;first|(refine ybw rfl ?_ ?_<;>intro ht)|(refine ybx rfl ?_ ?_<;>intro ht)))
              exact nx_cut x.2 px ts_ (fun _ s => s)
            · first
                | (exfalso; omega)
                | (have : B1 = [] := List.eq_nil_of_length_eq_zero (by omega)
                   repeat' (first|(refine ycf ?_;apply ybk;(·first|(exact tk_));(·rfl);(·rfl))|refine t1_ ?_|(refine ta_ ?_;intro _)|((fail_if_success (refine ybi rfl ?_));refine ybj rfl ?_ ?_<;>(intro ht;rw [ht];first|replace ht := oet_ ht|replace ht := oef_ ht|skip))|(refine ych ?_;first|(refine ybw rfl ?_ ?_<;>intro ht)|(refine ybx rfl ?_ ?_<;>intro ht)))
                   exact nx_cut A1 ⟨by subst this; simpa using KF.refl A1, sA1⟩ ts_ (fun _ s => by subst this; simpa using s))
          · first
              | (exfalso; omega)
              | (have : A1 = [] := List.eq_nil_of_length_eq_zero (by omega)
                 repeat' (first|(refine ycf ?_;apply ybk;(·first|(exact tk_));(·rfl);(·rfl))|refine t1_ ?_|(refine ta_ ?_;intro _)|((fail_if_success (refine ybi rfl ?_));refine ybj rfl ?_ ?_<;>(intro ht;rw [ht];first|replace ht := oet_ ht|replace ht := oef_ ht|skip))|(refine ych ?_;first|(refine ybw rfl ?_ ?_<;>intro ht)|(refine ybx rfl ?_ ?_<;>intro ht)))
                 exact nx_cut B1 ⟨by subst this; simpa using KF.refl B1, sB1⟩ ts_ (fun _ s => by subst this; simpa using s))
        rintro C1 ⟨k1, t1⟩
        have lC1 := k1.len
        rw [List.length_append] at lC1
        refine yby ?_
        have fin : ∀ C2, KF (A2 ++ B2) C2 → SortS C2 → KF ((A1 ++ A2) ++ (B1 ++ B2)) (C1 ++ C2) ∧ SortS (C1 ++ C2) := fun C2 k2 t2 => by
          refine ⟨?_, List.pairwise_append.2 ⟨t1, t2, fun x hx y hy => ?_⟩⟩
          · have q1 : KF ((A1 ++ A2) ++ (B1 ++ B2)) ((A1 ++ B1) ++ (A2 ++ B2)) := by
              have e1 : (A1 ++ A2) ++ (B1 ++ B2) = A1 ++ ((A2 ++ B1) ++ B2) := by simp
              have e2 : (A1 ++ B1) ++ (A2 ++ B2) = A1 ++ ((B1 ++ A2) ++ B2) := by simp
              rw [e1, e2]
              exact (KF.refl _).app ((KF.swap fun x hx y hy e => ord_self x.d (by have := hY x hx y hy; rwa [e] at this)).app (KF.refl _))
            exact q1.trans (k1.app k2)
          · rcases List.mem_append.1 ((k1.mem x).2 hx) with hx | hx<;>rcases List.mem_append.1 ((k2.mem y).2 hy) with hy | hy
            · exact sA12 x hx y hy
            · exact hX x hx y hy
            · exact ord_le_lt (hY y hy x hx)
            · exact sB12 x hx y hy
        by_cases c1 : i < m
        · by_cases c2 : mid + m < i + b
          · repeat' (first|(refine ycf ?_;apply ybk;(·first|(exact tk_));(·rfl);(·rfl))|refine t1_ ?_|(refine ta_ ?_;intro _)|((fail_if_success (refine ybi rfl ?_));refine ybj rfl ?_ ?_<;>(intro ht;rw [ht];first|replace ht := oet_ ht|replace ht := oef_ ht|skip))|(refine ych ?_;first|(refine ybw rfl ?_ ?_<;>intro ht)|(refine ybx rfl ?_ ?_<;>intro ht)))
            (refine rx_call_m (ycp Tryz.func125 rfl (by kernel_rfl) rfl) (perm_at (k := 0) rfl) (symm_sp k g cap n mid (mid + m - i) b _ _ _ (P ++ C1) A2 B2 Q _ (by simp) (by omega) rfl (by omega) rfl (by simp; omega) (by omega) (by omega) (by omega) hn62 (by omega) (by omega) sA2 sB2 oA2 oB2 h) rfl rfl rfl ?_ ?_ ?_; (· (exact to_)); (· intro _ _ hle; (exact to_)); intro x px hle)
            repeat' (first|(refine ycf ?_;apply ybk;(·first|(exact tk_));(·rfl);(·rfl))|refine t1_ ?_|(refine ta_ ?_;intro _)|((fail_if_success (refine ybi rfl ?_));refine ybj rfl ?_ ?_<;>(intro ht;rw [ht];first|replace ht := oet_ ht|replace ht := oef_ ht|skip))|(refine ych ?_;first|(refine ybw rfl ?_ ?_<;>intro ht)|(refine ybx rfl ?_ ?_<;>intro ht)))
            exact nx_end0 rfl (fun w' s' => ⟨(_, C1 ++ x.2), rfl, by simpa using s', fin _ px.1 px.2⟩)
          · first
              | (exfalso; omega)
              | (have : B2 = [] := List.eq_nil_of_length_eq_zero (by omega)
                 repeat' (first|(refine ycf ?_;apply ybk;(·first|(exact tk_));(·rfl);(·rfl))|refine t1_ ?_|(refine ta_ ?_;intro _)|((fail_if_success (refine ybi rfl ?_));refine ybj rfl ?_ ?_<;>(intro ht;rw [ht];first|replace ht := oet_ ht|replace ht := oef_ ht|skip))|(refine ych ?_;first|(refine ybw rfl ?_ ?_<;>intro ht)|(refine ybx rfl ?_ ?_<;>intro ht)))
                 exact nx_end0 rfl (fun w' s' => ⟨(_, C1 ++ A2), rfl, by subst this; simpa using s', fin _ (by subst this; simpa using KF.refl A2) sA2⟩))
        · first
            | (exfalso; omega)
            | (have : A2 = [] := List.eq_nil_of_length_eq_zero (by omega)
               repeat' (first|(refine ycf ?_;apply ybk;(·first|(exact tk_));(·rfl);(·rfl))|refine t1_ ?_|(refine ta_ ?_;intro _)|((fail_if_success (refine ybi rfl ?_));refine ybj rfl ?_ ?_<;>(intro ht;rw [ht];first|replace ht := oet_ ht|replace ht := oef_ ht|skip))|(refine ych ?_;first|(refine ybw rfl ?_ ?_<;>intro ht)|(refine ybx rfl ?_ ?_<;>intro ht)))
               exact nx_end0 rfl (fun w' s' => ⟨(_, C1 ++ B2), rfl, by subst this; simpa using s', fin _ (by subst this; simpa using KF.refl B2) sB2⟩))
end Go.Proofs.YtkkjppeaaicgaaaGreatDoor
end
