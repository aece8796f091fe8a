/-
  Part 10 of a proof: SbD SbE.
  Conditions: each theorem states its own.
-/
import Derived.Test.YtkkjppeaaicgaaaGreatDoorSrGPM9
section
namespace Go.Proofs.YtkkjppeaaicgaaaGreatDoor
open Go Go.Ck
set_option maxRecDepth 100000
set_option maxHeartbeats 2000000
set_option linter.unusedVariables false
def InsR (l : List Sb) (a b : Nat) (m : List Sb) : Prop := ∃ S, S.length = b - a ∧ KF ((l.take b).drop a) S ∧ SortS S ∧ m = l.take a ++ (S ++ l.drop b)
def insL (P S Q : List Sb) (x : Sb) (t : Nat) : List Sb := P ++ (S.take t ++ (x :: (S.drop t ++ Q)))
theorem insL_len {P S Q : List Sb} {x : Sb} {t : Nat} (ht : t ≤ S.length) : (insL P S Q x t).length = P.length + (S.length + (1 + Q.length)) := by simp [insL]; omega
theorem insL_x {P S Q : List Sb} {x : Sb} {t : Nat} (ht : t ≤ S.length) : (insL P S Q x t)[P.length + t]? = some x := by
  unfold insL
  rw [List.getElem?_append_right (by omega), List.getElem?_append_right (by simp; omega)]
  have : P.length + t - P.length - (S.take t).length = 0 := by simp; omega
  rw [this]; rfl
theorem insL_y {P S Q : List Sb} {x y : Sb} {t : Nat} (h0 : 0 < t) (ht : t ≤ S.length) (hy : S[t - 1]? = some y) : (insL P S Q x t)[P.length + t - 1]? = some y := by
  unfold insL
  rw [List.getElem?_append_right (by omega), List.getElem?_append_left (by simp; omega), List.getElem?_take_of_lt (by omega)]
  have : P.length + t - 1 - P.length = t - 1 := by omega
  rw [this, hy]
theorem swp_app {A B : List Sb} {x y : Sb} : ((A ++ (y :: x :: B)).set (A.length + 1) y).set A.length x = A ++ (x :: y :: B) := by
  induction A with
  | nil => rfl
  | cons z A ih => simp
theorem insL_swap {P S Q : List Sb} {x y : Sb} {t : Nat} (h0 : 0 < t) (ht : t ≤ S.length) (hy : S[t - 1]? = some y) : ((insL P S Q x t).set (P.length + t) y).set (P.length + t - 1) x = insL P S Q x (t - 1) := by
  obtain ⟨t, rfl⟩ : ∃ u, t = u + 1 := ⟨t - 1, by omega⟩
  simp only [Nat.add_sub_cancel] at hy ⊢
  obtain ⟨hyl, rfl⟩ := List.getElem?_eq_some_iff.1 hy
  have e1 : S.take (t + 1) = S.take t ++ [S[t]] := List.take_succ_eq_append_getElem (by omega)
  have e2 : S.drop t = S[t] :: S.drop (t + 1) := List.drop_eq_getElem_cons (by omega)
  have e3 : (P ++ S.take t).length = P.length + t := by simp; omega
  have e4 : insL P S Q x (t + 1) = (P ++ S.take t) ++ (S[t] :: x :: (S.drop (t + 1) ++ Q)) := by
    unfold insL; rw [e1]; simp only [List.append_assoc, List.singleton_append]
  have e5 : insL P S Q x t = (P ++ S.take t) ++ (x :: S[t] :: (S.drop (t + 1) ++ Q)) := by
    unfold insL; simp only [e2, List.append_assoc, List.cons_append]
  have h := swp_app (A := P ++ S.take t) (B := S.drop (t + 1) ++ Q) (x := x) (y := S[t])
  rw [e3] at h
  rw [e5, e4]
  exact h
theorem ord_self (d : Dt) : ¬ ordD d d < 0 := by rw [ord_iff]; omega
theorem ins_kf {S : List Sb} {x : Sb} {t : Nat} (hup : ∀ y ∈ S.drop t, ordD x.d y.d < 0) : KF (S ++ [x]) (S.take t ++ (x :: S.drop t)) := by
  have h1 : S ++ [x] = S.take t ++ (S.drop t ++ [x]) := by rw [← List.append_assoc, List.take_append_drop]
  rw [h1]
  exact (KF.refl _).app (KF.move fun y hy e => ord_self x.d (by have := hup y hy; rwa [e] at this))
theorem ins_sort {S : List Sb} {x : Sb} {t : Nat} (ht : t ≤ S.length) (hs : SortS S) (hup : ∀ y ∈ S.drop t, ordD x.d y.d < 0) (hlo : ∀ y, 0 < t → S[t - 1]? = some y → ¬ ordD x.d y.d < 0) : SortS (S.take t ++ (x :: S.drop t)) := by
  have h1 : SortS (S.take t ++ S.drop t) := by rw [List.take_append_drop]; exact hs
  obtain ⟨q1, q2, q3⟩ := List.pairwise_append.1 h1
  refine List.pairwise_append.2 ⟨q1, List.pairwise_cons.2 ⟨fun y hy => ord_le_lt (hup y hy), q2⟩, fun z hz y hy => ?_⟩
  rcases List.mem_cons.1 hy with rfl | hy
  · obtain ⟨j, hj, rfl⟩ := List.getElem_of_mem hz
    have hjt : j < t := by simp at hj; omega
    have h2 : ordD S[t - 1].d y.d ≤ 0 := ord_le.2 (hlo _ (by omega) (List.getElem?_eq_getElem (by omega)))
    rw [List.getElem_take]
    by_cases hjt' : j = t - 1
    · subst hjt'; exact h2
    · exact ord_le_trans (List.pairwise_iff_getElem.1 hs j (t - 1) (by omega) (by omega) (by omega)) h2
  · exact q3 z hz y hy
theorem insSort_sp (g cap m a b : Nat) (l : List Sb) (hm : l.length = m) (hab : a ≤ b) (hb : b ≤ m) (hm62 : m ≤ 1000000) (h1 : Ones l) (h : View) (w : World) (s : St ⟨w, h, doms [rowS g cap m l]⟩ h [rowS g cap m l] w) :
    Calls Tryz.prog 124 [.slice (some ⟨g, 0, none⟩) m cap, .int .i64 a, .int .i64 b, ordV].toArray w fun e w' => ∃ x : Value × List Sb, e = .returned x.1 ∧ St ⟨w, h, doms [rowS g cap m l]⟩ h [rowS g cap m x.2] w' ∧ InsR l a b x.2 := by
  refine calls_enter Tryz.func124 rfl Tryz.ntmps124 rfl s ?_
  repeat' (first|refine tw_ ?_|(refine ta_ ?_;intro _)|((fail_if_success (refine ybi rfl ?_));refine ybj rfl ?_ ?_<;>(intro ht;rw [ht];first|replace ht := oet_ ht|replace ht := oef_ ht|skip))|(refine ych ?_;first|(refine ybw rfl ?_ ?_<;>intro ht)|(refine ybx rfl ?_ ?_<;>intro ht)))
  by_cases hlt : a < b
  · have hPl : (l.take a).length = a := by simp; omega
    generalize hP : l.take a = P at hPl
    refine cx_loop (X := Nat × List Sb) (fun x => [(0, .slice (some ⟨g, 0, none⟩) m cap), (1, .int .i64 a), (2, .int .i64 b), (3, ordV), (8, .int .i64 (x.1 : Nat))]) (fun _ => h) (fun x => [rowS g cap m (P ++ (x.2 ++ l.drop x.1))])
      (fun x => a < x.1 ∧ x.1 ≤ b ∧ x.2.length = x.1 - a ∧ KF ((l.take x.1).drop a) x.2 ∧ SortS x.2) (fun x => b - x.1) (a + 1, (l.take (a + 1)).drop a) ⟨by show a < a + 1; omega, by show a + 1 ≤ b; omega, by simp; omega, KF.refl _, ?_⟩ ts_ (fun _ s => ?_) ?_
    · have : ((l.take (a + 1)).drop a).length ≤ 1 := by simp; omega
      match h0 : (l.take (a + 1)).drop a, this with
      | [], _ => exact List.Pairwise.nil
      | [x], _ => exact List.pairwise_singleton ..
      | x :: y :: r, hx => simp at hx
    · have : P ++ ((l.take (a + 1)).drop a ++ l.drop (a + 1)) = l := by
        rw [← hP, List.drop_take, show a + 1 - a = 1 by omega, ← List.drop_drop, List.take_append_drop, List.take_append_drop]
      dsimp only
      rw [this]
      exact s
    rintro ⟨i, S⟩ ⟨hi1, hi2, hSl, hkf, hsrt⟩
    dsimp only at hi1 hi2 hSl hkf hsrt ⊢
    by_cases hib : i < b
    · have hil : i < l.length := by omega
      have hd : l.drop i = l[i] :: l.drop (i + 1) := List.drop_eq_getElem_cons hil
      have hrow : P ++ (S ++ l.drop i) = insL P S (l.drop (i + 1)) l[i] S.length := by
        unfold insL
        rw [List.take_length, List.drop_length, hd, List.nil_append]
      have hx1 := h1 l[i] (List.getElem_mem hil)
      have hkx : KF ((l.take (i + 1)).drop a) (S ++ [l[i]]) := by
        have e : (l.take (i + 1)).drop a = (l.take i).drop a ++ [l[i]] := by
          rw [List.take_succ_eq_append_getElem hil, List.drop_append_of_le_length (by simp; omega)]
        rw [e]
        exact hkf.app (KF.refl _)
      have hS1 : Ones S := fun y hy => h1 y (List.mem_of_mem_take (List.mem_of_mem_drop ((hkf.mem y).2 hy)))
      have hQl : (l.drop (i + 1)).length = m - (i + 1) := by simp [hm]
      generalize hQ : l.drop (i + 1) = Q at hrow hQl ⊢
      generalize l[i] = x at hrow hx1 hkx ⊢
      rw [hrow]
      repeat' (first|(refine ycf ?_;apply ybk;(·first|(exact tk_));(·rfl);(·rfl))|refine t1_ ?_|(refine ta_ ?_;intro _)|((fail_if_success (refine ybi rfl ?_));refine ybj rfl ?_ ?_<;>(intro ht;rw [ht];first|replace ht := oet_ ht|replace ht := oef_ ht|skip))|(refine ych ?_;first|(refine ybw rfl ?_ ?_<;>intro ht)|(refine ybx rfl ?_ ?_<;>intro ht)))
      refine cx_loop (X := Nat) (fun t => [(0, .slice (some ⟨g, 0, none⟩) m cap), (1, .int .i64 a), (2, .int .i64 b), (3, ordV), (8, .int .i64 (i : Nat)), (9, .int .i64 (a + t : Nat))]) (fun _ => h) (fun t => [rowS g cap m (insL P S Q x t)])
        (fun t => t ≤ S.length ∧ ∀ y ∈ S.drop t, ordD x.d y.d < 0) (fun t => t) S.length ⟨Nat.le_refl _, by simp⟩ (by repeat' (first|exact Sub.nil|refine Sub.cons rfl rfl ?_|refine Sub.cons rfl (congrArg (Value.int .i64) (by omega)) ?_)) (fun _ s => s) ?_
      rintro t ⟨ht, hup⟩
      have hLl : (insL P S Q x t).length = m := by rw [insL_len ht]; omega
      have hel := fun (L : List Res) (c : Cells h L ⟨g, 0, none⟩ ((insL P S Q x t).flatMap sbc)) => row_el c (insL_x ht) (show ((a + t : Nat) : Int).toNat = P.length + t by omega)
      have hxl := sbc_len x
      have hdone : (∀ y, 0 < t → S[t - 1]? = some y → ¬ ordD x.d y.d < 0) → ∃ S', S' = S.take t ++ (x :: S.drop t) ∧ insL P S Q x t = P ++ (S' ++ l.drop (i + 1)) ∧ S'.length = i + 1 - a ∧ KF ((l.take (i + 1)).drop a) S' ∧ SortS S' := fun hlo =>
        ⟨_, rfl, by rw [hQ]; simp [insL], by simp; omega, hkx.trans (ins_kf hup), ins_sort ht hsrt hup hlo⟩
      by_cases h0 : t = 0
      · subst h0
        obtain ⟨S', _, e1, e2, e3, e4⟩ := hdone (fun _ hx => absurd hx (by decide))
        rw [e1]
        repeat' (first|(refine ycf ?_;apply ybk;(·first|(exact tk_));(·rfl);(·rfl))|refine t1_ ?_|(refine ta_ ?_;intro _)|((fail_if_success (refine ybi rfl ?_));refine ybj rfl ?_ ?_<;>(intro ht;rw [ht];first|replace ht := oet_ ht|replace ht := oef_ ht|skip))|(refine ych ?_;first|(refine ybw rfl ?_ ?_<;>intro ht)|(refine ybx rfl ?_ ?_<;>intro ht)))
        refine cx_region_draw' rfl (by kernel_rfl) ?_
        repeat' (refine ycf ?_;(first|(first|(apply ybm;(·(first|(exact tk_)|exact tq_));(·rfl);(·rfl);(·(exact th_)))|refine ybl rfl rfl ?_|((fail_if_success (refine ybi rfl ?_));refine ybj rfl ?_ ?_<;>(intro ht;rw [ht];first|replace ht := oet_ ht|replace ht := oef_ ht|skip))|(refine tb_ ?_ ?_ ?_;(·(exact to_));(·intro _;(exact to_));intro _)|(first|(refine tqs_ ?_ ?_ ?_;(·(exact to_));(·(exact to_))))|(apply ybn;(·(first|(exact tk_)|exact tq_));(·rfl);(·rfl);(·rfl);(·(exact to_))))|refine ycg ?_))
        repeat' (first|(refine ycf ?_;apply ybk;(·first|(exact tk_));(·rfl);(·rfl))|refine t1_ ?_|(refine ta_ ?_;intro _)|((fail_if_success (refine ybi rfl ?_));refine ybj rfl ?_ ?_<;>(intro ht;rw [ht];first|replace ht := oet_ ht|replace ht := oef_ ht|skip))|(refine ych ?_;first|(refine ybw rfl ?_ ?_<;>intro ht)|(refine ybx rfl ?_ ?_<;>intro ht)))
        refine nx_round (i + 1, S') ⟨by show a < i + 1; omega, by show i + 1 ≤ b; omega, e2, e3, e4⟩ (by show b - (i + 1) < b - i; omega) ts_ (fun _ s => s)
      · obtain ⟨y, hy⟩ : ∃ y, S[t - 1]? = some y := ⟨_, List.getElem?_eq_getElem (by omega)⟩
        have hel' := fun (L : List Res) (c : Cells h L ⟨g, 0, none⟩ ((insL P S Q x t).flatMap sbc)) => row_el c (insL_y (by omega) ht hy) (show (((a + t : Nat) : Int) - 1).toNat = P.length + t - 1 by omega)
        have hyl := sbc_len y
        have hym : y ∈ S := List.mem_of_getElem? hy
        have hy1 := hS1 y hym
        repeat' (first|(refine ycf ?_;apply ybk;(·first|(first|exact tk_|(apply yad;(·rfl);(·exact hel _ (row_cells 0 rfl));(·exact hxl))|(apply yad;(·rfl);(·exact hel' _ (row_cells 0 rfl));(·exact hyl))));(·rfl);(·rfl))|refine t1_ ?_|(refine ta_ ?_;intro _)|((fail_if_success (refine ybi rfl ?_));refine ybj rfl ?_ ?_<;>(intro ht;rw [ht];first|replace ht := oet_ ht|replace ht := oef_ ht|skip))|(refine ych ?_;first|(refine ybw rfl ?_ ?_<;>intro ht)|(refine ybx rfl ?_ ?_<;>intro ht)))
        refine cx_region_draw' rfl (by kernel_rfl) ?_
        repeat' (refine ycf ?_;(first|(first|(apply ybm;(·(first|(first|exact tk_|(apply yad;(·rfl);(·exact hel _ (row_cells 0 rfl));(·exact hxl))|(apply yad;(·rfl);(·exact hel' _ (row_cells 0 rfl));(·exact hyl)))|exact tq_));(·rfl);(·rfl);(·(exact th_)))|refine ybl rfl rfl ?_|((fail_if_success (refine ybi rfl ?_));refine ybj rfl ?_ ?_<;>(intro ht;rw [ht];first|replace ht := oet_ ht|replace ht := oef_ ht|skip))|(refine tb_ ?_ ?_ ?_;(·(exact to_));(·intro _;(exact to_));intro _)|(first|(refine tqs_ ?_ ?_ ?_;(·(exact to_));(·(exact to_))))|(apply ybn;(·(first|(first|exact tk_|(apply yad;(·rfl);(·exact hel _ (row_cells 0 rfl));(·exact hxl))|(apply yad;(·rfl);(·exact hel' _ (row_cells 0 rfl));(·exact hyl)))|exact tq_));(·rfl);(·rfl);(·rfl);(·(exact to_))))|refine ycg ?_))
        (refine ycn (call_val rfl Tryz.func36 rfl (by kernel_rfl) rfl) (sorder_sp x y h) rfl rfl rfl ?_ ?_; (· (exact to_)))
        by_cases hO : ordD x.d y.d < 0
        · repeat' (refine ycf ?_;(first|(first|(apply ybm;(·(first|(first|exact tk_|(apply yad;(·rfl);(·exact hel _ (row_cells 0 rfl));(·exact hxl))|(apply yad;(·rfl);(·exact hel' _ (row_cells 0 rfl));(·exact hyl)))|exact tq_));(·rfl);(·rfl);(·(exact th_)))|refine ybl rfl rfl ?_|((fail_if_success (refine ybi rfl ?_));refine ybj rfl ?_ ?_<;>(intro ht;rw [ht];first|replace ht := oet_ ht|replace ht := oef_ ht|skip))|(refine tb_ ?_ ?_ ?_;(·(exact to_));(·intro _;(exact to_));intro _)|(first|(refine tqs_ ?_ ?_ ?_;(·(exact to_));(·(exact to_))))|(apply ybn;(·(first|(first|exact tk_|(apply yad;(·rfl);(·exact hel _ (row_cells 0 rfl));(·exact hxl))|(apply yad;(·rfl);(·exact hel' _ (row_cells 0 rfl));(·exact hyl)))|exact tq_));(·rfl);(·rfl);(·rfl);(·(exact to_))))|refine ycg ?_))
          have hcur : ((insL P S Q x t).set (P.length + t) y)[P.length + t - 1]? = some y := by
            rw [List.getElem?_set_ne (by omega)]
            exact insL_y (by omega) ht hy
          repeat' (first|(refine ycf ?_;apply ybk;(·first|(first|exact tk_|(apply yad;(·rfl);(·exact hel _ (row_cells 0 rfl));(·exact hxl))|(apply yad;(·rfl);(·exact hel' _ (row_cells 0 rfl));(·exact hyl))));(·rfl);(·rfl))|refine t1_ ?_|(refine ta_ ?_;intro _)|((fail_if_success (refine ybi rfl ?_));refine ybj rfl ?_ ?_<;>(intro ht;rw [ht];first|replace ht := oet_ ht|replace ht := oef_ ht|skip))|(refine ych ?_;first|(refine ybw rfl ?_ ?_<;>intro ht)|(refine ybx rfl ?_ ?_<;>intro ht)))
          refine cx_region_drawL [Res.part g (0 + (((a + t : Nat) : Int) - 1).toNat * 20) (.int .i64 y.d.1) (sbc y).tail] [13] rfl (by kernel_rfl) ?_
          repeat' (refine ycf ?_;(first|(first|(apply ybm;(·(first|(first|exact tk_|(apply yad;(·rfl);(·exact (show Cells _ _ _ (sbc y) from part_cells 0 rfl));(·exact hyl))|(apply yad;(·rfl);(·exact hel _ (row_cells 0 rfl));(·exact hxl)))|exact tq_));(·rfl);(·rfl);(·(first|exact row_part (insL_y (by omega) ht hy) (by omega)|exact row_part hcur (by omega))))|refine ybl rfl rfl ?_|((fail_if_success (refine ybi rfl ?_));refine ybj rfl ?_ ?_<;>(intro ht;rw [ht];first|replace ht := oet_ ht|replace ht := oef_ ht|skip))|(refine tb_ ?_ ?_ ?_;(·(first|exact ybf|(refine .inl ?_;(first|exact row_part (insL_y (by omega) ht hy) (by omega)|exact row_part hcur (by omega)))|exact to_));(·intro _;(first|exact ybf|(refine .inl ?_;(first|exact row_part (insL_y (by omega) ht hy) (by omega)|exact row_part hcur (by omega)))|exact to_));intro _)|(first|(first|(refine rx_rowstore 0 rfl rfl rfl (sbc_sz y) (by rw [sbc_sz];omega) (sbc_one hy1.1 hy1.2) (spl_flat (j := P.length + t) (by omega) (by omega)) rfl rfl ?_ ?_ ?_;(·(first|exact ybf|(refine .inl ?_;(first|exact row_part (insL_y (by omega) ht hy) (by omega)|exact row_part hcur (by omega)))|exact to_));(·(first|exact ybf|(refine .inl ?_;(first|exact row_part (insL_y (by omega) ht hy) (by omega)|exact row_part hcur (by omega)))|exact to_)))|(refine rx_rowstore 0 rfl rfl rfl (sbc_sz x) (by rw [sbc_sz];omega) (sbc_one hx1.1 hx1.2) (spl_flat (j := P.length + t - 1) (by omega) (by rw [List.length_set];omega)) rfl rfl ?_ ?_ ?_;(·(first|exact ybf|(refine .inl ?_;(first|exact row_part (insL_y (by omega) ht hy) (by omega)|exact row_part hcur (by omega)))|exact to_));(·(first|exact ybf|(refine .inl ?_;(first|exact row_part (insL_y (by omega) ht hy) (by omega)|exact row_part hcur (by omega)))|exact to_))))|(refine tqs_ ?_ ?_ ?_;(·(first|exact ybf|(refine .inl ?_;(first|exact row_part (insL_y (by omega) ht hy) (by omega)|exact row_part hcur (by omega)))|exact to_));(·(first|exact ybf|(refine .inl ?_;(first|exact row_part (insL_y (by omega) ht hy) (by omega)|exact row_part hcur (by omega)))|exact to_))))|(apply ybn;(·(first|(first|exact tk_|(apply yad;(·rfl);(·exact (show Cells _ _ _ (sbc y) from part_cells 0 rfl));(·exact hyl))|(apply yad;(·rfl);(·exact hel _ (row_cells 0 rfl));(·exact hxl)))|exact tq_));(·rfl);(·rfl);(·rfl);(·(first|exact ybf|(refine .inl ?_;(first|exact row_part (insL_y (by omega) ht hy) (by omega)|exact row_part hcur (by omega)))|exact to_))))|refine ycg ?_))
          rw [insL_swap (by omega) ht hy]
          repeat' (first|(refine ycf ?_;apply ybk;(·first|(first|exact tk_|(apply yad;(·rfl);(·exact (show Cells _ _ _ (sbc y) from part_cells 0 rfl));(·exact hyl))|(apply yad;(·rfl);(·exact hel _ (row_cells 0 rfl));(·exact hxl))));(·rfl);(·rfl))|(first|(refine rx_rowstore 0 rfl rfl rfl (sbc_sz y) (by rw [sbc_sz];omega) (sbc_one hy1.1 hy1.2) (spl_flat (j := P.length + t) (by omega) (by omega)) rfl rfl ?_ ?_ ?_;(·(first|exact ybf|(refine .inl ?_;(first|exact row_part (insL_y (by omega) ht hy) (by omega)|exact row_part hcur (by omega)))|exact to_));(·(first|exact ybf|(refine .inl ?_;(first|exact row_part (insL_y (by omega) ht hy) (by omega)|exact row_part hcur (by omega)))|exact to_)))|(refine rx_rowstore 0 rfl rfl rfl (sbc_sz x) (by rw [sbc_sz];omega) (sbc_one hx1.1 hx1.2) (spl_flat (j := P.length + t - 1) (by omega) (by rw [List.length_set];omega)) rfl rfl ?_ ?_ ?_;(·(first|exact ybf|(refine .inl ?_;(first|exact row_part (insL_y (by omega) ht hy) (by omega)|exact row_part hcur (by omega)))|exact to_));(·(first|exact ybf|(refine .inl ?_;(first|exact row_part (insL_y (by omega) ht hy) (by omega)|exact row_part hcur (by omega)))|exact to_))))|refine t1_ ?_|(refine ta_ ?_;intro _)|((fail_if_success (refine ybi rfl ?_));refine ybj rfl ?_ ?_<;>(intro ht;rw [ht];first|replace ht := oet_ ht|replace ht := oef_ ht|skip))|(refine ych ?_;first|(refine ybw rfl ?_ ?_<;>intro ht)|(refine ybx rfl ?_ ?_<;>intro ht)))
          refine nx_round (t - 1) ⟨by omega, fun z hz => ?_⟩ (by omega) (by repeat' (first|exact Sub.nil|refine Sub.cons rfl rfl ?_|refine Sub.cons rfl (congrArg (Value.int .i64) (by omega)) ?_)) (fun _ s => s)
          obtain ⟨hyl', hyv⟩ := List.getElem?_eq_some_iff.1 hy
          have e2 : S.drop (t - 1) = y :: S.drop t := by
            rw [List.drop_eq_getElem_cons hyl', hyv, show t - 1 + 1 = t by omega]
          rw [e2] at hz
          rcases List.mem_cons.1 hz with rfl | hz
          · exact hO
          · exact hup z hz
        · obtain ⟨S', _, e1, e2, e3, e4⟩ := hdone (fun z _ hz => by rw [hy] at hz; cases hz; exact hO)
          repeat' (refine ycf ?_;(first|(first|(apply ybm;(·(first|(first|exact tk_|(apply yad;(·rfl);(·exact (show Cells _ _ _ (sbc y) from part_cells 0 rfl));(·exact hyl))|(apply yad;(·rfl);(·exact hel _ (row_cells 0 rfl));(·exact hxl)))|exact tq_));(·rfl);(·rfl);(·(first|exact row_part (insL_y (by omega) ht hy) (by omega)|exact row_part hcur (by omega))))|refine ybl rfl rfl ?_|((fail_if_success (refine ybi rfl ?_));refine ybj rfl ?_ ?_<;>(intro ht;rw [ht];first|replace ht := oet_ ht|replace ht := oef_ ht|skip))|(refine tb_ ?_ ?_ ?_;(·(first|exact ybf|(refine .inl ?_;(first|exact row_part (insL_y (by omega) ht hy) (by omega)|exact row_part hcur (by omega)))|exact to_));(·intro _;(first|exact ybf|(refine .inl ?_;(first|exact row_part (insL_y (by omega) ht hy) (by omega)|exact row_part hcur (by omega)))|exact to_));intro _)|(first|(first|(refine rx_rowstore 0 rfl rfl rfl (sbc_sz y) (by rw [sbc_sz];omega) (sbc_one hy1.1 hy1.2) (spl_flat (j := P.length + t) (by omega) (by omega)) rfl rfl ?_ ?_ ?_;(·(first|exact ybf|(refine .inl ?_;(first|exact row_part (insL_y (by omega) ht hy) (by omega)|exact row_part hcur (by omega)))|exact to_));(·(first|exact ybf|(refine .inl ?_;(first|exact row_part (insL_y (by omega) ht hy) (by omega)|exact row_part hcur (by omega)))|exact to_)))|(refine rx_rowstore 0 rfl rfl rfl (sbc_sz x) (by rw [sbc_sz];omega) (sbc_one hx1.1 hx1.2) (spl_flat (j := P.length + t - 1) (by omega) (by rw [List.length_set];omega)) rfl rfl ?_ ?_ ?_;(·(first|exact ybf|(refine .inl ?_;(first|exact row_part (insL_y (by omega) ht hy) (by omega)|exact row_part hcur (by omega)))|exact to_));(·(first|exact ybf|(refine .inl ?_;(first|exact row_part (insL_y (by omega) ht hy) (by omega)|exact row_part hcur (by omega)))|exact to_))))|(refine tqs_ ?_ ?_ ?_;(·(first|exact ybf|(refine .inl ?_;(first|exact row_part (insL_y (by omega) ht hy) (by omega)|exact row_part hcur (by omega)))|exact to_));(·(first|exact ybf|(refine .inl ?_;(first|exact row_part (insL_y (by omega) ht hy) (by omega)|exact row_part hcur (by omega)))|exact to_))))|(apply ybn;(·(first|(first|exact tk_|(apply yad;(·rfl);(·exact (show Cells _ _ _ (sbc y) from part_cells 0 rfl));(·exact hyl))|(apply yad;(·rfl);(·exact hel _ (row_cells 0 rfl));(·exact hxl)))|exact tq_));(·rfl);(·rfl);(·rfl);(·(first|exact ybf|(refine .inl ?_;(first|exact row_part (insL_y (by omega) ht hy) (by omega)|exact row_part hcur (by omega)))|exact to_))))|refine ycg ?_))
          rw [e1]
          repeat' (first|(refine ycf ?_;apply ybk;(·first|(first|exact tk_|(apply yad;(·rfl);(·exact (show Cells _ _ _ (sbc y) from part_cells 0 rfl));(·exact hyl))|(apply yad;(·rfl);(·exact hel _ (row_cells 0 rfl));(·exact hxl))));(·rfl);(·rfl))|(first|(refine rx_rowstore 0 rfl rfl rfl (sbc_sz y) (by rw [sbc_sz];omega) (sbc_one hy1.1 hy1.2) (spl_flat (j := P.length + t) (by omega) (by omega)) rfl rfl ?_ ?_ ?_;(·(first|exact ybf|(refine .inl ?_;(first|exact row_part (insL_y (by omega) ht hy) (by omega)|exact row_part hcur (by omega)))|exact to_));(·(first|exact ybf|(refine .inl ?_;(first|exact row_part (insL_y (by omega) ht hy) (by omega)|exact row_part hcur (by omega)))|exact to_)))|(refine rx_rowstore 0 rfl rfl rfl (sbc_sz x) (by rw [sbc_sz];omega) (sbc_one hx1.1 hx1.2) (spl_flat (j := P.length + t - 1) (by omega) (by rw [List.length_set];omega)) rfl rfl ?_ ?_ ?_;(·(first|exact ybf|(refine .inl ?_;(first|exact row_part (insL_y (by omega) ht hy) (by omega)|exact row_part hcur (by omega)))|exact to_));(·(first|exact ybf|(refine .inl ?_;(first|exact row_part (insL_y (by omega) ht hy) (by omega)|exact row_part hcur (by omega)))|exact to_))))|refine t1_ ?_|(refine ta_ ?_;intro _)|((fail_if_success (refine ybi rfl ?_));refine ybj rfl ?_ ?_<;>(intro ht;rw [ht];first|replace ht := oet_ ht|replace ht := oef_ ht|skip))|(refine ych ?_;first|(refine ybw rfl ?_ ?_<;>intro ht)|(refine ybx rfl ?_ ?_<;>intro ht)))
          refine nx_round (i + 1, S') ⟨by show a < i + 1; omega, by show i + 1 ≤ b; omega, e2, e3, e4⟩ (by show b - (i + 1) < b - i; omega) ts_ (fun _ s => s)
    · have hib' : i = b := by omega
      subst hib'
      repeat' (first|(refine ycf ?_;apply ybk;(·first|(exact tk_));(·rfl);(·rfl))|(first|(refine rx_rowstore 0 rfl rfl rfl (sbc_sz y) (by rw [sbc_sz];omega) (sbc_one hy1.1 hy1.2) (spl_flat (j := P.length + t) (by omega) (by omega)) rfl rfl ?_ ?_ ?_;(·(first|exact ybf|(refine .inl ?_;(first|exact row_part (insL_y (by omega) ht hy) (by omega)|exact row_part hcur (by omega)))|exact to_));(·(first|exact ybf|(refine .inl ?_;(first|exact row_part (insL_y (by omega) ht hy) (by omega)|exact row_part hcur (by omega)))|exact to_)))|(refine rx_rowstore 0 rfl rfl rfl (sbc_sz x) (by rw [sbc_sz];omega) (sbc_one hx1.1 hx1.2) (spl_flat (j := P.length + t - 1) (by omega) (by rw [List.length_set];omega)) rfl rfl ?_ ?_ ?_;(·(first|exact ybf|(refine .inl ?_;(first|exact row_part (insL_y (by omega) ht hy) (by omega)|exact row_part hcur (by omega)))|exact to_));(·(first|exact ybf|(refine .inl ?_;(first|exact row_part (insL_y (by omega) ht hy) (by omega)|exact row_part hcur (by omega)))|exact to_))))|refine t1_ ?_|(refine ta_ ?_;intro _)|((fail_if_success (refine ybi rfl ?_));refine ybj rfl ?_ ?_<;>(intro ht;rw [ht];first|replace ht := oet_ ht|replace ht := oef_ ht|skip))|(refine ych ?_;first|(refine ybw rfl ?_ ?_<;>intro ht)|(refine ybx rfl ?_ ?_<;>intro ht)))
      exact nx_end0 rfl (fun w' s' => ⟨(_, _), rfl, s', S, hSl, hkf, hsrt, by rw [hP]⟩)
  · have hba : b = a := by omega
    subst hba
    refine cx_loop (X := Unit) (fun x => [(0, .slice (some ⟨g, 0, none⟩) m cap), (2, .int .i64 b), (8, .int .i64 ((b : Int) + 1))]) (fun _ => h) (fun _ => [rowS g cap m l]) (fun _ => True) (fun _ => 0) () trivial ts_ (fun _ s => s) ?_
    rintro ⟨⟩ _
    repeat' (first|(refine ycf ?_;apply ybk;(·first|(exact tk_));(·rfl);(·rfl))|(first|(refine rx_rowstore 0 rfl rfl rfl (sbc_sz y) (by rw [sbc_sz];omega) (sbc_one hy1.1 hy1.2) (spl_flat (j := P.length + t) (by omega) (by omega)) rfl rfl ?_ ?_ ?_;(·(first|exact ybf|(refine .inl ?_;(first|exact row_part (insL_y (by omega) ht hy) (by omega)|exact row_part hcur (by omega)))|exact to_));(·(first|exact ybf|(refine .inl ?_;(first|exact row_part (insL_y (by omega) ht hy) (by omega)|exact row_part hcur (by omega)))|exact to_)))|(refine rx_rowstore 0 rfl rfl rfl (sbc_sz x) (by rw [sbc_sz];omega) (sbc_one hx1.1 hx1.2) (spl_flat (j := P.length + t - 1) (by omega) (by rw [List.length_set];omega)) rfl rfl ?_ ?_ ?_;(·(first|exact ybf|(refine .inl ?_;(first|exact row_part (insL_y (by omega) ht hy) (by omega)|exact row_part hcur (by omega)))|exact to_));(·(first|exact ybf|(refine .inl ?_;(first|exact row_part (insL_y (by omega) ht hy) (by omega)|exact row_part hcur (by omega)))|exact to_))))|refine t1_ ?_|(refine ta_ ?_;intro _)|((fail_if_success (refine ybi rfl ?_));refine ybj rfl ?_ ?_<;>(intro ht;rw [ht];first|replace ht := oet_ ht|replace ht := oef_ ht|skip))|(refine ych ?_;first|(refine ybw rfl ?_ ?_<;>intro ht)|(refine ybx rfl ?_ ?_<;>intro ht)))
    exact nx_end0 rfl (fun w' s' => ⟨(_, l), rfl, s', [], by simp, by rw [List.drop_eq_nil_of_le (by simp; omega)]; exact KF.refl _, List.Pairwise.nil, by simp⟩)
end Go.Proofs.YtkkjppeaaicgaaaGreatDoor
end

section
namespace Go.Proofs.YtkkjppeaaicgaaaGreatDoor
open Go Go.Ck
set_option maxRecDepth 100000
set_option maxHeartbeats 2000000
set_option linter.unusedVariables false
theorem swp_far {A B C : List Sb} {x y : Sb} : ((A ++ (x :: (B ++ (y :: C)))).set A.length y).set (A.length + 1 + B.length) x = A ++ (y :: (B ++ (x :: C))) := by
  have h1 : (A ++ (x :: (B ++ (y :: C)))).set A.length y = A ++ (y :: (B ++ (y :: C))) := by
    rw [List.set_append_right _ _ (Nat.le_refl _), Nat.sub_self]; rfl
  rw [h1, List.set_append_right _ _ (by omega), show A.length + 1 + B.length - A.length = B.length + 1 by omega, List.set_cons_succ, List.set_append_right _ _ (Nat.le_refl _), Nat.sub_self]
  rfl
def swR (P X M Y Q : List Sb) (i : Nat) : List Sb := P ++ (Y.take i ++ (X.drop i ++ (M ++ (X.take i ++ (Y.drop i ++ Q)))))
theorem swR_form {P X M Y Q : List Sb} {i : Nat} {x y : Sb} (hx : X[i]? = some x) (hy : Y[i]? = some y) :
    swR P X M Y Q i = (P ++ Y.take i) ++ (x :: ((X.drop (i + 1) ++ (M ++ X.take i)) ++ (y :: (Y.drop (i + 1) ++ Q)))) ∧
    swR P X M Y Q (i + 1) = (P ++ Y.take i) ++ (y :: ((X.drop (i + 1) ++ (M ++ X.take i)) ++ (x :: (Y.drop (i + 1) ++ Q)))) := by
  obtain ⟨h1, rfl⟩ := List.getElem?_eq_some_iff.1 hx
  obtain ⟨h2, rfl⟩ := List.getElem?_eq_some_iff.1 hy
  have e1 : X.drop i = X[i] :: X.drop (i + 1) := List.drop_eq_getElem_cons h1
  have e2 : Y.drop i = Y[i] :: Y.drop (i + 1) := List.drop_eq_getElem_cons h2
  have e3 : X.take (i + 1) = X.take i ++ [X[i]] := List.take_succ_eq_append_getElem h1
  have e4 : Y.take (i + 1) = Y.take i ++ [Y[i]] := List.take_succ_eq_append_getElem h2
  unfold swR
  rw [e1, e2, e3, e4]
  simp only [List.append_assoc, List.cons_append, List.nil_append]
  exact ⟨trivial, trivial⟩
theorem swapR_sp (g cap m a b n : Nat) (P X M Y Q : List Sb) (hP : P.length = a) (hX : X.length = n) (hM : a + n + M.length = b) (hY : Y.length = n) (hm : b + n + Q.length = m) (hm62 : m ≤ 1000000) (h1 : Ones X) (h2 : Ones Y) (h : View) (w : World)
    (s : St ⟨w, h, doms [rowS g cap m (P ++ (X ++ (M ++ (Y ++ Q))))]⟩ h [rowS g cap m (P ++ (X ++ (M ++ (Y ++ Q))))] w) :
    Calls Tryz.prog 127 [.slice (some ⟨g, 0, none⟩) m cap, .int .i64 a, .int .i64 b, .int .i64 n, ordV].toArray w fun e w' => ∃ x : Value, e = .returned x ∧ St ⟨w, h, doms [rowS g cap m (P ++ (X ++ (M ++ (Y ++ Q))))]⟩ h [rowS g cap m (P ++ (Y ++ (M ++ (X ++ Q))))] w' ∧ True := by
  refine calls_enter Tryz.func127 rfl Tryz.ntmps127 rfl s ?_
  repeat' (first|refine tw_ ?_|(refine ta_ ?_;intro _)|((fail_if_success (refine ybi rfl ?_));refine ybj rfl ?_ ?_<;>(intro ht;rw [ht];first|replace ht := oet_ ht|replace ht := oef_ ht|skip))|(refine ych ?_;first|(refine ybw rfl ?_ ?_<;>intro ht)|(refine ybx rfl ?_ ?_<;>intro ht)))
  refine cx_loop (X := Nat) (fun i => [(0, .slice (some ⟨g, 0, none⟩) m cap), (1, .int .i64 a), (2, .int .i64 b), (3, .int .i64 n), (10, .int .i64 i)]) (fun _ => h) (fun i => [rowS g cap m (swR P X M Y Q i)])
    (fun i => i ≤ n) (fun i => n - i) 0 (Nat.zero_le _) ts_ (fun _ s => ?_) ?_
  · unfold swR; simpa using s
  intro i hi
  by_cases hin : i < n
  · obtain ⟨x, hx⟩ : ∃ x, X[i]? = some x := ⟨_, List.getElem?_eq_getElem (by omega)⟩
    obtain ⟨y, hy⟩ : ∃ y, Y[i]? = some y := ⟨_, List.getElem?_eq_getElem (by omega)⟩
    obtain ⟨f1, f2⟩ := swR_form (P := P) (M := M) (Q := Q) hx hy
    have hA : (P ++ Y.take i).length = a + i := by simp; omega
    have hB : (X.drop (i + 1) ++ (M ++ X.take i)).length + (i + 1 + a) = b + i := by simp; omega
    have hC : (Y.drop (i + 1) ++ Q).length = m - (b + i + 1) := by simp; omega
    have hx1 := h1 x (List.mem_of_getElem? hx)
    have hy1 := h2 y (List.mem_of_getElem? hy)
    rw [f1]
    generalize P ++ Y.take i = A at f2 hA ⊢
    generalize X.drop (i + 1) ++ (M ++ X.take i) = B at f2 hB ⊢
    generalize Y.drop (i + 1) ++ Q = C at f2 hC ⊢
    have hln : (A ++ (x :: (B ++ (y :: C)))).length = m := by simp; omega
    have gx : (A ++ (x :: (B ++ (y :: C))))[a + i]? = some x := by rw [← hA]; simp
    have gy : ∀ z, (A ++ (z :: (B ++ (y :: C))))[b + i]? = some y := fun z => by
      rw [List.getElem?_append_right (by omega), show b + i - A.length = B.length + 1 by omega, List.getElem?_cons_succ]; simp
    have gy' : ((A ++ (x :: (B ++ (y :: C)))).set (a + i) y)[b + i]? = some y := by rw [List.getElem?_set_ne (by omega)]; exact gy x
    have hsw : ((A ++ (x :: (B ++ (y :: C)))).set (a + i) y).set (b + i) x = swR P X M Y Q (i + 1) := by
      have := swp_far (A := A) (B := B) (C := C) (x := x) (y := y)
      rw [hA, show a + i + 1 + B.length = b + i by omega] at this
      rw [f2, this]
    have hxl := sbc_len x
    have hyl := sbc_len y
    have hel := fun (L : List Res) (c : Cells h L ⟨g, 0, none⟩ ((A ++ (x :: (B ++ (y :: C)))).flatMap sbc)) => row_el c gx (show ((a : Int) + (i : Int)).toNat = a + i by omega)
    repeat' (first|(refine ycf ?_;apply ybk;(·first|(exact tk_));(·rfl);(·rfl))|refine t1_ ?_|(refine ta_ ?_;intro _)|((fail_if_success (refine ybi rfl ?_));refine ybj rfl ?_ ?_<;>(intro ht;rw [ht];first|replace ht := oet_ ht|replace ht := oef_ ht|skip))|(refine ych ?_;first|(refine ybw rfl ?_ ?_<;>intro ht)|(refine ybx rfl ?_ ?_<;>intro ht)))
    refine cx_region_drawL [Res.part g (0 + ((b : Int) + (i : Int)).toNat * 20) (.int .i64 y.d.1) (sbc y).tail] [19] rfl (by kernel_rfl) ?_
    repeat' (refine ycf ?_;(first|(first|(apply ybm;(·(first|(first|exact tk_|(apply yad;(·rfl);(·exact (show Cells _ _ _ (sbc y) from part_cells 0 rfl));(·exact hyl))|(apply yad;(·rfl);(·exact hel _ (row_cells 0 rfl));(·exact hxl)))|exact tq_));(·rfl);(·rfl);(·(first|exact row_part (gy x) (by omega)|exact row_part gy' (by omega))))|refine ybl rfl rfl ?_|((fail_if_success (refine ybi rfl ?_));refine ybj rfl ?_ ?_<;>(intro ht;rw [ht];first|replace ht := oet_ ht|replace ht := oef_ ht|skip))|(refine tb_ ?_ ?_ ?_;(·(first|exact ybf|(refine .inl ?_;(first|exact row_part (gy x) (by omega)|exact row_part gy' (by omega)))|exact to_));(·intro _;(first|exact ybf|(refine .inl ?_;(first|exact row_part (gy x) (by omega)|exact row_part gy' (by omega)))|exact to_));intro _)|(first|(first|(refine rx_rowstore 0 rfl rfl rfl (sbc_sz y) (by rw [sbc_sz];omega) (sbc_one hy1.1 hy1.2) (spl_flat (j := a + i) (by omega) (by omega)) rfl rfl ?_ ?_ ?_;(·(first|exact ybf|(refine .inl ?_;(first|exact row_part (gy x) (by omega)|exact row_part gy' (by omega)))|exact to_));(·(first|exact ybf|(refine .inl ?_;(first|exact row_part (gy x) (by omega)|exact row_part gy' (by omega)))|exact to_)))|(refine rx_rowstore 0 rfl rfl rfl (sbc_sz x) (by rw [sbc_sz];omega) (sbc_one hx1.1 hx1.2) (spl_flat (j := b + i) (by omega) (by rw [List.length_set];omega)) rfl rfl ?_ ?_ ?_;(·(first|exact ybf|(refine .inl ?_;(first|exact row_part (gy x) (by omega)|exact row_part gy' (by omega)))|exact to_));(·(first|exact ybf|(refine .inl ?_;(first|exact row_part (gy x) (by omega)|exact row_part gy' (by omega)))|exact to_))))|(refine tqs_ ?_ ?_ ?_;(·(first|exact ybf|(refine .inl ?_;(first|exact row_part (gy x) (by omega)|exact row_part gy' (by omega)))|exact to_));(·(first|exact ybf|(refine .inl ?_;(first|exact row_part (gy x) (by omega)|exact row_part gy' (by omega)))|exact to_))))|(apply ybn;(·(first|(first|exact tk_|(apply yad;(·rfl);(·exact (show Cells _ _ _ (sbc y) from part_cells 0 rfl));(·exact hyl))|(apply yad;(·rfl);(·exact hel _ (row_cells 0 rfl));(·exact hxl)))|exact tq_));(·rfl);(·rfl);(·rfl);(·(first|exact ybf|(refine .inl ?_;(first|exact row_part (gy x) (by omega)|exact row_part gy' (by omega)))|exact to_))))|refine ycg ?_))
    rw [hsw]
    repeat' (first|(refine ycf ?_;apply ybk;(·first|(first|exact tk_|(apply yad;(·rfl);(·exact (show Cells _ _ _ (sbc y) from part_cells 0 rfl));(·exact hyl))|(apply yad;(·rfl);(·exact hel _ (row_cells 0 rfl));(·exact hxl))));(·rfl);(·rfl))|(first|(refine rx_rowstore 0 rfl rfl rfl (sbc_sz y) (by rw [sbc_sz];omega) (sbc_one hy1.1 hy1.2) (spl_flat (j := a + i) (by omega) (by omega)) rfl rfl ?_ ?_ ?_;(·(first|exact ybf|(refine .inl ?_;(first|exact row_part (gy x) (by omega)|exact row_part gy' (by omega)))|exact to_));(·(first|exact ybf|(refine .inl ?_;(first|exact row_part (gy x) (by omega)|exact row_part gy' (by omega)))|exact to_)))|(refine rx_rowstore 0 rfl rfl rfl (sbc_sz x) (by rw [sbc_sz];omega) (sbc_one hx1.1 hx1.2) (spl_flat (j := b + i) (by omega) (by rw [List.length_set];omega)) rfl rfl ?_ ?_ ?_;(·(first|exact ybf|(refine .inl ?_;(first|exact row_part (gy x) (by omega)|exact row_part gy' (by omega)))|exact to_));(·(first|exact ybf|(refine .inl ?_;(first|exact row_part (gy x) (by omega)|exact row_part gy' (by omega)))|exact to_))))|refine t1_ ?_|(refine ta_ ?_;intro _)|((fail_if_success (refine ybi rfl ?_));refine ybj rfl ?_ ?_<;>(intro ht;rw [ht];first|replace ht := oet_ ht|replace ht := oef_ ht|skip))|(refine ych ?_;first|(refine ybw rfl ?_ ?_<;>intro ht)|(refine ybx rfl ?_ ?_<;>intro ht)))
    exact nx_round (i + 1) (by omega) (by omega) ts_ (fun _ s => s)
  · have hin' : i = n := by omega
    subst hin'
    repeat' (first|(refine ycf ?_;apply ybk;(·first|(exact tk_));(·rfl);(·rfl))|(first|(refine rx_rowstore 0 rfl rfl rfl (sbc_sz y) (by rw [sbc_sz];omega) (sbc_one hy1.1 hy1.2) (spl_flat (j := a + i) (by omega) (by omega)) rfl rfl ?_ ?_ ?_;(·(first|exact ybf|(refine .inl ?_;(first|exact row_part (gy x) (by omega)|exact row_part gy' (by omega)))|exact to_));(·(first|exact ybf|(refine .inl ?_;(first|exact row_part (gy x) (by omega)|exact row_part gy' (by omega)))|exact to_)))|(refine rx_rowstore 0 rfl rfl rfl (sbc_sz x) (by rw [sbc_sz];omega) (sbc_one hx1.1 hx1.2) (spl_flat (j := b + i) (by omega) (by rw [List.length_set];omega)) rfl rfl ?_ ?_ ?_;(·(first|exact ybf|(refine .inl ?_;(first|exact row_part (gy x) (by omega)|exact row_part gy' (by omega)))|exact to_));(·(first|exact ybf|(refine .inl ?_;(first|exact row_part (gy x) (by omega)|exact row_part gy' (by omega)))|exact to_))))|refine t1_ ?_|(refine ta_ ?_;intro _)|((fail_if_success (refine ybi rfl ?_));refine ybj rfl ?_ ?_<;>(intro ht;rw [ht];first|replace ht := oet_ ht|replace ht := oef_ ht|skip))|(refine ych ?_;first|(refine ybw rfl ?_ ?_<;>intro ht)|(refine ybx rfl ?_ ?_<;>intro ht)))
    refine nx_end0 rfl (fun w' s' => ⟨_, rfl, ?_, trivial⟩)
    unfold swR at s'
    rwa [List.take_of_length_le (by omega), List.take_of_length_le (by omega), List.drop_eq_nil_of_le (by omega), List.drop_eq_nil_of_le (by omega), List.nil_append, List.nil_append] at s'
theorem Ones.app {l m : List Sb} : Ones (l ++ m) ↔ Ones l ∧ Ones m := by
  unfold Ones
  constructor
  · intro h; exact ⟨fun x hx => h x (List.mem_append_left _ hx), fun x hx => h x (List.mem_append_right _ hx)⟩
  · rintro ⟨h, k⟩ x hx
    rcases List.mem_append.1 hx with hx | hx
    · exact h x hx
    · exact k x hx
theorem swapR_i (g cap m a b n : Nat) (A B N : Int) (eA : A = a) (eB : B = b) (eN : N = n) (P X M Y Q l : List Sb) (hl : l = P ++ (X ++ (M ++ (Y ++ Q)))) (hP : P.length = a) (hX : X.length = n) (hM : a + n + M.length = b) (hY : Y.length = n) (hm : b + n + Q.length = m) (hm62 : m ≤ 1000000) (h1 : Ones X) (h2 : Ones Y) (h : View) (w : World)
    (s : St ⟨w, h, doms [rowS g cap m l]⟩ h [rowS g cap m l] w) :
    Calls Tryz.prog 127 [.slice (some ⟨g, 0, none⟩) m cap, .int .i64 A, .int .i64 B, .int .i64 N, ordV].toArray w fun e w' => ∃ x : Value, e = .returned x ∧ St ⟨w, h, doms [rowS g cap m l]⟩ h [rowS g cap m (P ++ (Y ++ (M ++ (X ++ Q))))] w' ∧ True := by
  subst eA eB eN hl
  exact swapR_sp g cap m a b n P X M Y Q hP hX hM hY hm hm62 h1 h2 h w s
theorem rotate_sp (g cap n a m b : Nat) (P U V Q : List Sb) (hP : P.length = a) (hU : a + U.length = m) (hV : m + V.length = b) (hn : b + Q.length = n) (hn62 : n ≤ 1000000) (hu : 0 < U.length) (hv : 0 < V.length) (h1 : Ones U) (h2 : Ones V) (h : View) (w : World)
    (s : St ⟨w, h, doms [rowS g cap n (P ++ (U ++ (V ++ Q)))]⟩ h [rowS g cap n (P ++ (U ++ (V ++ Q)))] w) :
    Calls Tryz.prog 126 [.slice (some ⟨g, 0, none⟩) n cap, .int .i64 a, .int .i64 m, .int .i64 b, ordV].toArray w fun e w' => ∃ x : Value, e = .returned x ∧ St ⟨w, h, doms [rowS g cap n (P ++ (U ++ (V ++ Q)))]⟩ h [rowS g cap n (P ++ (V ++ (U ++ Q)))] w' ∧ True := by
  refine calls_enter Tryz.func126 rfl Tryz.ntmps126 rfl s ?_
  repeat' (first|(refine ycf ?_;apply ybk;(·first|(exact tk_));(·rfl);(·rfl))|(first|(refine rx_rowstore 0 rfl rfl rfl (sbc_sz y) (by rw [sbc_sz];omega) (sbc_one hy1.1 hy1.2) (spl_flat (j := a + i) (by omega) (by omega)) rfl rfl ?_ ?_ ?_;(·(first|exact ybf|(refine .inl ?_;(first|exact row_part (gy x) (by omega)|exact row_part gy' (by omega)))|exact to_));(·(first|exact ybf|(refine .inl ?_;(first|exact row_part (gy x) (by omega)|exact row_part gy' (by omega)))|exact to_)))|(refine rx_rowstore 0 rfl rfl rfl (sbc_sz x) (by rw [sbc_sz];omega) (sbc_one hx1.1 hx1.2) (spl_flat (j := b + i) (by omega) (by rw [List.length_set];omega)) rfl rfl ?_ ?_ ?_;(·(first|exact ybf|(refine .inl ?_;(first|exact row_part (gy x) (by omega)|exact row_part gy' (by omega)))|exact to_));(·(first|exact ybf|(refine .inl ?_;(first|exact row_part (gy x) (by omega)|exact row_part gy' (by omega)))|exact to_))))|refine t1_ ?_|(refine ta_ ?_;intro _)|((fail_if_success (refine ybi rfl ?_));refine ybj rfl ?_ ?_<;>(intro ht;rw [ht];first|replace ht := oet_ ht|replace ht := oef_ ht|skip))|(refine ych ?_;first|(refine ybw rfl ?_ ?_<;>intro ht)|(refine ybx rfl ?_ ?_<;>intro ht)))
  refine cx_loop (X := List Sb × List Sb × List Sb × List Sb) (fun x => [(0, .slice (some ⟨g, 0, none⟩) n cap), (2, .int .i64 m), (4, ordV), (10, .int .i64 (x.2.1.length : Nat)), (11, .int .i64 (x.2.2.1.length : Nat))]) (fun _ => h) (fun x => [rowS g cap n (x.1 ++ (x.2.1 ++ (x.2.2.1 ++ x.2.2.2)))])
    (fun x => x.1 ++ (x.2.2.1 ++ (x.2.1 ++ x.2.2.2)) = P ++ (V ++ (U ++ Q)) ∧ Ones x.2.1 ∧ Ones x.2.2.1 ∧ 0 < x.2.1.length ∧ 0 < x.2.2.1.length ∧ x.1.length + x.2.1.length = m ∧ m + x.2.2.1.length + x.2.2.2.length = n) (fun x => x.2.1.length + x.2.2.1.length) (P, U, V, Q)
    ⟨rfl, h1, h2, hu, hv, by show P.length + U.length = m;omega, by show m + V.length + Q.length = n;omega⟩ (by repeat' (first|exact Sub.nil|refine Sub.cons rfl rfl ?_|refine Sub.cons rfl (congrArg (Value.int .i64) (by show (_ : Int) = ((_ : Nat) : Int);dsimp only;omega)) ?_)) (fun _ s => s) ?_
  rintro ⟨P', U', V', Q'⟩ ⟨htg, o1, o2, hu', hv', hm', hn'⟩
  dsimp only at htg o1 o2 hu' hv' hm' hn' ⊢
  by_cases hij : U'.length = V'.length
  · --(exact tk_):= (exact tk_)
    repeat' (first|(refine ycf ?_;apply ybk;(·first|(exact tk_));(·rfl);(·rfl))|(first|(refine rx_rowstore 0 rfl rfl rfl (sbc_sz y) (by rw [sbc_sz];omega) (sbc_one hy1.1 hy1.2) (spl_flat (j := a + i) (by omega) (by omega)) rfl rfl ?_ ?_ ?_;(·(first|exact ybf|(refine .inl ?_;(first|exact row_part (gy x) (by omega)|exact row_part gy' (by omega)))|exact to_));(·(first|exact ybf|(refine .inl ?_;(first|exact row_part (gy x) (by omega)|exact row_part gy' (by omega)))|exact to_)))|(refine rx_rowstore 0 rfl rfl rfl (sbc_sz x) (by rw [sbc_sz];omega) (sbc_one hx1.1 hx1.2) (spl_flat (j := b + i) (by omega) (by rw [List.length_set];omega)) rfl rfl ?_ ?_ ?_;(·(first|exact ybf|(refine .inl ?_;(first|exact row_part (gy x) (by omega)|exact row_part gy' (by omega)))|exact to_));(·(first|exact ybf|(refine .inl ?_;(first|exact row_part (gy x) (by omega)|exact row_part gy' (by omega)))|exact to_))))|refine t1_ ?_|(refine ta_ ?_;intro _)|((fail_if_success (refine ybi rfl ?_));refine ybj rfl ?_ ?_<;>(intro ht;rw [ht];first|replace ht := oet_ ht|replace ht := oef_ ht|skip))|(refine ych ?_;first|(refine ybw rfl ?_ ?_<;>intro ht)|(refine ybx rfl ?_ ?_<;>intro ht)))
    (refine rx_call_m (ycp Tryz.func127 rfl (by kernel_rfl) rfl) (perm_at (k := 0) rfl) (swapR_i g cap n P'.length m U'.length _ _ _ (by omega) (by omega) (by omega) P' U' [] V' Q' _ (by simp) rfl rfl (by simp;omega) hij.symm (by omega) hn62 o1 o2 h) rfl rfl rfl ?_ ?_ ?_;(·(first|exact ybf|(refine .inl ?_;(first|exact row_part (gy x) (by omega)|exact row_part gy' (by omega)))|exact to_));(·intro _ _ hle;(first|exact ybf|(refine .inl ?_;(first|exact row_part (gy x) (by omega)|exact row_part gy' (by omega)))|exact to_));intro x px hle)
    repeat' (first|(refine ycf ?_;apply ybk;(·first|(exact tk_));(·rfl);(·rfl))|(first|(refine rx_rowstore 0 rfl rfl rfl (sbc_sz y) (by rw [sbc_sz];omega) (sbc_one hy1.1 hy1.2) (spl_flat (j := a + i) (by omega) (by omega)) rfl rfl ?_ ?_ ?_;(·(first|exact ybf|(refine .inl ?_;(first|exact row_part (gy x) (by omega)|exact row_part gy' (by omega)))|exact to_));(·(first|exact ybf|(refine .inl ?_;(first|exact row_part (gy x) (by omega)|exact row_part gy' (by omega)))|exact to_)))|(refine rx_rowstore 0 rfl rfl rfl (sbc_sz x) (by rw [sbc_sz];omega) (sbc_one hx1.1 hx1.2) (spl_flat (j := b + i) (by omega) (by rw [List.length_set];omega)) rfl rfl ?_ ?_ ?_;(·(first|exact ybf|(refine .inl ?_;(first|exact row_part (gy x) (by omega)|exact row_part gy' (by omega)))|exact to_));(·(first|exact ybf|(refine .inl ?_;(first|exact row_part (gy x) (by omega)|exact row_part gy' (by omega)))|exact to_))))|refine t1_ ?_|(refine ta_ ?_;intro _)|((fail_if_success (refine ybi rfl ?_));refine ybj rfl ?_ ?_<;>(intro ht;rw [ht];first|replace ht := oet_ ht|replace ht := oef_ ht|skip))|(refine ych ?_;first|(refine ybw rfl ?_ ?_<;>intro ht)|(refine ybx rfl ?_ ?_<;>intro ht)))
    refine nx_end0 rfl (fun w' s' => ⟨_, rfl, ?_, trivial⟩)
    rw [← htg]
    simpa using s'
  · by_cases hgt : V'.length < U'.length
    · have hUs : U' = U'.take V'.length ++ U'.drop V'.length := (List.take_append_drop ..).symm
      have hX : (U'.take V'.length).length = V'.length := by simp; omega
      have hW : (U'.drop V'.length).length = U'.length - V'.length := by simp
      generalize U'.take V'.length = X at hUs hX
      generalize U'.drop V'.length = W at hUs hW
      obtain ⟨oX, oW⟩ := Ones.app.1 (hUs ▸ o1)
      repeat' (first|(refine ycf ?_;apply ybk;(·first|(exact tk_));(·rfl);(·rfl))|(first|(refine rx_rowstore 0 rfl rfl rfl (sbc_sz y) (by rw [sbc_sz];omega) (sbc_one hy1.1 hy1.2) (spl_flat (j := a + i) (by omega) (by omega)) rfl rfl ?_ ?_ ?_;(·(first|exact ybf|(refine .inl ?_;(first|exact row_part (gy x) (by omega)|exact row_part gy' (by omega)))|exact to_));(·(first|exact ybf|(refine .inl ?_;(first|exact row_part (gy x) (by omega)|exact row_part gy' (by omega)))|exact to_)))|(refine rx_rowstore 0 rfl rfl rfl (sbc_sz x) (by rw [sbc_sz];omega) (sbc_one hx1.1 hx1.2) (spl_flat (j := b + i) (by omega) (by rw [List.length_set];omega)) rfl rfl ?_ ?_ ?_;(·(first|exact ybf|(refine .inl ?_;(first|exact row_part (gy x) (by omega)|exact row_part gy' (by omega)))|exact to_));(·(first|exact ybf|(refine .inl ?_;(first|exact row_part (gy x) (by omega)|exact row_part gy' (by omega)))|exact to_))))|refine t1_ ?_|(refine ta_ ?_;intro _)|((fail_if_success (refine ybi rfl ?_));refine ybj rfl ?_ ?_<;>(intro ht;rw [ht];first|replace ht := oet_ ht|replace ht := oef_ ht|skip))|(refine ych ?_;first|(refine ybw rfl ?_ ?_<;>intro ht)|(refine ybx rfl ?_ ?_<;>intro ht)))
      (refine rx_call_m (ycp Tryz.func127 rfl (by kernel_rfl) rfl) (perm_at (k := 0) rfl) (swapR_i g cap n P'.length m V'.length _ _ _ (by omega) (by omega) (by omega) P' X W V' Q' _ (by rw [hUs];simp) rfl hX (by omega) rfl (by omega) hn62 oX o2 h) rfl rfl rfl ?_ ?_ ?_;(·(first|exact ybf|(refine .inl ?_;(first|exact row_part (gy x) (by omega)|exact row_part gy' (by omega)))|exact to_));(·intro _ _ hle;(first|exact ybf|(refine .inl ?_;(first|exact row_part (gy x) (by omega)|exact row_part gy' (by omega)))|exact to_));intro x px hle)
      repeat' (first|(refine ycf ?_;apply ybk;(·first|(exact tk_));(·rfl);(·rfl))|(first|(refine rx_rowstore 0 rfl rfl rfl (sbc_sz y) (by rw [sbc_sz];omega) (sbc_one hy1.1 hy1.2) (spl_flat (j := a + i) (by omega) (by omega)) rfl rfl ?_ ?_ ?_;(·(first|exact ybf|(refine .inl ?_;(first|exact row_part (gy x) (by omega)|exact row_part gy' (by omega)))|exact to_));(·(first|exact ybf|(refine .inl ?_;(first|exact row_part (gy x) (by omega)|exact row_part gy' (by omega)))|exact to_)))|(refine rx_rowstore 0 rfl rfl rfl (sbc_sz x) (by rw [sbc_sz];omega) (sbc_one hx1.1 hx1.2) (spl_flat (j := b + i) (by omega) (by rw [List.length_set];omega)) rfl rfl ?_ ?_ ?_;(·(first|exact ybf|(refine .inl ?_;(first|exact row_part (gy x) (by omega)|exact row_part gy' (by omega)))|exact to_));(·(first|exact ybf|(refine .inl ?_;(first|exact row_part (gy x) (by omega)|exact row_part gy' (by omega)))|exact to_))))|refine t1_ ?_|(refine ta_ ?_;intro _)|((fail_if_success (refine ybi rfl ?_));refine ybj rfl ?_ ?_<;>(intro ht;rw [ht];first|replace ht := oet_ ht|replace ht := oef_ ht|skip))|(refine ych ?_;first|(refine ybw rfl ?_ ?_<;>intro ht)|(refine ybx rfl ?_ ?_<;>intro ht)))
      refine nx_round (P' ++ V', W, X, Q') ⟨by rw [← htg, hUs];simp, oW, oX, by show 0 < W.length;omega, by show 0 < X.length;omega, by show (P' ++ V').length + W.length = m;simp;omega, by show m + X.length + Q'.length = n;omega⟩ (by show W.length + X.length < U'.length + V'.length;omega) (by repeat' (first|exact Sub.nil|refine Sub.cons rfl rfl ?_|refine Sub.cons rfl (congrArg (Value.int .i64) (by show (_ : Int) = ((_ : Nat) : Int);dsimp only;omega)) ?_)) (fun _ s => ?_)
      simpa using s
    · have hVs : V' = V'.take (V'.length - U'.length) ++ V'.drop (V'.length - U'.length) := (List.take_append_drop ..).symm
      have hW : (V'.take (V'.length - U'.length)).length = V'.length - U'.length := by simp
      have hY : (V'.drop (V'.length - U'.length)).length = U'.length := by simp; omega
      generalize V'.take (V'.length - U'.length) = W at hVs hW
      generalize V'.drop (V'.length - U'.length) = Y at hVs hY
      obtain ⟨oW, oY⟩ := Ones.app.1 (hVs ▸ o2)
      repeat' (first|(refine ycf ?_;apply ybk;(·first|(exact tk_));(·rfl);(·rfl))|(first|(refine rx_rowstore 0 rfl rfl rfl (sbc_sz y) (by rw [sbc_sz];omega) (sbc_one hy1.1 hy1.2) (spl_flat (j := a + i) (by omega) (by omega)) rfl rfl ?_ ?_ ?_;(·(first|exact ybf|(refine .inl ?_;(first|exact row_part (gy x) (by omega)|exact row_part gy' (by omega)))|exact to_));(·(first|exact ybf|(refine .inl ?_;(first|exact row_part (gy x) (by omega)|exact row_part gy' (by omega)))|exact to_)))|(refine rx_rowstore 0 rfl rfl rfl (sbc_sz x) (by rw [sbc_sz];omega) (sbc_one hx1.1 hx1.2) (spl_flat (j := b + i) (by omega) (by rw [List.length_set];omega)) rfl rfl ?_ ?_ ?_;(·(first|exact ybf|(refine .inl ?_;(first|exact row_part (gy x) (by omega)|exact row_part gy' (by omega)))|exact to_));(·(first|exact ybf|(refine .inl ?_;(first|exact row_part (gy x) (by omega)|exact row_part gy' (by omega)))|exact to_))))|refine t1_ ?_|(refine ta_ ?_;intro _)|((fail_if_success (refine ybi rfl ?_));refine ybj rfl ?_ ?_<;>(intro ht;rw [ht];first|replace ht := oet_ ht|replace ht := oef_ ht|skip))|(refine ych ?_;first|(refine ybw rfl ?_ ?_<;>intro ht)|(refine ybx rfl ?_ ?_<;>intro ht)))
      (refine rx_call_m (ycp Tryz.func127 rfl (by kernel_rfl) rfl) (perm_at (k := 0) rfl) (swapR_i g cap n P'.length (m + V'.length - U'.length) U'.length _ _ _ (by omega) (by omega) (by omega) P' U' W Y Q' _ (by rw [hVs];simp) rfl rfl (by omega) hY (by omega) hn62 o1 oY h) rfl rfl rfl ?_ ?_ ?_;(·(first|exact ybf|(refine .inl ?_;(first|exact row_part (gy x) (by omega)|exact row_part gy' (by omega)))|exact to_));(·intro _ _ hle;(first|exact ybf|(refine .inl ?_;(first|exact row_part (gy x) (by omega)|exact row_part gy' (by omega)))|exact to_));intro x px hle)
      repeat' (first|(refine ycf ?_;apply ybk;(·first|(exact tk_));(·rfl);(·rfl))|(first|(refine rx_rowstore 0 rfl rfl rfl (sbc_sz y) (by rw [sbc_sz];omega) (sbc_one hy1.1 hy1.2) (spl_flat (j := a + i) (by omega) (by omega)) rfl rfl ?_ ?_ ?_;(·(first|exact ybf|(refine .inl ?_;(first|exact row_part (gy x) (by omega)|exact row_part gy' (by omega)))|exact to_));(·(first|exact ybf|(refine .inl ?_;(first|exact row_part (gy x) (by omega)|exact row_part gy' (by omega)))|exact to_)))|(refine rx_rowstore 0 rfl rfl rfl (sbc_sz x) (by rw [sbc_sz];omega) (sbc_one hx1.1 hx1.2) (spl_flat (j := b + i) (by omega) (by rw [List.length_set];omega)) rfl rfl ?_ ?_ ?_;(·(first|exact ybf|(refine .inl ?_;(first|exact row_part (gy x) (by omega)|exact row_part gy' (by omega)))|exact to_));(·(first|exact ybf|(refine .inl ?_;(first|exact row_part (gy x) (by omega)|exact row_part gy' (by omega)))|exact to_))))|refine t1_ ?_|(refine ta_ ?_;intro _)|((fail_if_success (refine ybi rfl ?_));refine ybj rfl ?_ ?_<;>(intro ht;rw [ht];first|replace ht := oet_ ht|replace ht := oef_ ht|skip))|(refine ych ?_;first|(refine ybw rfl ?_ ?_<;>intro ht)|(refine ybx rfl ?_ ?_<;>intro ht)))
      refine nx_round (P', Y, W, U' ++ Q') ⟨by rw [← htg, hVs];simp, oY, oW, by show 0 < Y.length;omega, by show 0 < W.length;omega, by show P'.length + Y.length = m;omega, by show m + W.length + (U' ++ Q').length = n;simp;omega⟩ (by show Y.length + W.length < U'.length + V'.length;omega) (by repeat' (first|exact Sub.nil|refine Sub.cons rfl rfl ?_|refine Sub.cons rfl (congrArg (Value.int .i64) (by show (_ : Int) = ((_ : Nat) : Int);dsimp only;omega)) ?_)) (fun _ s => ?_)
      simpa using s
theorem rotate_i (g cap n a m b : Nat) (ia im ib : Int) (e1 : ia = a) (e2 : im = m) (e3 : ib = b) (P U V Q l : List Sb) (hl : l = P ++ (U ++ (V ++ Q))) (hP : P.length = a) (hU : a + U.length = m) (hV : m + V.length = b) (hn : b + Q.length = n) (hn62 : n ≤ 1000000) (hu : 0 < U.length) (hv : 0 < V.length) (h1 : Ones U) (h2 : Ones V) (h : View) (w : World)
    (s : St ⟨w, h, doms [rowS g cap n l]⟩ h [rowS g cap n l] w) :
    Calls Tryz.prog 126 [.slice (some ⟨g, 0, none⟩) n cap, .int .i64 ia, .int .i64 im, .int .i64 ib, ordV].toArray w fun e w' => ∃ x : Value, e = .returned x ∧ St ⟨w, h, doms [rowS g cap n l]⟩ h [rowS g cap n (P ++ (V ++ (U ++ Q)))] w' ∧ True := by
  subst e1 e2 e3 hl
  exact rotate_sp g cap n a m b P U V Q hP hU hV hn hn62 hu hv h1 h2 h w s
end Go.Proofs.YtkkjppeaaicgaaaGreatDoor
end
