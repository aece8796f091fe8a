/-
  Part 9 of a proof: SbE SbF SbG.
  Conditions: each theorem states its own.
-/
import Derived.Test.YtkkjppeaaicgaaaRpIPM8
section
namespace Go.Proofs.Ytkkjppeaaicgaaa
open Go Go.Ck
set_option maxRecDepth 100000
set_option maxHeartbeats 2000000
set_option linter.unusedVariables false

theorem swp_far {A B C : List Sb} {x y : Sb} : ((A ++ (x :: (B ++ (y :: C)))).set A.length y).set (A.length + 1 + B.length) x = A ++ (y :: (B ++ (x :: C))) := by
  have h1 : (A ++ (x :: (B ++ (y :: C)))).set A.length y = A ++ (y :: (B ++ (y :: C))) := by
    rw [List.set_append_right _ _ (Nat.le_refl _), Nat.sub_self]; rfl
  rw [h1, List.set_append_right _ _ (by omega), show A.length + 1 + B.length - A.length = B.length + 1 by omega, List.set_cons_succ, List.set_append_right _ _ (Nat.le_refl _), Nat.sub_self]
  rfl
/-- two parts of one length, changed about as far as i -/
def swR (P X M Y Q : List Sb) (i : Nat) : List Sb := P ++ (Y.take i ++ (X.drop i ++ (M ++ (X.take i ++ (Y.drop i ++ Q)))))
theorem swR_form {P X M Y Q : List Sb} {i : Nat} {x y : Sb} (hx : X[i]? = some x) (hy : Y[i]? = some y) :
    swR P X M Y Q i = (P ++ Y.take i) ++ (x :: ((X.drop (i + 1) ++ (M ++ X.take i)) ++ (y :: (Y.drop (i + 1) ++ Q)))) ∧
    swR P X M Y Q (i + 1) = (P ++ Y.take i) ++ (y :: ((X.drop (i + 1) ++ (M ++ X.take i)) ++ (x :: (Y.drop (i + 1) ++ Q)))) := by
  obtain ⟨h1, rfl⟩ := List.getElem?_eq_some_iff.1 hx
  obtain ⟨h2, rfl⟩ := List.getElem?_eq_some_iff.1 hy
  have e1 : X.drop i = X[i] :: X.drop (i + 1) := List.drop_eq_getElem_cons h1
  have e2 : Y.drop i = Y[i] :: Y.drop (i + 1) := List.drop_eq_getElem_cons h2
  have e3 : X.take (i + 1) = X.take i ++ [X[i]] := List.take_succ_eq_append_getElem h1
  have e4 : Y.take (i + 1) = Y.take i ++ [Y[i]] := List.take_succ_eq_append_getElem h2
  unfold swR
  rw [e1, e2, e3, e4]
  simp only [List.append_assoc, List.cons_append, List.nil_append]
  exact ⟨trivial, trivial⟩

theorem swapR_sp (g cap m a b n : Nat) (P X M Y Q : List Sb) (hP : P.length = a) (hX : X.length = n) (hM : a + n + M.length = b) (hY : Y.length = n) (hm : b + n + Q.length = m) (hm62 : m ≤ 1000000) (h1 : Ones X) (h2 : Ones Y) (h : View) (w : World)
    (s : St ⟨w, h, doms [rowS g cap m (P ++ (X ++ (M ++ (Y ++ Q))))]⟩ h [rowS g cap m (P ++ (X ++ (M ++ (Y ++ Q))))] w) :
    Calls Try.prog 101 [.slice (some ⟨g, 0, none⟩) m cap, .int .i64 a, .int .i64 b, .int .i64 n, ordV].toArray w fun e w' => ∃ x : Value, e = .returned x ∧ St ⟨w, h, doms [rowS g cap m (P ++ (X ++ (M ++ (Y ++ Q))))]⟩ h [rowS g cap m (P ++ (Y ++ (M ++ (X ++ Q))))] w' ∧ True := by
  refine calls_enter Try.func101 rfl Try.ntmps101 rfl s ?_
  repeat' (first | refine tw_ ?_ | (refine ta_ ?_; intro _) | ((fail_if_success (refine ybi rfl ?_)); refine ybj rfl ?_ ?_ <;> (intro ht; rw [ht]; first | replace ht := of_decide_eq_true ht | replace ht := of_decide_eq_false ht | skip)) | (refine ych ?_; first | (refine ybw rfl ?_ ?_ <;> intro ht) | (refine ybx rfl ?_ ?_ <;> intro ht)))
  refine cx_loop (X := Nat) (fun i => [(0, .slice (some ⟨g, 0, none⟩) m cap), (1, .int .i64 a), (2, .int .i64 b), (3, .int .i64 n), (10, .int .i64 i)]) (fun _ => h) (fun i => [rowS g cap m (swR P X M Y Q i)])
    (fun i => i ≤ n) (fun i => n - i) 0 (Nat.zero_le _) ts_ (fun _ s => ?_) ?_
  · unfold swR; simpa using s
  intro i hi
  by_cases hin : i < n
  · obtain ⟨x, hx⟩ : ∃ x, X[i]? = some x := ⟨_, List.getElem?_eq_getElem (by omega)⟩
    obtain ⟨y, hy⟩ : ∃ y, Y[i]? = some y := ⟨_, List.getElem?_eq_getElem (by omega)⟩
    obtain ⟨f1, f2⟩ := swR_form (P := P) (M := M) (Q := Q) hx hy
    have hA : (P ++ Y.take i).length = a + i := by simp; omega
    have hB : (X.drop (i + 1) ++ (M ++ X.take i)).length + (i + 1 + a) = b + i := by simp; omega
    have hC : (Y.drop (i + 1) ++ Q).length = m - (b + i + 1) := by simp; omega
    have hx1 := h1 x (List.mem_of_getElem? hx)
    have hy1 := h2 y (List.mem_of_getElem? hy)
    rw [f1]
    generalize P ++ Y.take i = A at f2 hA ⊢
    generalize X.drop (i + 1) ++ (M ++ X.take i) = B at f2 hB ⊢
    generalize Y.drop (i + 1) ++ Q = C at f2 hC ⊢
    have hln : (A ++ (x :: (B ++ (y :: C)))).length = m := by simp; omega
    have gx : (A ++ (x :: (B ++ (y :: C))))[a + i]? = some x := by rw [← hA]; simp
    have gy : ∀ z, (A ++ (z :: (B ++ (y :: C))))[b + i]? = some y := fun z => by
      rw [List.getElem?_append_right (by omega), show b + i - A.length = B.length + 1 by omega, List.getElem?_cons_succ]; simp
    have gy' : ((A ++ (x :: (B ++ (y :: C)))).set (a + i) y)[b + i]? = some y := by rw [List.getElem?_set_ne (by omega)]; exact gy x
    have hsw : ((A ++ (x :: (B ++ (y :: C)))).set (a + i) y).set (b + i) x = swR P X M Y Q (i + 1) := by
      have := swp_far (A := A) (B := B) (C := C) (x := x) (y := y)
      rw [hA, show a + i + 1 + B.length = b + i by omega] at this
      rw [f2, this]
    have hxl := sbc_len x
    have hyl := sbc_len y
    have hel := fun (L : List Res) (c : Cells h L ⟨g, 0, none⟩ ((A ++ (x :: (B ++ (y :: C)))).flatMap sbc)) => row_el c gx (show ((a : Int) + (i : Int)).toNat = a + i by omega)
    repeat' (first | (refine ycf ?_; apply ybk; (· first | (exact tk_)); (· rfl); (· rfl)) | refine t1_ ?_ | (refine ta_ ?_; intro _) | ((fail_if_success (refine ybi rfl ?_)); refine ybj rfl ?_ ?_ <;> (intro ht; rw [ht]; first | replace ht := of_decide_eq_true ht | replace ht := of_decide_eq_false ht | skip)) | (refine ych ?_; first | (refine ybw rfl ?_ ?_ <;> intro ht) | (refine ybx rfl ?_ ?_ <;> intro ht)))
    refine cx_region_drawL [Res.part g (0 + ((b : Int) + (i : Int)).toNat * 20) (.int .i64 y.d.1) (sbc y).tail] [19] rfl (by kernel_rfl) ?_
    repeat' (refine ycf ?_;(first|(first|(apply ybm;(·(first|(first|exact tk_|(apply yad;(·rfl);(·exact (show Cells _ _ _ (sbc y) from part_cells 0 rfl));(·exact hyl))|(apply yad;(·rfl);(·exact hel _ (row_cells 0 rfl));(·exact hxl)))|exact tq_));(·rfl);(·rfl);(·(first|exact row_part (gy x) (by omega)|exact row_part gy' (by omega))))|refine ybl rfl rfl ?_|((fail_if_success (refine ybi rfl ?_));refine ybj rfl ?_ ?_<;>(intro ht;rw [ht];first|replace ht := of_decide_eq_true ht|replace ht := of_decide_eq_false ht|skip))|(refine tb_ ?_ ?_ ?_;(·(first|exact ybf|(refine .inl ?_;(first|exact row_part (gy x) (by omega)|exact row_part gy' (by omega)))|exact to_));(·intro _;(first|exact ybf|(refine .inl ?_;(first|exact row_part (gy x) (by omega)|exact row_part gy' (by omega)))|exact to_));intro _)|(first|(first|(refine rx_rowstore 0 rfl rfl rfl (sbc_sz y) (by rw [sbc_sz];omega) (sbc_one hy1.1 hy1.2) (spl_flat (j := a + i) (by omega) (by omega)) rfl rfl ?_ ?_ ?_;(·(first|exact ybf|(refine .inl ?_;(first|exact row_part (gy x) (by omega)|exact row_part gy' (by omega)))|exact to_));(·(first|exact ybf|(refine .inl ?_;(first|exact row_part (gy x) (by omega)|exact row_part gy' (by omega)))|exact to_)))|(refine rx_rowstore 0 rfl rfl rfl (sbc_sz x) (by rw [sbc_sz];omega) (sbc_one hx1.1 hx1.2) (spl_flat (j := b + i) (by omega) (by rw [List.length_set];omega)) rfl rfl ?_ ?_ ?_;(·(first|exact ybf|(refine .inl ?_;(first|exact row_part (gy x) (by omega)|exact row_part gy' (by omega)))|exact to_));(·(first|exact ybf|(refine .inl ?_;(first|exact row_part (gy x) (by omega)|exact row_part gy' (by omega)))|exact to_))))|(refine tqs_ ?_ ?_ ?_;(·(first|exact ybf|(refine .inl ?_;(first|exact row_part (gy x) (by omega)|exact row_part gy' (by omega)))|exact to_));(·(first|exact ybf|(refine .inl ?_;(first|exact row_part (gy x) (by omega)|exact row_part gy' (by omega)))|exact to_))))|(apply ybn;(·(first|(first|exact tk_|(apply yad;(·rfl);(·exact (show Cells _ _ _ (sbc y) from part_cells 0 rfl));(·exact hyl))|(apply yad;(·rfl);(·exact hel _ (row_cells 0 rfl));(·exact hxl)))|exact tq_));(·rfl);(·rfl);(·rfl);(·(first|exact ybf|(refine .inl ?_;(first|exact row_part (gy x) (by omega)|exact row_part gy' (by omega)))|exact to_))))|refine ycg ?_))
    rw [hsw]
    repeat' (first|(refine ycf ?_;apply ybk;(·first|(first|exact tk_|(apply yad;(·rfl);(·exact (show Cells _ _ _ (sbc y) from part_cells 0 rfl));(·exact hyl))|(apply yad;(·rfl);(·exact hel _ (row_cells 0 rfl));(·exact hxl))));(·rfl);(·rfl))|(first|(refine rx_rowstore 0 rfl rfl rfl (sbc_sz y) (by rw [sbc_sz];omega) (sbc_one hy1.1 hy1.2) (spl_flat (j := a + i) (by omega) (by omega)) rfl rfl ?_ ?_ ?_;(·(first|exact ybf|(refine .inl ?_;(first|exact row_part (gy x) (by omega)|exact row_part gy' (by omega)))|exact to_));(·(first|exact ybf|(refine .inl ?_;(first|exact row_part (gy x) (by omega)|exact row_part gy' (by omega)))|exact to_)))|(refine rx_rowstore 0 rfl rfl rfl (sbc_sz x) (by rw [sbc_sz];omega) (sbc_one hx1.1 hx1.2) (spl_flat (j := b + i) (by omega) (by rw [List.length_set];omega)) rfl rfl ?_ ?_ ?_;(·(first|exact ybf|(refine .inl ?_;(first|exact row_part (gy x) (by omega)|exact row_part gy' (by omega)))|exact to_));(·(first|exact ybf|(refine .inl ?_;(first|exact row_part (gy x) (by omega)|exact row_part gy' (by omega)))|exact to_))))|refine t1_ ?_|(refine ta_ ?_;intro _)|((fail_if_success (refine ybi rfl ?_));refine ybj rfl ?_ ?_<;>(intro ht;rw [ht];first|replace ht := of_decide_eq_true ht|replace ht := of_decide_eq_false ht|skip))|(refine ych ?_;first|(refine ybw rfl ?_ ?_<;>intro ht)|(refine ybx rfl ?_ ?_<;>intro ht)))
    exact nx_round (i + 1) (by omega) (by omega) ts_ (fun _ s => s)
  · have hin' : i = n := by omega
    subst hin'
    repeat' (first|(refine ycf ?_;apply ybk;(·first|(exact tk_));(·rfl);(·rfl))|(first|(refine rx_rowstore 0 rfl rfl rfl (sbc_sz y) (by rw [sbc_sz];omega) (sbc_one hy1.1 hy1.2) (spl_flat (j := a + i) (by omega) (by omega)) rfl rfl ?_ ?_ ?_;(·(first|exact ybf|(refine .inl ?_;(first|exact row_part (gy x) (by omega)|exact row_part gy' (by omega)))|exact to_));(·(first|exact ybf|(refine .inl ?_;(first|exact row_part (gy x) (by omega)|exact row_part gy' (by omega)))|exact to_)))|(refine rx_rowstore 0 rfl rfl rfl (sbc_sz x) (by rw [sbc_sz];omega) (sbc_one hx1.1 hx1.2) (spl_flat (j := b + i) (by omega) (by rw [List.length_set];omega)) rfl rfl ?_ ?_ ?_;(·(first|exact ybf|(refine .inl ?_;(first|exact row_part (gy x) (by omega)|exact row_part gy' (by omega)))|exact to_));(·(first|exact ybf|(refine .inl ?_;(first|exact row_part (gy x) (by omega)|exact row_part gy' (by omega)))|exact to_))))|refine t1_ ?_|(refine ta_ ?_;intro _)|((fail_if_success (refine ybi rfl ?_));refine ybj rfl ?_ ?_<;>(intro ht;rw [ht];first|replace ht := of_decide_eq_true ht|replace ht := of_decide_eq_false ht|skip))|(refine ych ?_;first|(refine ybw rfl ?_ ?_<;>intro ht)|(refine ybx rfl ?_ ?_<;>intro ht)))
    refine nx_end0 rfl (fun w' s' => ⟨_, rfl, ?_, trivial⟩)
    unfold swR at s'
    rwa [List.take_of_length_le (by omega), List.take_of_length_le (by omega), List.drop_eq_nil_of_le (by omega), List.drop_eq_nil_of_le (by omega), List.nil_append, List.nil_append] at s'

theorem Ones.app {l m : List Sb} : Ones (l ++ m) ↔ Ones l ∧ Ones m := by
  unfold Ones
  constructor
  · intro h; exact ⟨fun x hx => h x (List.mem_append_left _ hx), fun x hx => h x (List.mem_append_right _ hx)⟩
  · rintro ⟨h, k⟩ x hx
    rcases List.mem_append.1 hx with hx | hx
    · exact h x hx
    · exact k x hx

theorem swapR_i (g cap m a b n : Nat) (A B N : Int) (eA : A = a) (eB : B = b) (eN : N = n) (P X M Y Q l : List Sb) (hl : l = P ++ (X ++ (M ++ (Y ++ Q)))) (hP : P.length = a) (hX : X.length = n) (hM : a + n + M.length = b) (hY : Y.length = n) (hm : b + n + Q.length = m) (hm62 : m ≤ 1000000) (h1 : Ones X) (h2 : Ones Y) (h : View) (w : World)
    (s : St ⟨w, h, doms [rowS g cap m l]⟩ h [rowS g cap m l] w) :
    Calls Try.prog 101 [.slice (some ⟨g, 0, none⟩) m cap, .int .i64 A, .int .i64 B, .int .i64 N, ordV].toArray w fun e w' => ∃ x : Value, e = .returned x ∧ St ⟨w, h, doms [rowS g cap m l]⟩ h [rowS g cap m (P ++ (Y ++ (M ++ (X ++ Q))))] w' ∧ True := by
  subst eA eB eN hl
  exact swapR_sp g cap m a b n P X M Y Q hP hX hM hY hm hm62 h1 h2 h w s

theorem rotate_sp (g cap n a m b : Nat) (P U V Q : List Sb) (hP : P.length = a) (hU : a + U.length = m) (hV : m + V.length = b) (hn : b + Q.length = n) (hn62 : n ≤ 1000000) (hu : 0 < U.length) (hv : 0 < V.length) (h1 : Ones U) (h2 : Ones V) (h : View) (w : World)
    (s : St ⟨w, h, doms [rowS g cap n (P ++ (U ++ (V ++ Q)))]⟩ h [rowS g cap n (P ++ (U ++ (V ++ Q)))] w) :
    Calls Try.prog 98 [.slice (some ⟨g, 0, none⟩) n cap, .int .i64 a, .int .i64 m, .int .i64 b, ordV].toArray w fun e w' => ∃ x : Value, e = .returned x ∧ St ⟨w, h, doms [rowS g cap n (P ++ (U ++ (V ++ Q)))]⟩ h [rowS g cap n (P ++ (V ++ (U ++ Q)))] w' ∧ True := by
  refine calls_enter Try.func98 rfl Try.ntmps98 rfl s ?_
  repeat' (first|(refine ycf ?_;apply ybk;(·first|(exact tk_));(·rfl);(·rfl))|(first|(refine rx_rowstore 0 rfl rfl rfl (sbc_sz y) (by rw [sbc_sz];omega) (sbc_one hy1.1 hy1.2) (spl_flat (j := a + i) (by omega) (by omega)) rfl rfl ?_ ?_ ?_;(·(first|exact ybf|(refine .inl ?_;(first|exact row_part (gy x) (by omega)|exact row_part gy' (by omega)))|exact to_));(·(first|exact ybf|(refine .inl ?_;(first|exact row_part (gy x) (by omega)|exact row_part gy' (by omega)))|exact to_)))|(refine rx_rowstore 0 rfl rfl rfl (sbc_sz x) (by rw [sbc_sz];omega) (sbc_one hx1.1 hx1.2) (spl_flat (j := b + i) (by omega) (by rw [List.length_set];omega)) rfl rfl ?_ ?_ ?_;(·(first|exact ybf|(refine .inl ?_;(first|exact row_part (gy x) (by omega)|exact row_part gy' (by omega)))|exact to_));(·(first|exact ybf|(refine .inl ?_;(first|exact row_part (gy x) (by omega)|exact row_part gy' (by omega)))|exact to_))))|refine t1_ ?_|(refine ta_ ?_;intro _)|((fail_if_success (refine ybi rfl ?_));refine ybj rfl ?_ ?_<;>(intro ht;rw [ht];first|replace ht := of_decide_eq_true ht|replace ht := of_decide_eq_false ht|skip))|(refine ych ?_;first|(refine ybw rfl ?_ ?_<;>intro ht)|(refine ybx rfl ?_ ?_<;>intro ht)))
  refine cx_loop (X := List Sb × List Sb × List Sb × List Sb) (fun x => [(0, .slice (some ⟨g, 0, none⟩) n cap), (2, .int .i64 m), (4, ordV), (10, .int .i64 (x.2.1.length : Nat)), (11, .int .i64 (x.2.2.1.length : Nat))]) (fun _ => h) (fun x => [rowS g cap n (x.1 ++ (x.2.1 ++ (x.2.2.1 ++ x.2.2.2)))])
    (fun x => x.1 ++ (x.2.2.1 ++ (x.2.1 ++ x.2.2.2)) = P ++ (V ++ (U ++ Q)) ∧ Ones x.2.1 ∧ Ones x.2.2.1 ∧ 0 < x.2.1.length ∧ 0 < x.2.2.1.length ∧ x.1.length + x.2.1.length = m ∧ m + x.2.2.1.length + x.2.2.2.length = n) (fun x => x.2.1.length + x.2.2.1.length) (P, U, V, Q)
    ⟨rfl, h1, h2, hu, hv, by show P.length + U.length = m; omega, by show m + V.length + Q.length = n; omega⟩ (by repeat' (first | exact Sub.nil | refine Sub.cons rfl rfl ?_ | refine Sub.cons rfl (congrArg (Value.int .i64) (by show (_ : Int) = ((_ : Nat) : Int); dsimp only; omega)) ?_)) (fun _ s => s) ?_
  rintro ⟨P', U', V', Q'⟩ ⟨htg, o1, o2, hu', hv', hm', hn'⟩
  dsimp only at htg o1 o2 hu' hv' hm' hn' ⊢
  by_cases hij : U'.length = V'.length
  · --(exact tk_):= (exact tk_)
    repeat' (first|(refine ycf ?_;apply ybk;(·first|(exact tk_));(·rfl);(·rfl))|(first|(refine rx_rowstore 0 rfl rfl rfl (sbc_sz y) (by rw [sbc_sz];omega) (sbc_one hy1.1 hy1.2) (spl_flat (j := a + i) (by omega) (by omega)) rfl rfl ?_ ?_ ?_;(·(first|exact ybf|(refine .inl ?_;(first|exact row_part (gy x) (by omega)|exact row_part gy' (by omega)))|exact to_));(·(first|exact ybf|(refine .inl ?_;(first|exact row_part (gy x) (by omega)|exact row_part gy' (by omega)))|exact to_)))|(refine rx_rowstore 0 rfl rfl rfl (sbc_sz x) (by rw [sbc_sz];omega) (sbc_one hx1.1 hx1.2) (spl_flat (j := b + i) (by omega) (by rw [List.length_set];omega)) rfl rfl ?_ ?_ ?_;(·(first|exact ybf|(refine .inl ?_;(first|exact row_part (gy x) (by omega)|exact row_part gy' (by omega)))|exact to_));(·(first|exact ybf|(refine .inl ?_;(first|exact row_part (gy x) (by omega)|exact row_part gy' (by omega)))|exact to_))))|refine t1_ ?_|(refine ta_ ?_;intro _)|((fail_if_success (refine ybi rfl ?_));refine ybj rfl ?_ ?_<;>(intro ht;rw [ht];first|replace ht := of_decide_eq_true ht|replace ht := of_decide_eq_false ht|skip))|(refine ych ?_;first|(refine ybw rfl ?_ ?_<;>intro ht)|(refine ybx rfl ?_ ?_<;>intro ht)))
    (refine rx_call_m (ycp Try.func101 rfl (by kernel_rfl) rfl) (perm_at (k := 0) rfl) (swapR_i g cap n P'.length m U'.length _ _ _ (by omega) (by omega) (by omega) P' U' [] V' Q' _ (by simp) rfl rfl (by simp; omega) hij.symm (by omega) hn62 o1 o2 h) rfl rfl rfl ?_ ?_ ?_; (· (first | exact ybf | (refine .inl ?_; (first | exact row_part (gy x) (by omega) | exact row_part gy' (by omega))) | exact to_)); (· intro _ _ hle; (first | exact ybf | (refine .inl ?_; (first | exact row_part (gy x) (by omega) | exact row_part gy' (by omega))) | exact to_)); intro x px hle)
    repeat' (first|(refine ycf ?_;apply ybk;(·first|(exact tk_));(·rfl);(·rfl))|(first|(refine rx_rowstore 0 rfl rfl rfl (sbc_sz y) (by rw [sbc_sz];omega) (sbc_one hy1.1 hy1.2) (spl_flat (j := a + i) (by omega) (by omega)) rfl rfl ?_ ?_ ?_;(·(first|exact ybf|(refine .inl ?_;(first|exact row_part (gy x) (by omega)|exact row_part gy' (by omega)))|exact to_));(·(first|exact ybf|(refine .inl ?_;(first|exact row_part (gy x) (by omega)|exact row_part gy' (by omega)))|exact to_)))|(refine rx_rowstore 0 rfl rfl rfl (sbc_sz x) (by rw [sbc_sz];omega) (sbc_one hx1.1 hx1.2) (spl_flat (j := b + i) (by omega) (by rw [List.length_set];omega)) rfl rfl ?_ ?_ ?_;(·(first|exact ybf|(refine .inl ?_;(first|exact row_part (gy x) (by omega)|exact row_part gy' (by omega)))|exact to_));(·(first|exact ybf|(refine .inl ?_;(first|exact row_part (gy x) (by omega)|exact row_part gy' (by omega)))|exact to_))))|refine t1_ ?_|(refine ta_ ?_;intro _)|((fail_if_success (refine ybi rfl ?_));refine ybj rfl ?_ ?_<;>(intro ht;rw [ht];first|replace ht := of_decide_eq_true ht|replace ht := of_decide_eq_false ht|skip))|(refine ych ?_;first|(refine ybw rfl ?_ ?_<;>intro ht)|(refine ybx rfl ?_ ?_<;>intro ht)))
    refine nx_end0 rfl (fun w' s' => ⟨_, rfl, ?_, trivial⟩)
    rw [← htg]
    simpa using s'
  · by_cases hgt : V'.length < U'.length
    · have hUs : U' = U'.take V'.length ++ U'.drop V'.length := (List.take_append_drop ..).symm
      have hX : (U'.take V'.length).length = V'.length := by simp; omega
      have hW : (U'.drop V'.length).length = U'.length - V'.length := by simp
      generalize U'.take V'.length = X at hUs hX
      generalize U'.drop V'.length = W at hUs hW
      obtain ⟨oX, oW⟩ := Ones.app.1 (hUs ▸ o1)
      repeat' (first|(refine ycf ?_;apply ybk;(·first|(exact tk_));(·rfl);(·rfl))|(first|(refine rx_rowstore 0 rfl rfl rfl (sbc_sz y) (by rw [sbc_sz];omega) (sbc_one hy1.1 hy1.2) (spl_flat (j := a + i) (by omega) (by omega)) rfl rfl ?_ ?_ ?_;(·(first|exact ybf|(refine .inl ?_;(first|exact row_part (gy x) (by omega)|exact row_part gy' (by omega)))|exact to_));(·(first|exact ybf|(refine .inl ?_;(first|exact row_part (gy x) (by omega)|exact row_part gy' (by omega)))|exact to_)))|(refine rx_rowstore 0 rfl rfl rfl (sbc_sz x) (by rw [sbc_sz];omega) (sbc_one hx1.1 hx1.2) (spl_flat (j := b + i) (by omega) (by rw [List.length_set];omega)) rfl rfl ?_ ?_ ?_;(·(first|exact ybf|(refine .inl ?_;(first|exact row_part (gy x) (by omega)|exact row_part gy' (by omega)))|exact to_));(·(first|exact ybf|(refine .inl ?_;(first|exact row_part (gy x) (by omega)|exact row_part gy' (by omega)))|exact to_))))|refine t1_ ?_|(refine ta_ ?_;intro _)|((fail_if_success (refine ybi rfl ?_));refine ybj rfl ?_ ?_<;>(intro ht;rw [ht];first|replace ht := of_decide_eq_true ht|replace ht := of_decide_eq_false ht|skip))|(refine ych ?_;first|(refine ybw rfl ?_ ?_<;>intro ht)|(refine ybx rfl ?_ ?_<;>intro ht)))
      (refine rx_call_m (ycp Try.func101 rfl (by kernel_rfl) rfl) (perm_at (k := 0) rfl) (swapR_i g cap n P'.length m V'.length _ _ _ (by omega) (by omega) (by omega) P' X W V' Q' _ (by rw [hUs]; simp) rfl hX (by omega) rfl (by omega) hn62 oX o2 h) rfl rfl rfl ?_ ?_ ?_; (· (first | exact ybf | (refine .inl ?_; (first | exact row_part (gy x) (by omega) | exact row_part gy' (by omega))) | exact to_)); (· intro _ _ hle; (first | exact ybf | (refine .inl ?_; (first | exact row_part (gy x) (by omega) | exact row_part gy' (by omega))) | exact to_)); intro x px hle)
      repeat' (first|(refine ycf ?_;apply ybk;(·first|(exact tk_));(·rfl);(·rfl))|(first|(refine rx_rowstore 0 rfl rfl rfl (sbc_sz y) (by rw [sbc_sz];omega) (sbc_one hy1.1 hy1.2) (spl_flat (j := a + i) (by omega) (by omega)) rfl rfl ?_ ?_ ?_;(·(first|exact ybf|(refine .inl ?_;(first|exact row_part (gy x) (by omega)|exact row_part gy' (by omega)))|exact to_));(·(first|exact ybf|(refine .inl ?_;(first|exact row_part (gy x) (by omega)|exact row_part gy' (by omega)))|exact to_)))|(refine rx_rowstore 0 rfl rfl rfl (sbc_sz x) (by rw [sbc_sz];omega) (sbc_one hx1.1 hx1.2) (spl_flat (j := b + i) (by omega) (by rw [List.length_set];omega)) rfl rfl ?_ ?_ ?_;(·(first|exact ybf|(refine .inl ?_;(first|exact row_part (gy x) (by omega)|exact row_part gy' (by omega)))|exact to_));(·(first|exact ybf|(refine .inl ?_;(first|exact row_part (gy x) (by omega)|exact row_part gy' (by omega)))|exact to_))))|refine t1_ ?_|(refine ta_ ?_;intro _)|((fail_if_success (refine ybi rfl ?_));refine ybj rfl ?_ ?_<;>(intro ht;rw [ht];first|replace ht := of_decide_eq_true ht|replace ht := of_decide_eq_false ht|skip))|(refine ych ?_;first|(refine ybw rfl ?_ ?_<;>intro ht)|(refine ybx rfl ?_ ?_<;>intro ht)))
      refine nx_round (P' ++ V', W, X, Q') ⟨by rw [← htg, hUs]; simp, oW, oX, by show 0 < W.length; omega, by show 0 < X.length; omega, by show (P' ++ V').length + W.length = m; simp; omega, by show m + X.length + Q'.length = n; omega⟩ (by show W.length + X.length < U'.length + V'.length; omega) (by repeat' (first | exact Sub.nil | refine Sub.cons rfl rfl ?_ | refine Sub.cons rfl (congrArg (Value.int .i64) (by show (_ : Int) = ((_ : Nat) : Int); dsimp only; omega)) ?_)) (fun _ s => ?_)
      simpa using s
    · have hVs : V' = V'.take (V'.length - U'.length) ++ V'.drop (V'.length - U'.length) := (List.take_append_drop ..).symm
      have hW : (V'.take (V'.length - U'.length)).length = V'.length - U'.length := by simp
      have hY : (V'.drop (V'.length - U'.length)).length = U'.length := by simp; omega
      generalize V'.take (V'.length - U'.length) = W at hVs hW
      generalize V'.drop (V'.length - U'.length) = Y at hVs hY
      obtain ⟨oW, oY⟩ := Ones.app.1 (hVs ▸ o2)
      repeat' (first|(refine ycf ?_;apply ybk;(·first|(exact tk_));(·rfl);(·rfl))|(first|(refine rx_rowstore 0 rfl rfl rfl (sbc_sz y) (by rw [sbc_sz];omega) (sbc_one hy1.1 hy1.2) (spl_flat (j := a + i) (by omega) (by omega)) rfl rfl ?_ ?_ ?_;(·(first|exact ybf|(refine .inl ?_;(first|exact row_part (gy x) (by omega)|exact row_part gy' (by omega)))|exact to_));(·(first|exact ybf|(refine .inl ?_;(first|exact row_part (gy x) (by omega)|exact row_part gy' (by omega)))|exact to_)))|(refine rx_rowstore 0 rfl rfl rfl (sbc_sz x) (by rw [sbc_sz];omega) (sbc_one hx1.1 hx1.2) (spl_flat (j := b + i) (by omega) (by rw [List.length_set];omega)) rfl rfl ?_ ?_ ?_;(·(first|exact ybf|(refine .inl ?_;(first|exact row_part (gy x) (by omega)|exact row_part gy' (by omega)))|exact to_));(·(first|exact ybf|(refine .inl ?_;(first|exact row_part (gy x) (by omega)|exact row_part gy' (by omega)))|exact to_))))|refine t1_ ?_|(refine ta_ ?_;intro _)|((fail_if_success (refine ybi rfl ?_));refine ybj rfl ?_ ?_<;>(intro ht;rw [ht];first|replace ht := of_decide_eq_true ht|replace ht := of_decide_eq_false ht|skip))|(refine ych ?_;first|(refine ybw rfl ?_ ?_<;>intro ht)|(refine ybx rfl ?_ ?_<;>intro ht)))
      (refine rx_call_m (ycp Try.func101 rfl (by kernel_rfl) rfl) (perm_at (k := 0) rfl) (swapR_i g cap n P'.length (m + V'.length - U'.length) U'.length _ _ _ (by omega) (by omega) (by omega) P' U' W Y Q' _ (by rw [hVs]; simp) rfl rfl (by omega) hY (by omega) hn62 o1 oY h) rfl rfl rfl ?_ ?_ ?_; (· (first | exact ybf | (refine .inl ?_; (first | exact row_part (gy x) (by omega) | exact row_part gy' (by omega))) | exact to_)); (· intro _ _ hle; (first | exact ybf | (refine .inl ?_; (first | exact row_part (gy x) (by omega) | exact row_part gy' (by omega))) | exact to_)); intro x px hle)
      repeat' (first|(refine ycf ?_;apply ybk;(·first|(exact tk_));(·rfl);(·rfl))|(first|(refine rx_rowstore 0 rfl rfl rfl (sbc_sz y) (by rw [sbc_sz];omega) (sbc_one hy1.1 hy1.2) (spl_flat (j := a + i) (by omega) (by omega)) rfl rfl ?_ ?_ ?_;(·(first|exact ybf|(refine .inl ?_;(first|exact row_part (gy x) (by omega)|exact row_part gy' (by omega)))|exact to_));(·(first|exact ybf|(refine .inl ?_;(first|exact row_part (gy x) (by omega)|exact row_part gy' (by omega)))|exact to_)))|(refine rx_rowstore 0 rfl rfl rfl (sbc_sz x) (by rw [sbc_sz];omega) (sbc_one hx1.1 hx1.2) (spl_flat (j := b + i) (by omega) (by rw [List.length_set];omega)) rfl rfl ?_ ?_ ?_;(·(first|exact ybf|(refine .inl ?_;(first|exact row_part (gy x) (by omega)|exact row_part gy' (by omega)))|exact to_));(·(first|exact ybf|(refine .inl ?_;(first|exact row_part (gy x) (by omega)|exact row_part gy' (by omega)))|exact to_))))|refine t1_ ?_|(refine ta_ ?_;intro _)|((fail_if_success (refine ybi rfl ?_));refine ybj rfl ?_ ?_<;>(intro ht;rw [ht];first|replace ht := of_decide_eq_true ht|replace ht := of_decide_eq_false ht|skip))|(refine ych ?_;first|(refine ybw rfl ?_ ?_<;>intro ht)|(refine ybx rfl ?_ ?_<;>intro ht)))
      refine nx_round (P', Y, W, U' ++ Q') ⟨by rw [← htg, hVs]; simp, oY, oW, by show 0 < Y.length; omega, by show 0 < W.length; omega, by show P'.length + Y.length = m; omega, by show m + W.length + (U' ++ Q').length = n; simp; omega⟩ (by show Y.length + W.length < U'.length + V'.length; omega) (by repeat' (first | exact Sub.nil | refine Sub.cons rfl rfl ?_ | refine Sub.cons rfl (congrArg (Value.int .i64) (by show (_ : Int) = ((_ : Nat) : Int); dsimp only; omega)) ?_)) (fun _ s => ?_)
      simpa using s
theorem rotate_i (g cap n a m b : Nat) (ia im ib : Int) (e1 : ia = a) (e2 : im = m) (e3 : ib = b) (P U V Q l : List Sb) (hl : l = P ++ (U ++ (V ++ Q))) (hP : P.length = a) (hU : a + U.length = m) (hV : m + V.length = b) (hn : b + Q.length = n) (hn62 : n ≤ 1000000) (hu : 0 < U.length) (hv : 0 < V.length) (h1 : Ones U) (h2 : Ones V) (h : View) (w : World)
    (s : St ⟨w, h, doms [rowS g cap n l]⟩ h [rowS g cap n l] w) :
    Calls Try.prog 98 [.slice (some ⟨g, 0, none⟩) n cap, .int .i64 ia, .int .i64 im, .int .i64 ib, ordV].toArray w fun e w' => ∃ x : Value, e = .returned x ∧ St ⟨w, h, doms [rowS g cap n l]⟩ h [rowS g cap n (P ++ (V ++ (U ++ Q)))] w' ∧ True := by
  subst e1 e2 e3 hl
  exact rotate_sp g cap n a m b P U V Q hP hU hV hn hn62 hu hv h1 h2 h w s
end Go.Proofs.Ytkkjppeaaicgaaa
end

section
namespace Go.Proofs.Ytkkjppeaaicgaaa
open Go Go.Ck
set_option maxRecDepth 100000
set_option maxHeartbeats 4000000
set_option linter.unusedVariables false

theorem insL_up {P S Q : List Sb} {x y : Sb} {t : Nat} (hy : S[t]? = some y) : ((insL P S Q x t).set (P.length + t) y).set (P.length + t + 1) x = insL P S Q x (t + 1) := by
  obtain ⟨hyl, rfl⟩ := List.getElem?_eq_some_iff.1 hy
  have e1 : S.take (t + 1) = S.take t ++ [S[t]] := List.take_succ_eq_append_getElem (by omega)
  have e2 : S.drop t = S[t] :: S.drop (t + 1) := List.drop_eq_getElem_cons (by omega)
  have e3 : (P ++ S.take t).length = P.length + t := by simp; omega
  have e4 : insL P S Q x (t + 1) = (P ++ S.take t) ++ (S[t] :: x :: (S.drop (t + 1) ++ Q)) := by
    unfold insL; rw [e1]; simp only [List.append_assoc, List.singleton_append]
  have e5 : insL P S Q x t = (P ++ S.take t) ++ (x :: S[t] :: (S.drop (t + 1) ++ Q)) := by
    unfold insL; simp only [e2, List.append_assoc, List.cons_append]
  have h := swp_far (A := P ++ S.take t) (B := []) (C := S.drop (t + 1) ++ Q) (x := x) (y := S[t])
  rw [e3] at h
  rw [e5, e4]
  exact h
theorem insL_z {P S Q : List Sb} {x y : Sb} {t : Nat} (hy : S[t]? = some y) : (insL P S Q x t)[P.length + t + 1]? = some y := by
  obtain ⟨hyl, rfl⟩ := List.getElem?_eq_some_iff.1 hy
  have e2 : S.drop t = S[t] :: S.drop (t + 1) := List.drop_eq_getElem_cons (by omega)
  unfold insL
  rw [List.getElem?_append_right (by omega), List.getElem?_append_right (by simp; omega), e2]
  have : P.length + t + 1 - P.length - (S.take t).length = 1 := by simp; omega
  rw [this]; rfl
theorem sort_at {S : List Sb} {i j : Nat} {x y : Sb} (hs : SortS S) (hx : S[i]? = some x) (hy : S[j]? = some y) (hij : i ≤ j) : ordD x.d y.d ≤ 0 := by
  obtain ⟨h1, rfl⟩ := List.getElem?_eq_some_iff.1 hx
  obtain ⟨h2, rfl⟩ := List.getElem?_eq_some_iff.1 hy
  by_cases e : i = j
  · subst e
    have := ord_self S[i].d
    rw [ord_le]; exact this
  · exact List.pairwise_iff_getElem.1 hs i j h1 h2 (by omega)
theorem ord_lt_le {x y z : Dt} (h1 : ordD x y ≤ 0) (h2 : ordD y z < 0) : ordD x z < 0 := by
  rw [ord_le] at h1
  rw [ord_iff] at *
  omega
theorem ord_le_ltx {x y z : Dt} (h1 : ordD x y < 0) (h2 : ordD y z ≤ 0) : ordD x z < 0 := by
  rw [ord_le] at h2
  rw [ord_iff] at *
  omega
/-- a smaller one that moves up a sorted part -/
theorem up_kf {S : List Sb} {x : Sb} {t : Nat} (hlo : ∀ y ∈ S.take t, ordD y.d x.d < 0) : KF (x :: S) (S.take t ++ (x :: S.drop t)) := by
  have h1 : x :: S = (x :: S.take t) ++ S.drop t := by rw [List.cons_append, List.take_append_drop]
  have h2 : S.take t ++ (x :: S.drop t) = (S.take t ++ [x]) ++ S.drop t := by simp
  rw [h1, h2]
  exact (KF.move fun y hy e => ord_self x.d (by have := hlo y hy; rwa [e] at this)).symm.app (KF.refl _)
theorem mid_sort {S : List Sb} {x : Sb} {t : Nat} (hs : SortS S) (hlo : ∀ y ∈ S.take t, ordD y.d x.d ≤ 0) (hup : ∀ y ∈ S.drop t, ordD x.d y.d ≤ 0) : SortS (S.take t ++ (x :: S.drop t)) := by
  have h1 : SortS (S.take t ++ S.drop t) := by rw [List.take_append_drop]; exact hs
  obtain ⟨q1, q2, q3⟩ := List.pairwise_append.1 h1
  refine List.pairwise_append.2 ⟨q1, List.pairwise_cons.2 ⟨fun y hy => hup y hy, q2⟩, fun z hz y hy => ?_⟩
  rcases List.mem_cons.1 hy with rfl | hy
  · exact hlo z hz
  · exact q3 z hz y hy

theorem half {i j q : Nat} (hq : q = (i + j) / 2) : ((i : Int) + (j : Int)).fdiv (2 ^ 1) = (q : Int) := by
  rw [show (2 : Int) ^ 1 = 2 from rfl, Int.fdiv_eq_ediv_of_nonneg _ (by decide)]
  omega

theorem symm1_sp (g cap n a m b : Nat) (P : List Sb) (x : Sb) (B Q : List Sb) (hP : P.length = a) (hA : a + 1 = m) (hB : m + B.length = b) (hn : b + Q.length = n) (hn62 : n ≤ 1000000) (sB : SortS B) (ox : x.mv.oneCell' = true ∧ x.bv.oneCell' = true) (oB : Ones B) (h : View) (w : World)
    (s : St ⟨w, h, doms [rowS g cap n (P ++ (x :: (B ++ Q)))]⟩ h [rowS g cap n (P ++ (x :: (B ++ Q)))] w) :
    Calls Try.prog 87 [.slice (some ⟨g, 0, none⟩) n cap, .int .i64 a, .int .i64 m, .int .i64 b, ordV].toArray w fun e w' => ∃ y : Value × List Sb, e = .returned y.1 ∧ St ⟨w, h, doms [rowS g cap n (P ++ (x :: (B ++ Q)))]⟩ h [rowS g cap n (P ++ (y.2 ++ Q))] w' ∧ KF (x :: B) y.2 ∧ SortS y.2 := by
  have hxl := sbc_len x
  have hrow : P ++ (x :: (B ++ Q)) = insL P B Q x 0 := by simp [insL]
  have hgx : (P ++ (x :: (B ++ Q)))[a]? = some x := by rw [← hP]; simp
  have helx := fun (L : List Res) (c : Cells h L ⟨g, 0, none⟩ ((P ++ (x :: (B ++ Q))).flatMap sbc)) => row_el c hgx (show ((a : Int)).toNat = a by omega)
  refine calls_enter Try.func87 rfl Try.ntmps87 rfl s ?_
  repeat' (first | (refine ycf ?_; apply ybk; (· first | (exact tk_)); (· rfl); (· rfl)) | refine t1_ ?_ | (refine ta_ ?_; intro _) | ((fail_if_success (refine ybi rfl ?_)); refine ybj rfl ?_ ?_ <;> (intro ht; rw [ht]; first | replace ht := of_decide_eq_true ht | replace ht := of_decide_eq_false ht | skip)) | (refine ych ?_; first | (refine ybw rfl ?_ ?_ <;> intro ht) | (refine ybx rfl ?_ ?_ <;> intro ht)))
  refine cx_loop (X := Nat × Nat) (fun y => [(0, .slice (some ⟨g, 0, none⟩) n cap), (1, .int .i64 a), (4, ordV), (10, .int .i64 (y.1 : Nat)), (11, .int .i64 (y.2 : Nat))]) (fun _ => h) (fun _ => _)
    (fun y => m ≤ y.1 ∧ y.1 ≤ y.2 ∧ y.2 ≤ b ∧ (∀ t e, B[t]? = some e → t < y.1 - m → ordD e.d x.d < 0) ∧ (∀ t e, B[t]? = some e → y.2 - m ≤ t → ¬ ordD e.d x.d < 0)) (fun y => y.2 - y.1) (m, b)
    ⟨Nat.le_refl _, by show m ≤ b; omega, Nat.le_refl _, fun t e _ ht => by dsimp only at ht; omega, fun t e he ht => by have := (List.getElem?_eq_some_iff.1 he).1; dsimp only at ht; omega⟩ ts_ (fun _ s => s) ?_
  rintro ⟨i, j⟩ ⟨hi, hij, hj, hlo, hup⟩
  dsimp only at hi hij hj hlo hup ⊢
  by_cases hlt : i < j
  · obtain ⟨q, hq⟩ : ∃ q, q = (i + j) / 2 := ⟨_, rfl⟩
    obtain ⟨e, he⟩ : ∃ e, B[q - m]? = some e := ⟨_, List.getElem?_eq_getElem (by omega)⟩
    have hge : (P ++ (x :: (B ++ Q)))[q]? = some e := by
      rw [List.getElem?_append_right (by omega), show q - P.length = (q - m) + 1 by omega, List.getElem?_cons_succ, List.getElem?_append_left (by have := (List.getElem?_eq_some_iff.1 he).1; omega), he]
    have hele := fun (L : List Res) (c : Cells h L ⟨g, 0, none⟩ ((P ++ (x :: (B ++ Q))).flatMap sbc)) => row_el c hge (show ((q : Int)).toNat = q by omega)
    have hel := sbc_len e
    repeat' (first|(refine ycf ?_;apply ybk;(·first|(first|exact tk_|(refine qv_convert_int' (kd := .u64) (r := (i : Int) + (j : Int)) rfl (wrap_u64 (by omega) (by omega)))|(exact qv_shr (j := 1) (r := (q : Int)) rfl rfl (half hq) (by decide))|(refine qv_convert_int' (kd := .i64) (r := (q : Int)) rfl (by rw [IntKind.wrap_i64];omega))|(apply yad;(·rfl);(·exact hele _ (row_cells 0 rfl));(·exact hel))|(apply yad;(·rfl);(·exact helx _ (row_cells 0 rfl));(·exact hxl))));(·rfl);(·rfl))|refine t1_ ?_|(refine ta_ ?_;intro _)|((fail_if_success (refine ybi rfl ?_));refine ybj rfl ?_ ?_<;>(intro ht;rw [ht];first|replace ht := of_decide_eq_true ht|replace ht := of_decide_eq_false ht|skip))|(refine ych ?_;first|(refine ybw rfl ?_ ?_<;>intro ht)|(refine ybx rfl ?_ ?_<;>intro ht)))
    refine cx_region_draw' rfl (by kernel_rfl) ?_
    repeat' (refine ycf ?_;(first|(first|(apply ybm;(·(first|(first|exact tk_|(refine qv_convert_int' (kd := .u64) (r := (i : Int) + (j : Int)) rfl (wrap_u64 (by omega) (by omega)))|(exact qv_shr (j := 1) (r := (q : Int)) rfl rfl (half hq) (by decide))|(refine qv_convert_int' (kd := .i64) (r := (q : Int)) rfl (by rw [IntKind.wrap_i64];omega))|(apply yad;(·rfl);(·exact hele _ (row_cells 0 rfl));(·exact hel))|(apply yad;(·rfl);(·exact helx _ (row_cells 0 rfl));(·exact hxl)))|exact tq_));(·rfl);(·rfl);(·(exact th_)))|refine ybl rfl rfl ?_|((fail_if_success (refine ybi rfl ?_));refine ybj rfl ?_ ?_<;>(intro ht;rw [ht];first|replace ht := of_decide_eq_true ht|replace ht := of_decide_eq_false ht|skip))|(refine tb_ ?_ ?_ ?_;(·(exact to_));(·intro _;(exact to_));intro _)|(first|(refine tqs_ ?_ ?_ ?_;(·(exact to_));(·(exact to_))))|(apply ybn;(·(first|(first|exact tk_|(refine qv_convert_int' (kd := .u64) (r := (i : Int) + (j : Int)) rfl (wrap_u64 (by omega) (by omega)))|(exact qv_shr (j := 1) (r := (q : Int)) rfl rfl (half hq) (by decide))|(refine qv_convert_int' (kd := .i64) (r := (q : Int)) rfl (by rw [IntKind.wrap_i64];omega))|(apply yad;(·rfl);(·exact hele _ (row_cells 0 rfl));(·exact hel))|(apply yad;(·rfl);(·exact helx _ (row_cells 0 rfl));(·exact hxl)))|exact tq_));(·rfl);(·rfl);(·rfl);(·(exact to_))))|refine ycg ?_))
    (refine ycn (call_val rfl Try.func32 rfl (by kernel_rfl) rfl) (sorder_sp e x h) rfl rfl rfl ?_ ?_; (· (exact to_)))
    by_cases hO : ordD e.d x.d < 0
    · repeat' (refine ycf ?_;(first|(first|(apply ybm;(·(first|(first|exact tk_|(refine qv_convert_int' (kd := .u64) (r := (i : Int) + (j : Int)) rfl (wrap_u64 (by omega) (by omega)))|(exact qv_shr (j := 1) (r := (q : Int)) rfl rfl (half hq) (by decide))|(refine qv_convert_int' (kd := .i64) (r := (q : Int)) rfl (by rw [IntKind.wrap_i64];omega))|(apply yad;(·rfl);(·exact hele _ (row_cells 0 rfl));(·exact hel))|(apply yad;(·rfl);(·exact helx _ (row_cells 0 rfl));(·exact hxl)))|exact tq_));(·rfl);(·rfl);(·(exact th_)))|refine ybl rfl rfl ?_|((fail_if_success (refine ybi rfl ?_));refine ybj rfl ?_ ?_<;>(intro ht;rw [ht];first|replace ht := of_decide_eq_true ht|replace ht := of_decide_eq_false ht|skip))|(refine tb_ ?_ ?_ ?_;(·(exact to_));(·intro _;(exact to_));intro _)|(first|(refine tqs_ ?_ ?_ ?_;(·(exact to_));(·(exact to_))))|(apply ybn;(·(first|(first|exact tk_|(refine qv_convert_int' (kd := .u64) (r := (i : Int) + (j : Int)) rfl (wrap_u64 (by omega) (by omega)))|(exact qv_shr (j := 1) (r := (q : Int)) rfl rfl (half hq) (by decide))|(refine qv_convert_int' (kd := .i64) (r := (q : Int)) rfl (by rw [IntKind.wrap_i64];omega))|(apply yad;(·rfl);(·exact hele _ (row_cells 0 rfl));(·exact hel))|(apply yad;(·rfl);(·exact helx _ (row_cells 0 rfl));(·exact hxl)))|exact tq_));(·rfl);(·rfl);(·rfl);(·(exact to_))))|refine ycg ?_))
      repeat' (first|(refine ycf ?_;apply ybk;(·first|(first|exact tk_|(refine qv_convert_int' (kd := .u64) (r := (i : Int) + (j : Int)) rfl (wrap_u64 (by omega) (by omega)))|(exact qv_shr (j := 1) (r := (q : Int)) rfl rfl (half hq) (by decide))|(refine qv_convert_int' (kd := .i64) (r := (q : Int)) rfl (by rw [IntKind.wrap_i64];omega))|(apply yad;(·rfl);(·exact hele _ (row_cells 0 rfl));(·exact hel))|(apply yad;(·rfl);(·exact helx _ (row_cells 0 rfl));(·exact hxl))));(·rfl);(·rfl))|refine t1_ ?_|(refine ta_ ?_;intro _)|((fail_if_success (refine ybi rfl ?_));refine ybj rfl ?_ ?_<;>(intro ht;rw [ht];first|replace ht := of_decide_eq_true ht|replace ht := of_decide_eq_false ht|skip))|(refine ych ?_;first|(refine ybw rfl ?_ ?_<;>intro ht)|(refine ybx rfl ?_ ?_<;>intro ht)))
      refine nx_round (q + 1, j) ⟨by show m ≤ q + 1; omega, by show q + 1 ≤ j; omega, hj, fun t z hz ht => ?_, hup⟩ (by show j - (q + 1) < j - i; omega) ts_ (fun _ s => s)
      exact ord_lt_le (sort_at sB hz he (by dsimp only at ht; omega)) hO
    · repeat' (refine ycf ?_;(first|(first|(apply ybm;(·(first|(first|exact tk_|(refine qv_convert_int' (kd := .u64) (r := (i : Int) + (j : Int)) rfl (wrap_u64 (by omega) (by omega)))|(exact qv_shr (j := 1) (r := (q : Int)) rfl rfl (half hq) (by decide))|(refine qv_convert_int' (kd := .i64) (r := (q : Int)) rfl (by rw [IntKind.wrap_i64];omega))|(apply yad;(·rfl);(·exact hele _ (row_cells 0 rfl));(·exact hel))|(apply yad;(·rfl);(·exact helx _ (row_cells 0 rfl));(·exact hxl)))|exact tq_));(·rfl);(·rfl);(·(exact th_)))|refine ybl rfl rfl ?_|((fail_if_success (refine ybi rfl ?_));refine ybj rfl ?_ ?_<;>(intro ht;rw [ht];first|replace ht := of_decide_eq_true ht|replace ht := of_decide_eq_false ht|skip))|(refine tb_ ?_ ?_ ?_;(·(exact to_));(·intro _;(exact to_));intro _)|(first|(refine tqs_ ?_ ?_ ?_;(·(exact to_));(·(exact to_))))|(apply ybn;(·(first|(first|exact tk_|(refine qv_convert_int' (kd := .u64) (r := (i : Int) + (j : Int)) rfl (wrap_u64 (by omega) (by omega)))|(exact qv_shr (j := 1) (r := (q : Int)) rfl rfl (half hq) (by decide))|(refine qv_convert_int' (kd := .i64) (r := (q : Int)) rfl (by rw [IntKind.wrap_i64];omega))|(apply yad;(·rfl);(·exact hele _ (row_cells 0 rfl));(·exact hel))|(apply yad;(·rfl);(·exact helx _ (row_cells 0 rfl));(·exact hxl)))|exact tq_));(·rfl);(·rfl);(·rfl);(·(exact to_))))|refine ycg ?_))
      repeat' (first|(refine ycf ?_;apply ybk;(·first|(first|exact tk_|(refine qv_convert_int' (kd := .u64) (r := (i : Int) + (j : Int)) rfl (wrap_u64 (by omega) (by omega)))|(exact qv_shr (j := 1) (r := (q : Int)) rfl rfl (half hq) (by decide))|(refine qv_convert_int' (kd := .i64) (r := (q : Int)) rfl (by rw [IntKind.wrap_i64];omega))|(apply yad;(·rfl);(·exact hele _ (row_cells 0 rfl));(·exact hel))|(apply yad;(·rfl);(·exact helx _ (row_cells 0 rfl));(·exact hxl))));(·rfl);(·rfl))|refine t1_ ?_|(refine ta_ ?_;intro _)|((fail_if_success (refine ybi rfl ?_));refine ybj rfl ?_ ?_<;>(intro ht;rw [ht];first|replace ht := of_decide_eq_true ht|replace ht := of_decide_eq_false ht|skip))|(refine ych ?_;first|(refine ybw rfl ?_ ?_<;>intro ht)|(refine ybx rfl ?_ ?_<;>intro ht)))
      refine nx_round (i, q) ⟨hi, by show i ≤ q; omega, by show q ≤ b; omega, hlo, fun t z hz ht hz2 => ?_⟩ (by show q - i < j - i; omega) ts_ (fun _ s => s)
      exact hO (ord_lt_le (sort_at sB he hz (by dsimp only at ht; omega)) hz2)
  · have hij' : i = j := by omega
    subst hij'
    repeat' (first | (refine ycf ?_; apply ybk; (· first | (exact tk_)); (· rfl); (· rfl)) | refine t1_ ?_ | (refine ta_ ?_; intro _) | ((fail_if_success (refine ybi rfl ?_)); refine ybj rfl ?_ ?_ <;> (intro ht; rw [ht]; first | replace ht := of_decide_eq_true ht | replace ht := of_decide_eq_false ht | skip)) | (refine ych ?_; first | (refine ybw rfl ?_ ?_ <;> intro ht) | (refine ybx rfl ?_ ?_ <;> intro ht)))
    obtain ⟨u0, hu0⟩ : ∃ u0, u0 = i - m := ⟨_, rfl⟩
    have hkf : KF (x :: B) (B.take u0 ++ (x :: B.drop u0)) := up_kf fun y hy => by
      obtain ⟨t, ht, rfl⟩ := List.getElem_of_mem hy
      rw [List.getElem_take]
      exact hlo t _ (List.getElem?_eq_getElem (by simp at ht; omega)) (by simp at ht; omega)
    have hst : SortS (B.take u0 ++ (x :: B.drop u0)) := mid_sort sB (fun y hy => by
      obtain ⟨t, ht, rfl⟩ := List.getElem_of_mem hy
      rw [List.getElem_take]
      exact ord_le_lt (hlo t _ (List.getElem?_eq_getElem (by simp at ht; omega)) (by simp at ht; omega))) (fun y hy => by
      obtain ⟨t, ht, rfl⟩ := List.getElem_of_mem hy
      rw [List.getElem_drop]
      exact ord_le.2 (hup (u0 + t) _ (List.getElem?_eq_getElem (by simp at ht; omega)) (by omega)))
    refine cx_loop (X := Nat) (fun u => [(0, .slice (some ⟨g, 0, none⟩) n cap), (10, .int .i64 (i : Nat)), (13, .int .i64 (a + u : Nat))]) (fun _ => h) (fun u => [rowS g cap n (insL P B Q x u)])
      (fun u => u ≤ u0) (fun u => u0 - u) 0 (Nat.zero_le _) ts_ (fun _ s => by rw [← hrow]; exact s) ?_
    intro u hu
    have hln : (insL P B Q x u).length = n := by rw [insL_len (by omega)]; omega
    by_cases hu1 : u < u0
    · obtain ⟨y, hy⟩ : ∃ y, B[u]? = some y := ⟨_, List.getElem?_eq_getElem (by omega)⟩
      have hyl := sbc_len y
      have hy1 := oB y (List.mem_of_getElem? hy)
      have gx := insL_x (P := P) (S := B) (Q := Q) (x := x) (t := u) (by omega)
      have gy := insL_z (P := P) (Q := Q) (x := x) hy
      have gy' : ((insL P B Q x u).set (P.length + u) y)[P.length + u + 1]? = some y := by rw [List.getElem?_set_ne (by omega)]; exact gy
      have hsw := insL_up (P := P) (Q := Q) (x := x) hy
      have hel := fun (L : List Res) (c : Cells h L ⟨g, 0, none⟩ ((insL P B Q x u).flatMap sbc)) => row_el c gx (show ((a + u : Nat) : Int).toNat = P.length + u by omega)
      repeat' (first | (refine ycf ?_; apply ybk; (· first | (exact tk_)); (· rfl); (· rfl)) | refine t1_ ?_ | (refine ta_ ?_; intro _) | ((fail_if_success (refine ybi rfl ?_)); refine ybj rfl ?_ ?_ <;> (intro ht; rw [ht]; first | replace ht := of_decide_eq_true ht | replace ht := of_decide_eq_false ht | skip)) | (refine ych ?_; first | (refine ybw rfl ?_ ?_ <;> intro ht) | (refine ybx rfl ?_ ?_ <;> intro ht)))
      refine cx_region_drawL [Res.part g (0 + (((a + u : Nat) : Int) + 1).toNat * 20) (.int .i64 y.d.1) (sbc y).tail] [13] rfl (by kernel_rfl) ?_
      repeat' (refine ycf ?_;(first|(first|(apply ybm;(·(first|(first|exact tk_|(apply yad;(·rfl);(·exact (show Cells _ _ _ (sbc y) from part_cells 0 rfl));(·exact hyl))|(apply yad;(·rfl);(·exact hel _ (row_cells 0 rfl));(·exact hxl)))|exact tq_));(·rfl);(·rfl);(·(first|exact row_part gy (by omega)|exact row_part gy' (by omega))))|refine ybl rfl rfl ?_|((fail_if_success (refine ybi rfl ?_));refine ybj rfl ?_ ?_<;>(intro ht;rw [ht];first|replace ht := of_decide_eq_true ht|replace ht := of_decide_eq_false ht|skip))|(refine tb_ ?_ ?_ ?_;(·(first|exact ybf|(refine .inl ?_;(first|exact row_part gy (by omega)|exact row_part gy' (by omega)))|exact to_));(·intro _;(first|exact ybf|(refine .inl ?_;(first|exact row_part gy (by omega)|exact row_part gy' (by omega)))|exact to_));intro _)|(first|(first|(refine rx_rowstore 0 rfl rfl rfl (sbc_sz y) (by rw [sbc_sz];omega) (sbc_one hy1.1 hy1.2) (spl_flat (j := P.length + u) (by omega) (by omega)) rfl rfl ?_ ?_ ?_;(·(first|exact ybf|(refine .inl ?_;(first|exact row_part gy (by omega)|exact row_part gy' (by omega)))|exact to_));(·(first|exact ybf|(refine .inl ?_;(first|exact row_part gy (by omega)|exact row_part gy' (by omega)))|exact to_)))|(refine rx_rowstore 0 rfl rfl rfl (sbc_sz x) (by rw [sbc_sz];omega) (sbc_one ox.1 ox.2) (spl_flat (j := P.length + u + 1) (by omega) (by rw [List.length_set];omega)) rfl rfl ?_ ?_ ?_;(·(first|exact ybf|(refine .inl ?_;(first|exact row_part gy (by omega)|exact row_part gy' (by omega)))|exact to_));(·(first|exact ybf|(refine .inl ?_;(first|exact row_part gy (by omega)|exact row_part gy' (by omega)))|exact to_))))|(refine tqs_ ?_ ?_ ?_;(·(first|exact ybf|(refine .inl ?_;(first|exact row_part gy (by omega)|exact row_part gy' (by omega)))|exact to_));(·(first|exact ybf|(refine .inl ?_;(first|exact row_part gy (by omega)|exact row_part gy' (by omega)))|exact to_))))|(apply ybn;(·(first|(first|exact tk_|(apply yad;(·rfl);(·exact (show Cells _ _ _ (sbc y) from part_cells 0 rfl));(·exact hyl))|(apply yad;(·rfl);(·exact hel _ (row_cells 0 rfl));(·exact hxl)))|exact tq_));(·rfl);(·rfl);(·rfl);(·(first|exact ybf|(refine .inl ?_;(first|exact row_part gy (by omega)|exact row_part gy' (by omega)))|exact to_))))|refine ycg ?_))
      rw [hsw]
      repeat' (first|(refine ycf ?_;apply ybk;(·first|(first|exact tk_|(apply yad;(·rfl);(·exact (show Cells _ _ _ (sbc y) from part_cells 0 rfl));(·exact hyl))|(apply yad;(·rfl);(·exact hel _ (row_cells 0 rfl));(·exact hxl))));(·rfl);(·rfl))|(first|(refine rx_rowstore 0 rfl rfl rfl (sbc_sz y) (by rw [sbc_sz];omega) (sbc_one hy1.1 hy1.2) (spl_flat (j := P.length + u) (by omega) (by omega)) rfl rfl ?_ ?_ ?_;(·(first|exact ybf|(refine .inl ?_;(first|exact row_part gy (by omega)|exact row_part gy' (by omega)))|exact to_));(·(first|exact ybf|(refine .inl ?_;(first|exact row_part gy (by omega)|exact row_part gy' (by omega)))|exact to_)))|(refine rx_rowstore 0 rfl rfl rfl (sbc_sz x) (by rw [sbc_sz];omega) (sbc_one ox.1 ox.2) (spl_flat (j := P.length + u + 1) (by omega) (by rw [List.length_set];omega)) rfl rfl ?_ ?_ ?_;(·(first|exact ybf|(refine .inl ?_;(first|exact row_part gy (by omega)|exact row_part gy' (by omega)))|exact to_));(·(first|exact ybf|(refine .inl ?_;(first|exact row_part gy (by omega)|exact row_part gy' (by omega)))|exact to_))))|refine t1_ ?_|(refine ta_ ?_;intro _)|((fail_if_success (refine ybi rfl ?_));refine ybj rfl ?_ ?_<;>(intro ht;rw [ht];first|replace ht := of_decide_eq_true ht|replace ht := of_decide_eq_false ht|skip))|(refine ych ?_;first|(refine ybw rfl ?_ ?_<;>intro ht)|(refine ybx rfl ?_ ?_<;>intro ht)))
      exact nx_round (u + 1) (by omega) (by omega) (by repeat' (first | exact Sub.nil | refine Sub.cons rfl rfl ?_ | refine Sub.cons rfl (congrArg (Value.int .i64) (by omega)) ?_)) (fun _ s => s)
    · have hu2 : u = u0 := by omega
      subst hu2
      repeat' (first|(refine ycf ?_;apply ybk;(·first|(exact tk_));(·rfl);(·rfl))|(first|(refine rx_rowstore 0 rfl rfl rfl (sbc_sz y) (by rw [sbc_sz];omega) (sbc_one hy1.1 hy1.2) (spl_flat (j := P.length + u) (by omega) (by omega)) rfl rfl ?_ ?_ ?_;(·(first|exact ybf|(refine .inl ?_;(first|exact row_part gy (by omega)|exact row_part gy' (by omega)))|exact to_));(·(first|exact ybf|(refine .inl ?_;(first|exact row_part gy (by omega)|exact row_part gy' (by omega)))|exact to_)))|(refine rx_rowstore 0 rfl rfl rfl (sbc_sz x) (by rw [sbc_sz];omega) (sbc_one ox.1 ox.2) (spl_flat (j := P.length + u + 1) (by omega) (by rw [List.length_set];omega)) rfl rfl ?_ ?_ ?_;(·(first|exact ybf|(refine .inl ?_;(first|exact row_part gy (by omega)|exact row_part gy' (by omega)))|exact to_));(·(first|exact ybf|(refine .inl ?_;(first|exact row_part gy (by omega)|exact row_part gy' (by omega)))|exact to_))))|refine t1_ ?_|(refine ta_ ?_;intro _)|((fail_if_success (refine ybi rfl ?_));refine ybj rfl ?_ ?_<;>(intro ht;rw [ht];first|replace ht := of_decide_eq_true ht|replace ht := of_decide_eq_false ht|skip))|(refine ych ?_;first|(refine ybw rfl ?_ ?_<;>intro ht)|(refine ybx rfl ?_ ?_<;>intro ht)))
      refine nx_ret0 rfl (fun w' s' => ⟨(_, B.take u ++ (x :: B.drop u)), rfl, ?_, hkf, hst⟩)
      have e : P ++ ((B.take u ++ (x :: B.drop u)) ++ Q) = insL P B Q x u := by simp [insL]
      rw [e]
      exact s'
end Go.Proofs.Ytkkjppeaaicgaaa
end

section
namespace Go.Proofs.Ytkkjppeaaicgaaa
open Go Go.Ck
set_option maxRecDepth 100000
set_option maxHeartbeats 4000000
set_option linter.unusedVariables false

theorem symm2_sp (g cap n a m b : Nat) (P A : List Sb) (x : Sb) (Q : List Sb) (hP : P.length = a) (hA : a + A.length = m) (hA2 : 1 < A.length) (hB : m + 1 = b) (hn : b + Q.length = n) (hn62 : n ≤ 1000000) (sA : SortS A) (ox : x.mv.oneCell' = true ∧ x.bv.oneCell' = true) (oA : Ones A) (h : View) (w : World)
    (s : St ⟨w, h, doms [rowS g cap n (P ++ (A ++ (x :: Q)))]⟩ h [rowS g cap n (P ++ (A ++ (x :: Q)))] w) :
    Calls Try.prog 87 [.slice (some ⟨g, 0, none⟩) n cap, .int .i64 a, .int .i64 m, .int .i64 b, ordV].toArray w fun e w' => ∃ y : Value × List Sb, e = .returned y.1 ∧ St ⟨w, h, doms [rowS g cap n (P ++ (A ++ (x :: Q)))]⟩ h [rowS g cap n (P ++ (y.2 ++ Q))] w' ∧ KF (A ++ [x]) y.2 ∧ SortS y.2 := by
  have hxl := sbc_len x
  have hrow : P ++ (A ++ (x :: Q)) = insL P A Q x A.length := by simp [insL]
  have hgx : (P ++ (A ++ (x :: Q)))[m]? = some x := by rw [hrow, ← hA, ← hP]; exact insL_x (Nat.le_refl _)
  have helx := fun (L : List Res) (c : Cells h L ⟨g, 0, none⟩ ((P ++ (A ++ (x :: Q))).flatMap sbc)) => row_el c hgx (show ((m : Int)).toNat = m by omega)
  refine calls_enter Try.func87 rfl Try.ntmps87 rfl s ?_
  repeat' (first | (refine ycf ?_; apply ybk; (· first | (exact tk_)); (· rfl); (· rfl)) | refine t1_ ?_ | (refine ta_ ?_; intro _) | ((fail_if_success (refine ybi rfl ?_)); refine ybj rfl ?_ ?_ <;> (intro ht; rw [ht]; first | replace ht := of_decide_eq_true ht | replace ht := of_decide_eq_false ht | skip)) | (refine ych ?_; first | (refine ybw rfl ?_ ?_ <;> intro ht) | (refine ybx rfl ?_ ?_ <;> intro ht)))
  refine cx_loop (X := Nat × Nat) (fun y => [(0, .slice (some ⟨g, 0, none⟩) n cap), (1, .int .i64 a), (2, .int .i64 m), (4, ordV), (14, .int .i64 (y.1 : Nat)), (15, .int .i64 (y.2 : Nat))]) (fun _ => h) (fun _ => _)
    (fun y => a ≤ y.1 ∧ y.1 ≤ y.2 ∧ y.2 ≤ m ∧ (∀ t e, A[t]? = some e → t < y.1 - a → ¬ ordD x.d e.d < 0) ∧ (∀ t e, A[t]? = some e → y.2 - a ≤ t → ordD x.d e.d < 0)) (fun y => y.2 - y.1) (a, m)
    ⟨Nat.le_refl _, by show a ≤ m; omega, Nat.le_refl _, fun t e _ ht => by dsimp only at ht; omega, fun t e he ht => by have := (List.getElem?_eq_some_iff.1 he).1; dsimp only at ht; omega⟩ ts_ (fun _ s => s) ?_
  rintro ⟨i, j⟩ ⟨hi, hij, hj, hlo, hup⟩
  dsimp only at hi hij hj hlo hup ⊢
  by_cases hlt : i < j
  · obtain ⟨q, hq⟩ : ∃ q, q = (i + j) / 2 := ⟨_, rfl⟩
    obtain ⟨e, he⟩ : ∃ e, A[q - a]? = some e := ⟨_, List.getElem?_eq_getElem (by omega)⟩
    have hge : (P ++ (A ++ (x :: Q)))[q]? = some e := by
      rw [List.getElem?_append_right (by omega), hP, List.getElem?_append_left (by have := (List.getElem?_eq_some_iff.1 he).1; omega), he]
    have hele := fun (L : List Res) (c : Cells h L ⟨g, 0, none⟩ ((P ++ (A ++ (x :: Q))).flatMap sbc)) => row_el c hge (show ((q : Int)).toNat = q by omega)
    have hel := sbc_len e
    repeat' (first|(refine ycf ?_;apply ybk;(·first|(first|exact tk_|(refine qv_convert_int' (kd := .u64) (r := (i : Int) + (j : Int)) rfl (wrap_u64 (by omega) (by omega)))|(exact qv_shr (j := 1) (r := (q : Int)) rfl rfl (half hq) (by decide))|(refine qv_convert_int' (kd := .i64) (r := (q : Int)) rfl (by rw [IntKind.wrap_i64];omega))|(apply yad;(·rfl);(·exact helx _ (row_cells 0 rfl));(·exact hxl))|(apply yad;(·rfl);(·exact hele _ (row_cells 0 rfl));(·exact hel))));(·rfl);(·rfl))|refine t1_ ?_|(refine ta_ ?_;intro _)|((fail_if_success (refine ybi rfl ?_));refine ybj rfl ?_ ?_<;>(intro ht;rw [ht];first|replace ht := of_decide_eq_true ht|replace ht := of_decide_eq_false ht|skip))|(refine ych ?_;first|(refine ybw rfl ?_ ?_<;>intro ht)|(refine ybx rfl ?_ ?_<;>intro ht)))
    refine cx_region_draw' rfl (by kernel_rfl) ?_
    repeat' (refine ycf ?_;(first|(first|(apply ybm;(·(first|(first|exact tk_|(refine qv_convert_int' (kd := .u64) (r := (i : Int) + (j : Int)) rfl (wrap_u64 (by omega) (by omega)))|(exact qv_shr (j := 1) (r := (q : Int)) rfl rfl (half hq) (by decide))|(refine qv_convert_int' (kd := .i64) (r := (q : Int)) rfl (by rw [IntKind.wrap_i64];omega))|(apply yad;(·rfl);(·exact helx _ (row_cells 0 rfl));(·exact hxl))|(apply yad;(·rfl);(·exact hele _ (row_cells 0 rfl));(·exact hel)))|exact tq_));(·rfl);(·rfl);(·(exact th_)))|refine ybl rfl rfl ?_|((fail_if_success (refine ybi rfl ?_));refine ybj rfl ?_ ?_<;>(intro ht;rw [ht];first|replace ht := of_decide_eq_true ht|replace ht := of_decide_eq_false ht|skip))|(refine tb_ ?_ ?_ ?_;(·(exact to_));(·intro _;(exact to_));intro _)|(first|(refine tqs_ ?_ ?_ ?_;(·(exact to_));(·(exact to_))))|(apply ybn;(·(first|(first|exact tk_|(refine qv_convert_int' (kd := .u64) (r := (i : Int) + (j : Int)) rfl (wrap_u64 (by omega) (by omega)))|(exact qv_shr (j := 1) (r := (q : Int)) rfl rfl (half hq) (by decide))|(refine qv_convert_int' (kd := .i64) (r := (q : Int)) rfl (by rw [IntKind.wrap_i64];omega))|(apply yad;(·rfl);(·exact helx _ (row_cells 0 rfl));(·exact hxl))|(apply yad;(·rfl);(·exact hele _ (row_cells 0 rfl));(·exact hel)))|exact tq_));(·rfl);(·rfl);(·rfl);(·(exact to_))))|refine ycg ?_))
    (refine ycn (call_val rfl Try.func32 rfl (by kernel_rfl) rfl) (sorder_sp x e h) rfl rfl rfl ?_ ?_; (· (exact to_)))
    by_cases hO : ordD x.d e.d < 0
    · repeat' (refine ycf ?_;(first|(first|(apply ybm;(·(first|(first|exact tk_|(refine qv_convert_int' (kd := .u64) (r := (i : Int) + (j : Int)) rfl (wrap_u64 (by omega) (by omega)))|(exact qv_shr (j := 1) (r := (q : Int)) rfl rfl (half hq) (by decide))|(refine qv_convert_int' (kd := .i64) (r := (q : Int)) rfl (by rw [IntKind.wrap_i64];omega))|(apply yad;(·rfl);(·exact helx _ (row_cells 0 rfl));(·exact hxl))|(apply yad;(·rfl);(·exact hele _ (row_cells 0 rfl));(·exact hel)))|exact tq_));(·rfl);(·rfl);(·(exact th_)))|refine ybl rfl rfl ?_|((fail_if_success (refine ybi rfl ?_));refine ybj rfl ?_ ?_<;>(intro ht;rw [ht];first|replace ht := of_decide_eq_true ht|replace ht := of_decide_eq_false ht|skip))|(refine tb_ ?_ ?_ ?_;(·(exact to_));(·intro _;(exact to_));intro _)|(first|(refine tqs_ ?_ ?_ ?_;(·(exact to_));(·(exact to_))))|(apply ybn;(·(first|(first|exact tk_|(refine qv_convert_int' (kd := .u64) (r := (i : Int) + (j : Int)) rfl (wrap_u64 (by omega) (by omega)))|(exact qv_shr (j := 1) (r := (q : Int)) rfl rfl (half hq) (by decide))|(refine qv_convert_int' (kd := .i64) (r := (q : Int)) rfl (by rw [IntKind.wrap_i64];omega))|(apply yad;(·rfl);(·exact helx _ (row_cells 0 rfl));(·exact hxl))|(apply yad;(·rfl);(·exact hele _ (row_cells 0 rfl));(·exact hel)))|exact tq_));(·rfl);(·rfl);(·rfl);(·(exact to_))))|refine ycg ?_))
      repeat' (first|(refine ycf ?_;apply ybk;(·first|(first|exact tk_|(refine qv_convert_int' (kd := .u64) (r := (i : Int) + (j : Int)) rfl (wrap_u64 (by omega) (by omega)))|(exact qv_shr (j := 1) (r := (q : Int)) rfl rfl (half hq) (by decide))|(refine qv_convert_int' (kd := .i64) (r := (q : Int)) rfl (by rw [IntKind.wrap_i64];omega))|(apply yad;(·rfl);(·exact helx _ (row_cells 0 rfl));(·exact hxl))|(apply yad;(·rfl);(·exact hele _ (row_cells 0 rfl));(·exact hel))));(·rfl);(·rfl))|refine t1_ ?_|(refine ta_ ?_;intro _)|((fail_if_success (refine ybi rfl ?_));refine ybj rfl ?_ ?_<;>(intro ht;rw [ht];first|replace ht := of_decide_eq_true ht|replace ht := of_decide_eq_false ht|skip))|(refine ych ?_;first|(refine ybw rfl ?_ ?_<;>intro ht)|(refine ybx rfl ?_ ?_<;>intro ht)))
      refine nx_round (i, q) ⟨hi, by show i ≤ q; omega, by show q ≤ m; omega, hlo, fun t z hz ht => ?_⟩ (by show q - i < j - i; omega) ts_ (fun _ s => s)
      exact ord_le_ltx hO (sort_at sA he hz (by dsimp only at ht; omega))
    · repeat' (refine ycf ?_;(first|(first|(apply ybm;(·(first|(first|exact tk_|(refine qv_convert_int' (kd := .u64) (r := (i : Int) + (j : Int)) rfl (wrap_u64 (by omega) (by omega)))|(exact qv_shr (j := 1) (r := (q : Int)) rfl rfl (half hq) (by decide))|(refine qv_convert_int' (kd := .i64) (r := (q : Int)) rfl (by rw [IntKind.wrap_i64];omega))|(apply yad;(·rfl);(·exact helx _ (row_cells 0 rfl));(·exact hxl))|(apply yad;(·rfl);(·exact hele _ (row_cells 0 rfl));(·exact hel)))|exact tq_));(·rfl);(·rfl);(·(exact th_)))|refine ybl rfl rfl ?_|((fail_if_success (refine ybi rfl ?_));refine ybj rfl ?_ ?_<;>(intro ht;rw [ht];first|replace ht := of_decide_eq_true ht|replace ht := of_decide_eq_false ht|skip))|(refine tb_ ?_ ?_ ?_;(·(exact to_));(·intro _;(exact to_));intro _)|(first|(refine tqs_ ?_ ?_ ?_;(·(exact to_));(·(exact to_))))|(apply ybn;(·(first|(first|exact tk_|(refine qv_convert_int' (kd := .u64) (r := (i : Int) + (j : Int)) rfl (wrap_u64 (by omega) (by omega)))|(exact qv_shr (j := 1) (r := (q : Int)) rfl rfl (half hq) (by decide))|(refine qv_convert_int' (kd := .i64) (r := (q : Int)) rfl (by rw [IntKind.wrap_i64];omega))|(apply yad;(·rfl);(·exact helx _ (row_cells 0 rfl));(·exact hxl))|(apply yad;(·rfl);(·exact hele _ (row_cells 0 rfl));(·exact hel)))|exact tq_));(·rfl);(·rfl);(·rfl);(·(exact to_))))|refine ycg ?_))
      repeat' (first|(refine ycf ?_;apply ybk;(·first|(first|exact tk_|(refine qv_convert_int' (kd := .u64) (r := (i : Int) + (j : Int)) rfl (wrap_u64 (by omega) (by omega)))|(exact qv_shr (j := 1) (r := (q : Int)) rfl rfl (half hq) (by decide))|(refine qv_convert_int' (kd := .i64) (r := (q : Int)) rfl (by rw [IntKind.wrap_i64];omega))|(apply yad;(·rfl);(·exact helx _ (row_cells 0 rfl));(·exact hxl))|(apply yad;(·rfl);(·exact hele _ (row_cells 0 rfl));(·exact hel))));(·rfl);(·rfl))|refine t1_ ?_|(refine ta_ ?_;intro _)|((fail_if_success (refine ybi rfl ?_));refine ybj rfl ?_ ?_<;>(intro ht;rw [ht];first|replace ht := of_decide_eq_true ht|replace ht := of_decide_eq_false ht|skip))|(refine ych ?_;first|(refine ybw rfl ?_ ?_<;>intro ht)|(refine ybx rfl ?_ ?_<;>intro ht)))
      refine nx_round (q + 1, j) ⟨by show a ≤ q + 1; omega, by show q + 1 ≤ j; omega, hj, fun t z hz ht hz2 => ?_, hup⟩ (by show j - (q + 1) < j - i; omega) ts_ (fun _ s => s)
      exact hO (ord_le_ltx hz2 (sort_at sA hz he (by dsimp only at ht; omega)))
  · have hij' : i = j := by omega
    subst hij'
    obtain ⟨u0, hu0⟩ : ∃ u0, u0 = i - a := ⟨_, rfl⟩
    have hkf : KF (A ++ [x]) (A.take u0 ++ (x :: A.drop u0)) := ins_kf fun y hy => by
      obtain ⟨t, ht, rfl⟩ := List.getElem_of_mem hy
      rw [List.getElem_drop]
      exact hup (u0 + t) _ (List.getElem?_eq_getElem (by simp at ht; omega)) (by omega)
    have hst : SortS (A.take u0 ++ (x :: A.drop u0)) := mid_sort sA (fun y hy => by
      obtain ⟨t, ht, rfl⟩ := List.getElem_of_mem hy
      rw [List.getElem_take]
      exact ord_le.2 (hlo t _ (List.getElem?_eq_getElem (by simp at ht; omega)) (by simp at ht; omega))) (fun y hy => by
      obtain ⟨t, ht, rfl⟩ := List.getElem_of_mem hy
      rw [List.getElem_drop]
      exact ord_le_lt (hup (u0 + t) _ (List.getElem?_eq_getElem (by simp at ht; omega)) (by omega)))
    repeat' (first | (refine ycf ?_; apply ybk; (· first | (exact tk_)); (· rfl); (· rfl)) | refine t1_ ?_ | (refine ta_ ?_; intro _) | ((fail_if_success (refine ybi rfl ?_)); refine ybj rfl ?_ ?_ <;> (intro ht; rw [ht]; first | replace ht := of_decide_eq_true ht | replace ht := of_decide_eq_false ht | skip)) | (refine ych ?_; first | (refine ybw rfl ?_ ?_ <;> intro ht) | (refine ybx rfl ?_ ?_ <;> intro ht)))
    refine cx_loop (X := Nat) (fun u => [(0, .slice (some ⟨g, 0, none⟩) n cap), (14, .int .i64 (i : Nat)), (17, .int .i64 (a + u : Nat))]) (fun _ => h) (fun u => [rowS g cap n (insL P A Q x u)])
      (fun u => u0 ≤ u ∧ u ≤ A.length) (fun u => u) A.length ⟨by omega, Nat.le_refl _⟩ (by repeat' (first | exact Sub.nil | refine Sub.cons rfl rfl ?_ | refine Sub.cons rfl (congrArg (Value.int .i64) (by omega)) ?_)) (fun _ s => by rw [← hrow]; exact s) ?_
    rintro u ⟨hu, hu'⟩
    have hln : (insL P A Q x u).length = n := by rw [insL_len (by omega)]; omega
    by_cases hu1 : u0 < u
    · obtain ⟨y, hy⟩ : ∃ y, A[u - 1]? = some y := ⟨_, List.getElem?_eq_getElem (by omega)⟩
      have hyl := sbc_len y
      have hy1 := oA y (List.mem_of_getElem? hy)
      have gx := insL_x (P := P) (S := A) (Q := Q) (x := x) (t := u) (by omega)
      have gy := insL_y (P := P) (Q := Q) (x := x) (by omega) hu' hy
      have gy' : ((insL P A Q x u).set (P.length + u) y)[P.length + u - 1]? = some y := by rw [List.getElem?_set_ne (by omega)]; exact gy
      have hsw := insL_swap (P := P) (Q := Q) (x := x) (by omega) hu' hy
      have hel := fun (L : List Res) (c : Cells h L ⟨g, 0, none⟩ ((insL P A Q x u).flatMap sbc)) => row_el c gx (show ((a + u : Nat) : Int).toNat = P.length + u by omega)
      repeat' (first | (refine ycf ?_; apply ybk; (· first | (exact tk_)); (· rfl); (· rfl)) | refine t1_ ?_ | (refine ta_ ?_; intro _) | ((fail_if_success (refine ybi rfl ?_)); refine ybj rfl ?_ ?_ <;> (intro ht; rw [ht]; first | replace ht := of_decide_eq_true ht | replace ht := of_decide_eq_false ht | skip)) | (refine ych ?_; first | (refine ybw rfl ?_ ?_ <;> intro ht) | (refine ybx rfl ?_ ?_ <;> intro ht)))
      refine cx_region_drawL [Res.part g (0 + (((a + u : Nat) : Int) - 1).toNat * 20) (.int .i64 y.d.1) (sbc y).tail] [13] rfl (by kernel_rfl) ?_
      repeat' (refine ycf ?_;(first|(first|(apply ybm;(·(first|(first|exact tk_|(apply yad;(·rfl);(·exact (show Cells _ _ _ (sbc y) from part_cells 0 rfl));(·exact hyl))|(apply yad;(·rfl);(·exact hel _ (row_cells 0 rfl));(·exact hxl)))|exact tq_));(·rfl);(·rfl);(·(first|exact row_part gy (by omega)|exact row_part gy' (by omega))))|refine ybl rfl rfl ?_|((fail_if_success (refine ybi rfl ?_));refine ybj rfl ?_ ?_<;>(intro ht;rw [ht];first|replace ht := of_decide_eq_true ht|replace ht := of_decide_eq_false ht|skip))|(refine tb_ ?_ ?_ ?_;(·(first|exact ybf|(refine .inl ?_;(first|exact row_part gy (by omega)|exact row_part gy' (by omega)))|exact to_));(·intro _;(first|exact ybf|(refine .inl ?_;(first|exact row_part gy (by omega)|exact row_part gy' (by omega)))|exact to_));intro _)|(first|(first|(refine rx_rowstore 0 rfl rfl rfl (sbc_sz y) (by rw [sbc_sz];omega) (sbc_one hy1.1 hy1.2) (spl_flat (j := P.length + u) (by omega) (by omega)) rfl rfl ?_ ?_ ?_;(·(first|exact ybf|(refine .inl ?_;(first|exact row_part gy (by omega)|exact row_part gy' (by omega)))|exact to_));(·(first|exact ybf|(refine .inl ?_;(first|exact row_part gy (by omega)|exact row_part gy' (by omega)))|exact to_)))|(refine rx_rowstore 0 rfl rfl rfl (sbc_sz x) (by rw [sbc_sz];omega) (sbc_one ox.1 ox.2) (spl_flat (j := P.length + u - 1) (by omega) (by rw [List.length_set];omega)) rfl rfl ?_ ?_ ?_;(·(first|exact ybf|(refine .inl ?_;(first|exact row_part gy (by omega)|exact row_part gy' (by omega)))|exact to_));(·(first|exact ybf|(refine .inl ?_;(first|exact row_part gy (by omega)|exact row_part gy' (by omega)))|exact to_))))|(refine tqs_ ?_ ?_ ?_;(·(first|exact ybf|(refine .inl ?_;(first|exact row_part gy (by omega)|exact row_part gy' (by omega)))|exact to_));(·(first|exact ybf|(refine .inl ?_;(first|exact row_part gy (by omega)|exact row_part gy' (by omega)))|exact to_))))|(apply ybn;(·(first|(first|exact tk_|(apply yad;(·rfl);(·exact (show Cells _ _ _ (sbc y) from part_cells 0 rfl));(·exact hyl))|(apply yad;(·rfl);(·exact hel _ (row_cells 0 rfl));(·exact hxl)))|exact tq_));(·rfl);(·rfl);(·rfl);(·(first|exact ybf|(refine .inl ?_;(first|exact row_part gy (by omega)|exact row_part gy' (by omega)))|exact to_))))|refine ycg ?_))
      rw [hsw]
      repeat' (first|(refine ycf ?_;apply ybk;(·first|(first|exact tk_|(apply yad;(·rfl);(·exact (show Cells _ _ _ (sbc y) from part_cells 0 rfl));(·exact hyl))|(apply yad;(·rfl);(·exact hel _ (row_cells 0 rfl));(·exact hxl))));(·rfl);(·rfl))|(first|(refine rx_rowstore 0 rfl rfl rfl (sbc_sz y) (by rw [sbc_sz];omega) (sbc_one hy1.1 hy1.2) (spl_flat (j := P.length + u) (by omega) (by omega)) rfl rfl ?_ ?_ ?_;(·(first|exact ybf|(refine .inl ?_;(first|exact row_part gy (by omega)|exact row_part gy' (by omega)))|exact to_));(·(first|exact ybf|(refine .inl ?_;(first|exact row_part gy (by omega)|exact row_part gy' (by omega)))|exact to_)))|(refine rx_rowstore 0 rfl rfl rfl (sbc_sz x) (by rw [sbc_sz];omega) (sbc_one ox.1 ox.2) (spl_flat (j := P.length + u - 1) (by omega) (by rw [List.length_set];omega)) rfl rfl ?_ ?_ ?_;(·(first|exact ybf|(refine .inl ?_;(first|exact row_part gy (by omega)|exact row_part gy' (by omega)))|exact to_));(·(first|exact ybf|(refine .inl ?_;(first|exact row_part gy (by omega)|exact row_part gy' (by omega)))|exact to_))))|refine t1_ ?_|(refine ta_ ?_;intro _)|((fail_if_success (refine ybi rfl ?_));refine ybj rfl ?_ ?_<;>(intro ht;rw [ht];first|replace ht := of_decide_eq_true ht|replace ht := of_decide_eq_false ht|skip))|(refine ych ?_;first|(refine ybw rfl ?_ ?_<;>intro ht)|(refine ybx rfl ?_ ?_<;>intro ht)))
      exact nx_round (u - 1) ⟨by omega, by omega⟩ (by omega) (by repeat' (first | exact Sub.nil | refine Sub.cons rfl rfl ?_ | refine Sub.cons rfl (congrArg (Value.int .i64) (by omega)) ?_)) (fun _ s => s)
    · have hu2 : u = u0 := by omega
      subst hu2
      repeat' (first|(refine ycf ?_;apply ybk;(·first|(exact tk_));(·rfl);(·rfl))|(first|(refine rx_rowstore 0 rfl rfl rfl (sbc_sz y) (by rw [sbc_sz];omega) (sbc_one hy1.1 hy1.2) (spl_flat (j := P.length + u) (by omega) (by omega)) rfl rfl ?_ ?_ ?_;(·(first|exact ybf|(refine .inl ?_;(first|exact row_part gy (by omega)|exact row_part gy' (by omega)))|exact to_));(·(first|exact ybf|(refine .inl ?_;(first|exact row_part gy (by omega)|exact row_part gy' (by omega)))|exact to_)))|(refine rx_rowstore 0 rfl rfl rfl (sbc_sz x) (by rw [sbc_sz];omega) (sbc_one ox.1 ox.2) (spl_flat (j := P.length + u - 1) (by omega) (by rw [List.length_set];omega)) rfl rfl ?_ ?_ ?_;(·(first|exact ybf|(refine .inl ?_;(first|exact row_part gy (by omega)|exact row_part gy' (by omega)))|exact to_));(·(first|exact ybf|(refine .inl ?_;(first|exact row_part gy (by omega)|exact row_part gy' (by omega)))|exact to_))))|refine t1_ ?_|(refine ta_ ?_;intro _)|((fail_if_success (refine ybi rfl ?_));refine ybj rfl ?_ ?_<;>(intro ht;rw [ht];first|replace ht := of_decide_eq_true ht|replace ht := of_decide_eq_false ht|skip))|(refine ych ?_;first|(refine ybw rfl ?_ ?_<;>intro ht)|(refine ybx rfl ?_ ?_<;>intro ht)))
      refine nx_ret0 rfl (fun w' s' => ⟨(_, A.take u ++ (x :: A.drop u)), rfl, ?_, hkf, hst⟩)
      have e : P ++ ((A.take u ++ (x :: A.drop u)) ++ Q) = insL P A Q x u := by simp [insL]
      rw [e]
      exact s'
end Go.Proofs.Ytkkjppeaaicgaaa
end
