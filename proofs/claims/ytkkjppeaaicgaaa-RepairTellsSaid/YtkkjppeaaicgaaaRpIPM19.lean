/-
  Part 19 of a proof: SbZ SbRc.
  Conditions: each theorem states its own.
-/
import Derived.Test.YtkkjppeaaicgaaaRpIPM18
section
namespace Go.Proofs.Ytkkjppeaaicgaaa
open Go Go.Ck
set_option maxRecDepth 100000
set_option maxHeartbeats 1000000
set_option linter.unusedVariables false

/-- whether the one at i is kept -/
def keepR (L : List Ab) (i : Nat) (x : Ab) : Prop := ∀ (k : Nat) y, L[k]? = some y → hasA y x.1 = false ∧ (i ≤ k ∨ y.1 ≠ x.1)
/-- as far as k -/
def keepK (L : List Ab) (i : Nat) (x : Ab) (k : Nat) : Prop := ∀ (j : Nat) y, j < k → L[j]? = some y → hasA y x.1 = false ∧ (i ≤ j ∨ y.1 ≠ x.1)
theorem keepK_zero {L : List Ab} {i : Nat} {x : Ab} : keepK L i x 0 := fun j y h => by omega
theorem keepK_all {L : List Ab} {i : Nat} {x : Ab} : keepK L i x L.length ↔ keepR L i x :=
  ⟨fun h k y hk => h k y (List.getElem?_eq_some_iff.1 hk).1 hk, fun h j y _ hj => h j y hj⟩
theorem keepK_succ {L : List Ab} {i k : Nat} {x y : Ab} (hk : L[k]? = some y) : keepK L i x (k + 1) ↔ keepK L i x k ∧ hasA y x.1 = false ∧ (i ≤ k ∨ y.1 ≠ x.1) := by
  constructor
  · exact fun h => ⟨fun j z hj hz => h j z (by omega) hz, h k y (by omega) hk⟩
  · rintro ⟨h1, h2⟩ j z hj hz
    by_cases e : j = k
    · subst e
      rw [hk] at hz
      cases hz
      exact h2
    · exact h1 j z (by omega) hz
theorem keepK_out {L : List Ab} {i k : Nat} {x : Ab} (h : ¬ keepK L i x k) (hk : k ≤ L.length) : ¬ keepR L i x := fun hr => h fun j y _ hj => hr j y hj
theorem keep_iff {A B : List Ab} (ca : StrictA A) (cb : StrictA B) {x : Ab} : (∃ j, (A ++ B)[j]? = some x ∧ keepR (A ++ B) j x) ↔ InM A B x := by
  unfold InM
  rw [free_iff]
  constructor
  · rintro ⟨j, hj, hk⟩
    have hf : ∀ y ∈ A ++ B, hasA y x.1 = false := fun y hy => by
      obtain ⟨i, hi, rfl⟩ := List.mem_iff_getElem.1 hy
      exact (hk i _ (List.getElem?_eq_getElem hi)).1
    refine ⟨?_, fun y hy => hf y (List.mem_append_left _ hy), fun y hy => hf y (List.mem_append_right _ hy)⟩
    by_cases hA : j < A.length
    · rw [List.getElem?_append_left hA] at hj
      exact .inl (List.mem_of_getElem? hj)
    · right
      rw [List.getElem?_append_right (by omega)] at hj
      refine ⟨List.mem_of_getElem? hj, fun y hy => ?_⟩
      obtain ⟨i, hi, rfl⟩ := List.mem_iff_getElem.1 hy
      rcases (hk i A[i] (by rw [List.getElem?_append_left hi, List.getElem?_eq_getElem hi])).2 with h | h
      · omega
      · exact h
  · rintro ⟨hx, hA, hB⟩
    have hf : ∀ (k : Nat) y, (A ++ B)[k]? = some y → hasA y x.1 = false := fun k y hy => by
      rcases List.mem_append.1 (List.mem_of_getElem? hy) with h | h
      · exact hA y h
      · exact hB y h
    rcases hx with hx | ⟨hx, hne⟩
    · obtain ⟨i, hi, rfl⟩ := List.mem_iff_getElem.1 hx
      refine ⟨i, by rw [List.getElem?_append_left hi, List.getElem?_eq_getElem hi], fun k y hy => ⟨hf k y hy, ?_⟩⟩
      by_cases hik : i ≤ k
      · exact .inl hik
      · right
        rw [List.getElem?_append_left (by omega), List.getElem?_eq_getElem (by omega)] at hy
        rw [← Option.some.inj hy]
        exact ord_ne (List.pairwise_iff_getElem.1 ca k i (by omega) hi (by omega))
    · obtain ⟨i, hi, rfl⟩ := List.mem_iff_getElem.1 hx
      refine ⟨A.length + i, by rw [List.getElem?_append_right (by omega), Nat.add_sub_cancel_left, List.getElem?_eq_getElem hi], fun k y hy => ⟨hf k y hy, ?_⟩⟩
      by_cases hik : A.length + i ≤ k
      · exact .inl hik
      · right
        by_cases hk : k < A.length
        · rw [List.getElem?_append_left hk] at hy
          exact hne y (List.mem_of_getElem? hy)
        · rw [List.getElem?_append_right (by omega), List.getElem?_eq_getElem (by omega)] at hy
          rw [← Option.some.inj hy]
          exact ord_ne (List.pairwise_iff_getElem.1 cb (k - A.length) i (by omega) hi (by omega))
/-- what the first i come to -/
structure OutR (L : List Ab) (i : Nat) (O : List Ab) : Prop where
  st : StrictA O
  mem : ∀ x, x ∈ O ↔ ∃ j, j < i ∧ L[j]? = some x ∧ keepR L j x
theorem OutR.zero {L : List Ab} : OutR L 0 [] := ⟨List.Pairwise.nil, fun x => by simp⟩
theorem OutR.skip {L O : List Ab} {i : Nat} {x : Ab} (h : OutR L i O) (hx : L[i]? = some x) (hk : ¬ keepR L i x) : OutR L (i + 1) O := ⟨h.st, fun z => by
  rw [h.mem z]
  constructor
  · rintro ⟨j, h1, h2⟩
    exact ⟨j, by omega, h2⟩
  · rintro ⟨j, h1, h2, h3⟩
    by_cases e : j = i
    · subst e
      rw [hx] at h2
      cases h2
      exact absurd h3 hk
    · exact ⟨j, by omega, h2, h3⟩⟩
theorem OutR.ne {L O : List Ab} {i : Nat} {x : Ab} (h : OutR L i O) (hx : L[i]? = some x) (hk : keepR L i x) : ∀ y ∈ O, y.1 ≠ x.1 := fun y hy => by
  obtain ⟨j, h1, h2, _⟩ := (h.mem y).1 hy
  rcases (hk j y h2).2 with h3 | h3
  · omega
  · exact h3
theorem OutR.add {L O O' : List Ab} {i : Nat} {x : Ab} (h : OutR L i O) (hx : L[i]? = some x) (hk : keepR L i x) (hs : StrictA O') (hm : ∀ z, z ∈ O' ↔ z = x ∨ z ∈ O) : OutR L (i + 1) O' := ⟨hs, fun z => by
  rw [hm z, h.mem z]
  constructor
  · rintro (rfl | ⟨j, h1, h2⟩)
    · exact ⟨i, by omega, hx, hk⟩
    · exact ⟨j, by omega, h2⟩
  · rintro ⟨j, h1, h2, h3⟩
    by_cases e : j = i
    · subst e
      rw [hx] at h2
      cases h2
      exact .inl rfl
    · exact .inr ⟨j, by omega, h2, h3⟩⟩
theorem OutR.done {A B O : List Ab} (h : OutR (A ++ B) (A ++ B).length O) (ca : checkA A = 0) (cb : checkA B = 0) : mergeF A B = if 64 < O.length then ([], 5) else (O, 0) :=
  mergeF_uniq ca cb h.st fun x => by
    rw [h.mem x, ← keep_iff (checkA_strict ca) (checkA_strict cb)]
    exact ⟨fun ⟨j, _, h2⟩ => ⟨j, h2⟩, fun ⟨j, h2, h3⟩ => ⟨j, (List.getElem?_eq_some_iff.1 h2).1, h2, h3⟩⟩

/-- x put in at k -/
def insS (M : List Sb) (k : Nat) (x : Sb) : List Sb := M.take k ++ x :: M.drop k
theorem insS_len {M : List Sb} {k : Nat} {x : Sb} : (insS M k x).length = M.length + 1 := by
  simp [insS]; omega
theorem insS_all {M : List Sb} {x : Sb} : insS M M.length x = M ++ [x] := by simp [insS]
theorem insS_mem {M : List Sb} {k : Nat} {x z : Sb} : z ∈ insS M k x ↔ z = x ∨ z ∈ M := by
  unfold insS
  rw [List.mem_append, List.mem_cons]
  constructor
  · rintro (h | h | h)
    · exact .inr (List.mem_of_mem_take h)
    · exact .inl h
    · exact .inr (List.mem_of_mem_drop h)
  · rintro (h | h)
    · exact .inr (.inl h)
    · rw [← List.take_append_drop k M, List.mem_append] at h
      rcases h with h | h
      · exact .inl h
      · exact .inr (.inr h)
theorem insS_at {M : List Sb} {k j : Nat} {x : Sb} (hj : j < k) (hk : k ≤ M.length) : (insS M k x)[j]? = some (M[j]'(by omega)) := by
  unfold insS
  rw [List.getElem?_append_left (by simp; omega), List.getElem?_take, if_pos hj, List.getElem?_eq_getElem]
theorem insS_set {M : List Sb} {k : Nat} {x : Sb} (h0 : 0 < k) (hk : k ≤ M.length) : ((insS M k x).set k (M[k - 1]'(by omega))).set (k - 1) x = insS M (k - 1) x := by
  have e1 : M.take k = M.take (k - 1) ++ [M[k - 1]'(by omega)] := by
    have := List.take_succ_eq_append_getElem (l := M) (i := k - 1) (by omega)
    rwa [show k - 1 + 1 = k by omega] at this
  have e2 : M.drop (k - 1) = M[k - 1]'(by omega) :: M.drop k := by
    have := List.drop_eq_getElem_cons (l := M) (i := k - 1) (by omega)
    rwa [show k - 1 + 1 = k by omega] at this
  have l1 : (M.take (k - 1)).length = k - 1 := by simp; omega
  unfold insS
  rw [e1, e2, List.append_assoc, List.set_append_right _ _ (by omega), l1, show k - (k - 1) = 1 by omega]
  rw [List.set_append_right _ _ (by omega), l1, Nat.sub_self]
  rfl
theorem insS_strict {M : List Sb} {k : Nat} {x : Sb} (hs : StrictA (M.map Sb.a)) (hk : k ≤ M.length) (hd : ∀ e ∈ M.drop k, ordD x.d e.d < 0) (hl : ∀ (h0 : 0 < k), ordD (M[k - 1]'(by omega)).d x.d < 0) : StrictA ((insS M k x).map Sb.a) := by
  unfold StrictA at hs ⊢
  rw [List.pairwise_map] at hs ⊢
  unfold insS
  rw [← List.take_append_drop k M, List.pairwise_append] at hs
  obtain ⟨q1, q2, q3⟩ := hs
  refine List.pairwise_append.2 ⟨q1, List.pairwise_cons.2 ⟨hd, q2⟩, fun e he z hz => ?_⟩
  rcases List.mem_cons.1 hz with rfl | hz
  · obtain ⟨i, hi, rfl⟩ := List.getElem_of_mem he
    have hik : i < k := by simp at hi; omega
    rw [List.getElem_take]
    have hl' := hl (by omega)
    by_cases hc : i = k - 1
    · subst hc; exact hl'
    · have := List.pairwise_iff_getElem.1 q1 i (k - 1) hi (by simp; omega) (by omega)
      rw [List.getElem_take, List.getElem_take] at this
      exact ord_tr this hl'
  · exact q3 e he z hz
end Go.Proofs.Ytkkjppeaaicgaaa
end

section
namespace Go.Proofs.Ytkkjppeaaicgaaa
open Go Go.Ck
set_option maxRecDepth 100000
set_option maxHeartbeats 4000000
set_option linter.unusedVariables false

theorem cx_rowslice {P : Program} {n : Nat} {K : Bs} {F : List (Nat × Value)} {h : View} {L : List Res} {Q : Exit → Act → World → Prop} {c : Code} {e : TypeId} {sz m : Nat} {v : Value} {xs : List Value} (k : Nat) (hk : L[k]? = some (Res.row e sz v m xs)) (hx : ∀ ad cap, v = .slice ad m cap → CX P n K c F h L Q) : CX P n K c F h L Q :=
  cx_rowform k hk (fun h1 h2 _ => hx none 0 (by rw [h1, h2])) (fun g' cap hv => hx _ cap hv)
abbrev rowR (v : Value) (l : List Sb) : Res := Res.row 71 20 v l.length (l.flatMap sbc)
theorem row_elR {h : View} {L : List Res} {g : Nat} {l : List Sb} {i j : Nat} {x : Sb} (c : Cells h L ⟨g, 0, none⟩ (l.flatMap sbc)) (hx : l[i]? = some x) (hj : j = i) : Cells h L ⟨g, 0 + j * 20, none⟩ (sbc x) := row_el c hx hj
theorem one_sbs {h : View} {l : List Sb} (hs : ∀ x ∈ l, Rv h x) : ∀ u ∈ l.flatMap sbc, u.oneCell' = true := fun u hu => by
  obtain ⟨x, hx, hu⟩ := List.mem_flatMap.1 hu
  have := (hs x hx).one
  exact List.all_eq_true.1 (sbc_one this.1 this.2) u hu
theorem row_partR {h : View} {g cap m : Nat} {l : List Sb} {i o : Nat} {x : Sb} (hx : l[i]? = some x) (ho : o = 0 + i * 20) : ∀ w, Hd h [Res.row 71 20 (.slice (some ⟨g, 0, none⟩) m cap) m (l.flatMap sbc)] w → Hd h [Res.part g o (.int .i64 x.d.1) ((sbc x).tail)] w := fun w s => ⟨s.view, fun r hr => by
  have hr : r = Res.part g o (.int .i64 x.d.1) ((sbc x).tail) := by simpa using hr
  subst hr
  intro j u hj
  subst ho
  have hc := row_el (h := h) (L := [Res.row 71 20 (.slice (some ⟨g, 0, none⟩) m cap) m (l.flatMap sbc)]) (row_cells 0 rfl) hx rfl
  have := hc w s j u hj
  rwa [Addr.add_off] at this⟩

theorem rmerge_sp (va vb : Value) (a b : List Sb) (h : View) (ha : Rs h va a) (hb : Rs h vb b) (fa : Fits a) (fb : Fits b) (w : World) (s : St ⟨w, h, []⟩ h [] w) :
    Calls Try.prog 27 [va, vb].toArray w fun e w' => ∃ z : View × Value × List Sb, e = .returned (.tuple #[z.2.1, .int .i64 (mergeF (a.map Sb.a) (b.map Sb.a)).2]) ∧ St ⟨w, h, []⟩ z.1 [] w' ∧ Rs z.1 z.2.1 z.2.2 ∧ z.2.2.map Sb.a = (mergeF (a.map Sb.a) (b.map Sb.a)).1 := by
  have CA := rcheck_sp va a h ha (by have := fa.1; omega) (fun x hx => by have := fa.2 x hx; omega)
  have CB := rcheck_sp vb b h hb (by have := fb.1; omega) (fun x hx => by have := fb.2 x hx; omega)
  obtain ⟨hsa, hva⟩ := ha
  obtain ⟨hsb, hvb⟩ := hb
  obtain ⟨_, ada, capa, rfl, hcapa, _⟩ := id hsa
  obtain ⟨_, adb, capb, rfl, hcapb, _⟩ := id hsb
  have fa1 := fa.1
  have fb1 := fb.1
  have n0 : Rs h (.slice none 0 0) [] := ⟨Sc.nil h 20 none 0, fun x hx => by cases hx⟩
  refine calls_enter Try.func27 rfl Try.ntmps27 rfl s ?_
  by_cases ca : checkA (a.map Sb.a) = 0
  · by_cases cb : checkA (b.map Sb.a) = 0
    · rw [ca] at CA
      rw [cb] at CB
      have la := (checkA_ok ca).1
      have lb := (checkA_ok cb).1
      rw [List.length_map] at la lb
      have hrt : ∀ x ∈ a ++ b, rightA x.a = true := fun x hx => by
        rcases List.mem_append.1 hx with hx | hx
        · exact (checkA_ok ca).2.1 x.a (List.mem_map_of_mem hx)
        · exact (checkA_ok cb).2.1 x.a (List.mem_map_of_mem hx)
      have hfit : ∀ x ∈ a ++ b, x.l.length ≤ 1000000 := fun x hx => by
        rcases List.mem_append.1 hx with hx | hx
        · exact (fa.2 x hx).1
        · exact (fb.2 x hx).1
      repeat' (first | (refine ycf ?_; apply ybk; (· first | (exact tk_)); (· rfl); (· rfl)) | refine t1_ ?_ | (refine ta_ ?_; intro _) | ((fail_if_success (refine ybi rfl ?_)); refine ybj rfl ?_ ?_ <;> (intro ht; rw [ht]; first | replace ht := of_decide_eq_true ht | replace ht := of_decide_eq_false ht | skip)) | (refine ych ?_; first | (refine ybw rfl ?_ ?_ <;> intro ht) | (refine ybx rfl ?_ ?_ <;> intro ht)))
      (refine ycn (ycp Try.func52 rfl (by kernel_rfl) rfl) (CA) rfl rfl rfl ?_ ?_; (· (exact to_)))
      repeat' (first | (refine ycf ?_; apply ybk; (· first | (exact tk_)); (· rfl); (· rfl)) | refine t1_ ?_ | (refine ta_ ?_; intro _) | ((fail_if_success (refine ybi rfl ?_)); refine ybj rfl ?_ ?_ <;> (intro ht; rw [ht]; first | replace ht := of_decide_eq_true ht | replace ht := of_decide_eq_false ht | skip)) | (refine ych ?_; first | (refine ybw rfl ?_ ?_ <;> intro ht) | (refine ybx rfl ?_ ?_ <;> intro ht)))
      (refine ycn (ycp Try.func52 rfl (by kernel_rfl) rfl) (CB) rfl rfl rfl ?_ ?_; (· (exact to_)))
      repeat' (first | (refine ycf ?_; apply ybk; (· first | (exact tk_)); (· rfl); (· rfl)) | refine t1_ ?_ | (refine ta_ ?_; intro _) | ((fail_if_success (refine ybi rfl ?_)); refine ybj rfl ?_ ?_ <;> (intro ht; rw [ht]; first | replace ht := of_decide_eq_true ht | replace ht := of_decide_eq_false ht | skip)) | (refine ych ?_; first | (refine ybw rfl ?_ ?_ <;> intro ht) | (refine ybx rfl ?_ ?_ <;> intro ht)))
      refine yba ma_buildSlice0 rfl rfl rfl ybf (fun _ => ybf) ?_
      intro b22
      refine rx_rowOf 20 0 0 (by omega) (by unfold maxLen; omega) rfl ?_
      repeat' (first | (refine ycf ?_; apply ybk; (· first | (exact tk_)); (· rfl); (· rfl)) | refine t1_ ?_ | (refine ta_ ?_; intro _) | ((fail_if_success (refine ybi rfl ?_)); refine ybj rfl ?_ ?_ <;> (intro ht; rw [ht]; first | replace ht := of_decide_eq_true ht | replace ht := of_decide_eq_false ht | skip)) | (refine ych ?_; first | (refine ybw rfl ?_ ?_ <;> intro ht) | (refine ybx rfl ?_ ?_ <;> intro ht)))
      refine rx_append_sc (sz := 20) (m := a.length) (news := a.flatMap sbc) 0 rfl rfl rfl hsa (one_sbs hva) rfl (by omega) (by unfold maxLen; omega) (by omega) rfl rfl rfl ybf (fun _ => ybf) ?_
      intro v1 _
      repeat' (first | (refine ycf ?_; apply ybk; (· first | (exact tk_)); (· rfl); (· rfl)) | refine t1_ ?_ | (refine ta_ ?_; intro _) | ((fail_if_success (refine ybi rfl ?_)); refine ybj rfl ?_ ?_ <;> (intro ht; rw [ht]; first | replace ht := of_decide_eq_true ht | replace ht := of_decide_eq_false ht | skip)) | (refine ych ?_; first | (refine ybw rfl ?_ ?_ <;> intro ht) | (refine ybx rfl ?_ ?_ <;> intro ht)))
      refine rx_append_sc (sz := 20) (m := b.length) (news := b.flatMap sbc) 0 rfl rfl rfl hsb (one_sbs hvb) rfl (by omega) (by unfold maxLen; omega) (by omega) rfl rfl rfl ybf (fun _ => ybf) ?_
      intro v2 _
      refine rx_persist rfl fun h1 hle1 hs1 => ?_
      have hAll : Rs h1 v2 (a ++ b) := ⟨by
        rw [List.length_append, List.flatMap_append]
        simpa using hs1, fun x hx => by
        rcases List.mem_append.1 hx with hx | hx
        · exact (hva x hx).mono hle1
        · exact (hvb x hx).mono hle1⟩
      have eAll : (a ++ b).map Sb.a = a.map Sb.a ++ b.map Sb.a := List.map_append
      have nAll : (a ++ b).length ≤ 128 := by rw [List.length_append]; omega
      have hend : ∀ O : List Sb, OutR ((a ++ b).map Sb.a) ((a ++ b).map Sb.a).length (O.map Sb.a) → mergeF (a.map Sb.a) (b.map Sb.a) = if 64 < (O.map Sb.a).length then ([], 5) else (O.map Sb.a, 0) := fun O hO => by
        rw [eAll] at hO
        exact hO.done ca cb
      generalize hS : a ++ b = S at hAll eAll nAll hrt hfit hend
      clear hs1
      obtain ⟨hS1, hSv⟩ := hAll
      obtain ⟨_, ads, caps, hv2, hcaps, _⟩ := id hS1
      subst hv2
      repeat' (first | (refine ycf ?_; apply ybk; (· first | (exact tk_)); (· rfl); (· rfl)) | refine t1_ ?_ | (refine ta_ ?_; intro _) | ((fail_if_success (refine ybi rfl ?_)); refine ybj rfl ?_ ?_ <;> (intro ht; rw [ht]; first | replace ht := of_decide_eq_true ht | replace ht := of_decide_eq_false ht | skip)) | (refine ych ?_; first | (refine ybw rfl ?_ ?_ <;> intro ht) | (refine ybx rfl ?_ ?_ <;> intro ht)))
      refine cx_row 71 20 ?_
      refine cx_loop (X := Nat × Value × List Sb) (fun y => [(8, .slice ads S.length caps), (9, y.2.1), (10, .int .i64 (y.1 : Nat))]) (fun _ => h1) (fun y => [rowR y.2.1 y.2.2])
        (fun y => y.1 ≤ S.length ∧ y.2.2.length ≤ y.1 ∧ (∀ o ∈ y.2.2, o ∈ S) ∧ OutR (S.map Sb.a) y.1 (y.2.2.map Sb.a)) (fun y => S.length - y.1) (0, .slice none 0 0, []) ⟨Nat.zero_le _, Nat.le_refl _, fun o ho => (by cases ho), OutR.zero⟩ ts_ (fun _ s => s) ?_
      rintro ⟨i, vo, O⟩ ⟨p1, p2, p3, p4⟩
      dsimp only at p1 p2 p3 p4 ⊢
      by_cases hil : i < S.length
      · obtain ⟨bs, o, rfl⟩ := hS1.ad (by omega) (by omega)
        have hel : ∀ L, Cells h1 L ⟨bs, o + i * 20, none⟩ (sbc S[i]) := fun L => hS1.elem sbc_len i hil
        have hxm := List.getElem_mem hil
        have hxv := hSv _ hxm
        have hxr : rightB S[i].d = true := (rightA_ok (hrt _ hxm)).1
        have hxi : (S.map Sb.a)[i]? = some S[i].a := by rw [List.getElem?_map, List.getElem?_eq_getElem hil]; rfl
        generalize S[i] = x0 at hel hxm hxv hxr hxi
        have hxl := sbc_len x0
        have hxo := hxv.one
        repeat' (first | (refine ycf ?_; apply ybk; (· first | (exact tk_)); (· rfl); (· rfl)) | refine t1_ ?_ | (refine ta_ ?_; intro _) | ((fail_if_success (refine ybi rfl ?_)); refine ybj rfl ?_ ?_ <;> (intro ht; rw [ht]; first | replace ht := of_decide_eq_true ht | replace ht := of_decide_eq_false ht | skip)) | (refine ych ?_; first | (refine ybw rfl ?_ ?_ <;> intro ht) | (refine ybx rfl ?_ ?_ <;> intro ht)))
        refine cx_loop (X := Nat × Bool) (fun y => [(8, .slice (some ⟨bs, o, none⟩) S.length caps), (9, vo), (10, .int .i64 i), (11, .bool y.2), (12, .int .i64 (y.1 : Nat))]) (fun _ => h1) (fun y => [rowR vo O])
          (fun y => y.1 ≤ S.length ∧ (y.2 = true ↔ keepK (S.map Sb.a) i x0.a y.1)) (fun y => S.length - y.1) (0, true) ⟨Nat.zero_le _, by simp [keepK_zero]⟩ ts_ (fun _ s => s) ?_
        rintro ⟨k, kp⟩ ⟨hk, hkp⟩
        dsimp only at hk hkp ⊢
        by_cases hkl : k < S.length
        · have hel2 : ∀ L, Cells h1 L ⟨bs, o + k * 20, none⟩ (sbc S[k]) := fun L => hS1.elem sbc_len k hkl
          have hym := List.getElem_mem hkl
          have hyv := hSv _ hym
          have hA := hasA_of (hrt _ hym) hxr
          have H1 := refHas_sp _ S[k].u S[k].l x0.d h1 ⟨S[k].hu, _, rfl, hyv.ds⟩ (by have := hfit _ hym; omega) hxr
          rw [← hA] at H1
          have hyk : (S.map Sb.a)[k]? = some S[k].a := by rw [List.getElem?_map, List.getElem?_eq_getElem hkl]; rfl
          have hks := keepK_succ (i := i) (x := x0.a) hyk
          generalize S[k] = y0 at hel2 hym hyv hA H1 hyk hks
          have hu := y0.hu
          have hkq : ∀ b : Bool, (b = true ↔ keepK (S.map Sb.a) i x0.a (k + 1)) → (k + 1, b).1 ≤ S.length ∧ ((k + 1, b).2 = true ↔ keepK (S.map Sb.a) i x0.a (k + 1, b).1) := fun b hb => ⟨by show k + 1 ≤ _; omega, hb⟩
          have hks2 : keepK (S.map Sb.a) i x0.a (k + 1) ↔ keepK (S.map Sb.a) i x0.a k ∧ hasA y0.a x0.d = false ∧ (i ≤ k ∨ y0.d ≠ x0.d) := hks
          have hdec : S.length - (k + 1) < S.length - k := by omega
          cases kp with
          | false =>
            have hno : ¬ keepK (S.map Sb.a) i x0.a (k + 1) := fun hq => by
              have := hkp.2 (hks2.1 hq).1
              cases this
            repeat' (first | (refine ycf ?_; apply ybk; (· first | (first | exact tk_ | (apply yad; (· rfl); (· exact sb_past (hel2 _)); (· exact ycj hu)) | (apply yad; (· rfl); (· exact sb_dot (hel _)); (· rfl)))); (· rfl); (· rfl)) | refine t1_ ?_ | (refine ta_ ?_; intro _) | ((fail_if_success (refine ybi rfl ?_)); refine ybj rfl ?_ ?_ <;> (intro ht; rw [ht]; first | replace ht := of_decide_eq_true ht | replace ht := of_decide_eq_false ht | skip)) | (refine ych ?_; first | (refine ybw rfl ?_ ?_ <;> intro ht) | (refine ybx rfl ?_ ?_ <;> intro ht)))
            refine cx_region_draw' rfl (by kernel_rfl) ?_
            repeat' (refine ycf ?_;(first|(first|(apply ybm;(·(first|(first|exact tk_|(apply yad;(·rfl);(·exact sb_past (hel2 _));(·exact ycj hu))|(apply yad;(·rfl);(·exact sb_dot (hel _));(·rfl)))|exact tq_));(·rfl);(·rfl);(·(exact th_)))|refine ybl rfl rfl ?_|((fail_if_success (refine ybi rfl ?_));refine ybj rfl ?_ ?_<;>(intro ht;rw [ht];first|replace ht := of_decide_eq_true ht|replace ht := of_decide_eq_false ht|skip))|(refine tb_ ?_ ?_ ?_;(·(exact to_));(·intro _;(exact to_));intro _)|(first|(refine tqs_ ?_ ?_ ?_;(·(exact to_));(·(exact to_))))|(apply ybn;(·(first|(first|exact tk_|(apply yad;(·rfl);(·exact sb_past (hel2 _));(·exact ycj hu))|(apply yad;(·rfl);(·exact sb_dot (hel _));(·rfl)))|exact tq_));(·rfl);(·rfl);(·rfl);(·(exact to_))))|refine ycg ?_))
            repeat' (first | (refine ycf ?_; apply ybk; (· first | (first | exact tk_ | (apply yad; (· rfl); (· exact sb_past (hel2 _)); (· exact ycj hu)) | (apply yad; (· rfl); (· exact sb_dot (hel _)); (· rfl)))); (· rfl); (· rfl)) | refine t1_ ?_ | (refine ta_ ?_; intro _) | ((fail_if_success (refine ybi rfl ?_)); refine ybj rfl ?_ ?_ <;> (intro ht; rw [ht]; first | replace ht := of_decide_eq_true ht | replace ht := of_decide_eq_false ht | skip)) | (refine ych ?_; first | (refine ybw rfl ?_ ?_ <;> intro ht) | (refine ybx rfl ?_ ?_ <;> intro ht)))
            exact nx_round (k + 1, false) (hkq false (by simp [hno])) hdec ts_ (fun _ s => s)
          | true =>
            have hyes := hkp.1 rfl
            cases hq : hasA y0.a x0.d with
            | true =>
              rw [hq] at H1
              repeat' (first | (refine ycf ?_; apply ybk; (· first | (first | exact tk_ | (apply yad; (· rfl); (· exact sb_past (hel2 _)); (· exact ycj hu)) | (apply yad; (· rfl); (· exact sb_dot (hel _)); (· rfl)))); (· rfl); (· rfl)) | refine t1_ ?_ | (refine ta_ ?_; intro _) | ((fail_if_success (refine ybi rfl ?_)); refine ybj rfl ?_ ?_ <;> (intro ht; rw [ht]; first | replace ht := of_decide_eq_true ht | replace ht := of_decide_eq_false ht | skip)) | (refine ych ?_; first | (refine ybw rfl ?_ ?_ <;> intro ht) | (refine ybx rfl ?_ ?_ <;> intro ht)))
              refine cx_region_draw' rfl (by kernel_rfl) ?_
              repeat' (refine ycf ?_;(first|(first|(apply ybm;(·(first|(first|exact tk_|(apply yad;(·rfl);(·exact sb_past (hel2 _));(·exact ycj hu))|(apply yad;(·rfl);(·exact sb_dot (hel _));(·rfl)))|exact tq_));(·rfl);(·rfl);(·(exact th_)))|refine ybl rfl rfl ?_|((fail_if_success (refine ybi rfl ?_));refine ybj rfl ?_ ?_<;>(intro ht;rw [ht];first|replace ht := of_decide_eq_true ht|replace ht := of_decide_eq_false ht|skip))|(refine tb_ ?_ ?_ ?_;(·(exact to_));(·intro _;(exact to_));intro _)|(first|(refine tqs_ ?_ ?_ ?_;(·(exact to_));(·(exact to_))))|(apply ybn;(·(first|(first|exact tk_|(apply yad;(·rfl);(·exact sb_past (hel2 _));(·exact ycj hu))|(apply yad;(·rfl);(·exact sb_dot (hel _));(·rfl)))|exact tq_));(·rfl);(·rfl);(·rfl);(·(exact to_))))|refine ycg ?_))
              (refine ycn (ycp Try.func30 rfl (by kernel_rfl) rfl) (H1) rfl rfl rfl ?_ ?_; (· (exact to_)))
              repeat' (refine ycf ?_;(first|(first|(apply ybm;(·(first|(first|exact tk_|(apply yad;(·rfl);(·exact sb_past (hel2 _));(·exact ycj hu))|(apply yad;(·rfl);(·exact sb_dot (hel _));(·rfl)))|exact tq_));(·rfl);(·rfl);(·(exact th_)))|refine ybl rfl rfl ?_|((fail_if_success (refine ybi rfl ?_));refine ybj rfl ?_ ?_<;>(intro ht;rw [ht];first|replace ht := of_decide_eq_true ht|replace ht := of_decide_eq_false ht|skip))|(refine tb_ ?_ ?_ ?_;(·(exact to_));(·intro _;(exact to_));intro _)|(first|(refine tqs_ ?_ ?_ ?_;(·(exact to_));(·(exact to_))))|(apply ybn;(·(first|(first|exact tk_|(apply yad;(·rfl);(·exact sb_past (hel2 _));(·exact ycj hu))|(apply yad;(·rfl);(·exact sb_dot (hel _));(·rfl)))|exact tq_));(·rfl);(·rfl);(·rfl);(·(exact to_))))|refine ycg ?_))
              repeat' (first | (refine ycf ?_; apply ybk; (· first | (first | exact tk_ | (apply yad; (· rfl); (· exact sb_past (hel2 _)); (· exact ycj hu)) | (apply yad; (· rfl); (· exact sb_dot (hel _)); (· rfl)))); (· rfl); (· rfl)) | refine t1_ ?_ | (refine ta_ ?_; intro _) | ((fail_if_success (refine ybi rfl ?_)); refine ybj rfl ?_ ?_ <;> (intro ht; rw [ht]; first | replace ht := of_decide_eq_true ht | replace ht := of_decide_eq_false ht | skip)) | (refine ych ?_; first | (refine ybw rfl ?_ ?_ <;> intro ht) | (refine ybx rfl ?_ ?_ <;> intro ht)))
              exact nx_round (k + 1, false) (hkq false (by rw [hks2, hq]; simp)) hdec ts_ (fun _ s => s)
            | false =>
              rw [hq] at H1
              by_cases hik : i ≤ k
              · repeat' (first | (refine ycf ?_; apply ybk; (· first | (first | exact tk_ | (apply yad; (· rfl); (· exact sb_past (hel2 _)); (· exact ycj hu)) | (apply yad; (· rfl); (· exact sb_dot (hel _)); (· rfl)))); (· rfl); (· rfl)) | refine t1_ ?_ | (refine ta_ ?_; intro _) | ((fail_if_success (refine ybi rfl ?_)); refine ybj rfl ?_ ?_ <;> (intro ht; rw [ht]; first | replace ht := of_decide_eq_true ht | replace ht := of_decide_eq_false ht | skip)) | (refine ych ?_; first | (refine ybw rfl ?_ ?_ <;> intro ht) | (refine ybx rfl ?_ ?_ <;> intro ht)))
                refine cx_region_draw' rfl (by kernel_rfl) ?_
                repeat' (refine ycf ?_;(first|(first|(apply ybm;(·(first|(first|exact tk_|(apply yad;(·rfl);(·exact sb_past (hel2 _));(·exact ycj hu))|(apply yad;(·rfl);(·exact sb_dot (hel _));(·rfl)))|exact tq_));(·rfl);(·rfl);(·(exact th_)))|refine ybl rfl rfl ?_|((fail_if_success (refine ybi rfl ?_));refine ybj rfl ?_ ?_<;>(intro ht;rw [ht];first|replace ht := of_decide_eq_true ht|replace ht := of_decide_eq_false ht|skip))|(refine tb_ ?_ ?_ ?_;(·(exact to_));(·intro _;(exact to_));intro _)|(first|(refine tqs_ ?_ ?_ ?_;(·(exact to_));(·(exact to_))))|(apply ybn;(·(first|(first|exact tk_|(apply yad;(·rfl);(·exact sb_past (hel2 _));(·exact ycj hu))|(apply yad;(·rfl);(·exact sb_dot (hel _));(·rfl)))|exact tq_));(·rfl);(·rfl);(·rfl);(·(exact to_))))|refine ycg ?_))
                (refine ycn (ycp Try.func30 rfl (by kernel_rfl) rfl) (H1) rfl rfl rfl ?_ ?_; (· (exact to_)))
                repeat' (refine ycf ?_;(first|(first|(apply ybm;(·(first|(first|exact tk_|(apply yad;(·rfl);(·exact sb_past (hel2 _));(·exact ycj hu))|(apply yad;(·rfl);(·exact sb_dot (hel _));(·rfl)))|exact tq_));(·rfl);(·rfl);(·(exact th_)))|refine ybl rfl rfl ?_|((fail_if_success (refine ybi rfl ?_));refine ybj rfl ?_ ?_<;>(intro ht;rw [ht];first|replace ht := of_decide_eq_true ht|replace ht := of_decide_eq_false ht|skip))|(refine tb_ ?_ ?_ ?_;(·(exact to_));(·intro _;(exact to_));intro _)|(first|(refine tqs_ ?_ ?_ ?_;(·(exact to_));(·(exact to_))))|(apply ybn;(·(first|(first|exact tk_|(apply yad;(·rfl);(·exact sb_past (hel2 _));(·exact ycj hu))|(apply yad;(·rfl);(·exact sb_dot (hel _));(·rfl)))|exact tq_));(·rfl);(·rfl);(·rfl);(·(exact to_))))|refine ycg ?_))
                repeat' (first | (refine ycf ?_; apply ybk; (· first | (first | exact tk_ | (apply yad; (· rfl); (· exact sb_past (hel2 _)); (· exact ycj hu)) | (apply yad; (· rfl); (· exact sb_dot (hel _)); (· rfl)))); (· rfl); (· rfl)) | refine t1_ ?_ | (refine ta_ ?_; intro _) | ((fail_if_success (refine ybi rfl ?_)); refine ybj rfl ?_ ?_ <;> (intro ht; rw [ht]; first | replace ht := of_decide_eq_true ht | replace ht := of_decide_eq_false ht | skip)) | (refine ych ?_; first | (refine ybw rfl ?_ ?_ <;> intro ht) | (refine ybx rfl ?_ ?_ <;> intro ht)))
                exact nx_round (k + 1, true) (hkq true (by rw [hks2, hq]; simp [hyes, hik])) hdec ts_ (fun _ s => s)
              · by_cases hd : y0.d = x0.d
                · have hde : decide (y0.d = x0.d) = true := decide_eq_true hd
                  repeat' (first|(refine ycf ?_;apply ybk;(·first|(first|exact tk_|(refine qv_neq_agg (t := true) rfl rfl (fun w => by rw [← hde];exact dot_eq _ _ w))|(apply yad;(·rfl);(·exact sb_past (hel2 _));(·exact ycj hu))|(apply yad;(·rfl);(·exact sb_dot (hel _));(·rfl))|(apply yad;(·rfl);(·exact sb_dot (hel2 _));(·rfl))));(·rfl);(·rfl))|refine t1_ ?_|(refine ta_ ?_;intro _)|((fail_if_success (refine ybi rfl ?_));refine ybj rfl ?_ ?_<;>(intro ht;rw [ht];first|replace ht := of_decide_eq_true ht|replace ht := of_decide_eq_false ht|skip))|(refine ych ?_;first|(refine ybw rfl ?_ ?_<;>intro ht)|(refine ybx rfl ?_ ?_<;>intro ht)))
                  refine cx_region_draw' rfl (by kernel_rfl) ?_
                  repeat' (refine ycf ?_;(first|(first|(apply ybm;(·(first|(first|exact tk_|(refine qv_neq_agg (t := true) rfl rfl (fun w => by rw [← hde];exact dot_eq _ _ w))|(apply yad;(·rfl);(·exact sb_past (hel2 _));(·exact ycj hu))|(apply yad;(·rfl);(·exact sb_dot (hel _));(·rfl))|(apply yad;(·rfl);(·exact sb_dot (hel2 _));(·rfl)))|exact tq_));(·rfl);(·rfl);(·(exact th_)))|refine ybl rfl rfl ?_|((fail_if_success (refine ybi rfl ?_));refine ybj rfl ?_ ?_<;>(intro ht;rw [ht];first|replace ht := of_decide_eq_true ht|replace ht := of_decide_eq_false ht|skip))|(refine tb_ ?_ ?_ ?_;(·(exact to_));(·intro _;(exact to_));intro _)|(first|(refine tqs_ ?_ ?_ ?_;(·(exact to_));(·(exact to_))))|(apply ybn;(·(first|(first|exact tk_|(refine qv_neq_agg (t := true) rfl rfl (fun w => by rw [← hde];exact dot_eq _ _ w))|(apply yad;(·rfl);(·exact sb_past (hel2 _));(·exact ycj hu))|(apply yad;(·rfl);(·exact sb_dot (hel _));(·rfl))|(apply yad;(·rfl);(·exact sb_dot (hel2 _));(·rfl)))|exact tq_));(·rfl);(·rfl);(·rfl);(·(exact to_))))|refine ycg ?_))
                  (refine ycn (ycp Try.func30 rfl (by kernel_rfl) rfl) (H1) rfl rfl rfl ?_ ?_; (· (exact to_)))
                  repeat' (refine ycf ?_;(first|(first|(apply ybm;(·(first|(first|exact tk_|(refine qv_neq_agg (t := true) rfl rfl (fun w => by rw [← hde];exact dot_eq _ _ w))|(apply yad;(·rfl);(·exact sb_past (hel2 _));(·exact ycj hu))|(apply yad;(·rfl);(·exact sb_dot (hel _));(·rfl))|(apply yad;(·rfl);(·exact sb_dot (hel2 _));(·rfl)))|exact tq_));(·rfl);(·rfl);(·(exact th_)))|refine ybl rfl rfl ?_|((fail_if_success (refine ybi rfl ?_));refine ybj rfl ?_ ?_<;>(intro ht;rw [ht];first|replace ht := of_decide_eq_true ht|replace ht := of_decide_eq_false ht|skip))|(refine tb_ ?_ ?_ ?_;(·(exact to_));(·intro _;(exact to_));intro _)|(first|(refine tqs_ ?_ ?_ ?_;(·(exact to_));(·(exact to_))))|(apply ybn;(·(first|(first|exact tk_|(refine qv_neq_agg (t := true) rfl rfl (fun w => by rw [← hde];exact dot_eq _ _ w))|(apply yad;(·rfl);(·exact sb_past (hel2 _));(·exact ycj hu))|(apply yad;(·rfl);(·exact sb_dot (hel _));(·rfl))|(apply yad;(·rfl);(·exact sb_dot (hel2 _));(·rfl)))|exact tq_));(·rfl);(·rfl);(·rfl);(·(exact to_))))|refine ycg ?_))
                  repeat' (first|(refine ycf ?_;apply ybk;(·first|(first|exact tk_|(refine qv_neq_agg (t := true) rfl rfl (fun w => by rw [← hde];exact dot_eq _ _ w))|(apply yad;(·rfl);(·exact sb_past (hel2 _));(·exact ycj hu))|(apply yad;(·rfl);(·exact sb_dot (hel _));(·rfl))|(apply yad;(·rfl);(·exact sb_dot (hel2 _));(·rfl))));(·rfl);(·rfl))|refine t1_ ?_|(refine ta_ ?_;intro _)|((fail_if_success (refine ybi rfl ?_));refine ybj rfl ?_ ?_<;>(intro ht;rw [ht];first|replace ht := of_decide_eq_true ht|replace ht := of_decide_eq_false ht|skip))|(refine ych ?_;first|(refine ybw rfl ?_ ?_<;>intro ht)|(refine ybx rfl ?_ ?_<;>intro ht)))
                  exact nx_round (k + 1, false) (hkq false (by rw [hks2, hq]; simp [hik, hd])) hdec ts_ (fun _ s => s)
                · have hde : decide (y0.d = x0.d) = false := decide_eq_false hd
                  repeat' (first|(refine ycf ?_;apply ybk;(·first|(first|exact tk_|(refine qv_neq_agg (t := false) rfl rfl (fun w => by rw [← hde];exact dot_eq _ _ w))|(apply yad;(·rfl);(·exact sb_past (hel2 _));(·exact ycj hu))|(apply yad;(·rfl);(·exact sb_dot (hel _));(·rfl))|(apply yad;(·rfl);(·exact sb_dot (hel2 _));(·rfl))));(·rfl);(·rfl))|refine t1_ ?_|(refine ta_ ?_;intro _)|((fail_if_success (refine ybi rfl ?_));refine ybj rfl ?_ ?_<;>(intro ht;rw [ht];first|replace ht := of_decide_eq_true ht|replace ht := of_decide_eq_false ht|skip))|(refine ych ?_;first|(refine ybw rfl ?_ ?_<;>intro ht)|(refine ybx rfl ?_ ?_<;>intro ht)))
                  refine cx_region_draw' rfl (by kernel_rfl) ?_
                  repeat' (refine ycf ?_;(first|(first|(apply ybm;(·(first|(first|exact tk_|(refine qv_neq_agg (t := false) rfl rfl (fun w => by rw [← hde];exact dot_eq _ _ w))|(apply yad;(·rfl);(·exact sb_past (hel2 _));(·exact ycj hu))|(apply yad;(·rfl);(·exact sb_dot (hel _));(·rfl))|(apply yad;(·rfl);(·exact sb_dot (hel2 _));(·rfl)))|exact tq_));(·rfl);(·rfl);(·(exact th_)))|refine ybl rfl rfl ?_|((fail_if_success (refine ybi rfl ?_));refine ybj rfl ?_ ?_<;>(intro ht;rw [ht];first|replace ht := of_decide_eq_true ht|replace ht := of_decide_eq_false ht|skip))|(refine tb_ ?_ ?_ ?_;(·(exact to_));(·intro _;(exact to_));intro _)|(first|(refine tqs_ ?_ ?_ ?_;(·(exact to_));(·(exact to_))))|(apply ybn;(·(first|(first|exact tk_|(refine qv_neq_agg (t := false) rfl rfl (fun w => by rw [← hde];exact dot_eq _ _ w))|(apply yad;(·rfl);(·exact sb_past (hel2 _));(·exact ycj hu))|(apply yad;(·rfl);(·exact sb_dot (hel _));(·rfl))|(apply yad;(·rfl);(·exact sb_dot (hel2 _));(·rfl)))|exact tq_));(·rfl);(·rfl);(·rfl);(·(exact to_))))|refine ycg ?_))
                  (refine ycn (ycp Try.func30 rfl (by kernel_rfl) rfl) (H1) rfl rfl rfl ?_ ?_; (· (exact to_)))
                  repeat' (refine ycf ?_;(first|(first|(apply ybm;(·(first|(first|exact tk_|(refine qv_neq_agg (t := false) rfl rfl (fun w => by rw [← hde];exact dot_eq _ _ w))|(apply yad;(·rfl);(·exact sb_past (hel2 _));(·exact ycj hu))|(apply yad;(·rfl);(·exact sb_dot (hel _));(·rfl))|(apply yad;(·rfl);(·exact sb_dot (hel2 _));(·rfl)))|exact tq_));(·rfl);(·rfl);(·(exact th_)))|refine ybl rfl rfl ?_|((fail_if_success (refine ybi rfl ?_));refine ybj rfl ?_ ?_<;>(intro ht;rw [ht];first|replace ht := of_decide_eq_true ht|replace ht := of_decide_eq_false ht|skip))|(refine tb_ ?_ ?_ ?_;(·(exact to_));(·intro _;(exact to_));intro _)|(first|(refine tqs_ ?_ ?_ ?_;(·(exact to_));(·(exact to_))))|(apply ybn;(·(first|(first|exact tk_|(refine qv_neq_agg (t := false) rfl rfl (fun w => by rw [← hde];exact dot_eq _ _ w))|(apply yad;(·rfl);(·exact sb_past (hel2 _));(·exact ycj hu))|(apply yad;(·rfl);(·exact sb_dot (hel _));(·rfl))|(apply yad;(·rfl);(·exact sb_dot (hel2 _));(·rfl)))|exact tq_));(·rfl);(·rfl);(·rfl);(·(exact to_))))|refine ycg ?_))
                  repeat' (first|(refine ycf ?_;apply ybk;(·first|(first|exact tk_|(refine qv_neq_agg (t := false) rfl rfl (fun w => by rw [← hde];exact dot_eq _ _ w))|(apply yad;(·rfl);(·exact sb_past (hel2 _));(·exact ycj hu))|(apply yad;(·rfl);(·exact sb_dot (hel _));(·rfl))|(apply yad;(·rfl);(·exact sb_dot (hel2 _));(·rfl))));(·rfl);(·rfl))|refine t1_ ?_|(refine ta_ ?_;intro _)|((fail_if_success (refine ybi rfl ?_));refine ybj rfl ?_ ?_<;>(intro ht;rw [ht];first|replace ht := of_decide_eq_true ht|replace ht := of_decide_eq_false ht|skip))|(refine ych ?_;first|(refine ybw rfl ?_ ?_<;>intro ht)|(refine ybx rfl ?_ ?_<;>intro ht)))
                  exact nx_round (k + 1, true) (hkq true (by rw [hks2, hq]; simp [hyes, hd])) hdec ts_ (fun _ s => s)
        · --
          have hke : k = (S.map Sb.a).length := by rw [List.length_map]; omega
          rw [hke, keepK_all] at hkp
          cases kp with
          | false =>
            have hno : ¬ keepR (S.map Sb.a) i x0.a := fun hq => by
              have := hkp.2 hq
              cases this
            repeat' (first | (refine ycf ?_; apply ybk; (· first | (exact tk_)); (· rfl); (· rfl)) | refine t1_ ?_ | (refine ta_ ?_; intro _) | ((fail_if_success (refine ybi rfl ?_)); refine ybj rfl ?_ ?_ <;> (intro ht; rw [ht]; first | replace ht := of_decide_eq_true ht | replace ht := of_decide_eq_false ht | skip)) | (refine ych ?_; first | (refine ybw rfl ?_ ?_ <;> intro ht) | (refine ybx rfl ?_ ?_ <;> intro ht)))
            exact nx_round (i + 1, vo, O) ⟨by show i + 1 ≤ _; omega, by show O.length ≤ i + 1; omega, p3, p4.skip hxi hno⟩ (by show S.length - (i + 1) < S.length - i; omega) ts_ (fun _ s => s)
          | true =>
            have hyes := hkp.1 rfl
            have hne := p4.ne hxi hyes
            refine cx_rowslice 0 rfl (fun adv capv hv => ?_)
            subst hv
            repeat' (first | (refine ycf ?_; apply ybk; (· first | (first | exact tk_ | (apply yad; (· rfl); (· exact hel _); (· exact hxl)))); (· rfl); (· rfl)) | refine t1_ ?_ | (refine ta_ ?_; intro _) | ((fail_if_success (refine ybi rfl ?_)); refine ybj rfl ?_ ?_ <;> (intro ht; rw [ht]; first | replace ht := of_decide_eq_true ht | replace ht := of_decide_eq_false ht | skip)) | (refine ych ?_; first | (refine ybw rfl ?_ ?_ <;> intro ht) | (refine ybx rfl ?_ ?_ <;> intro ht)))
            refine yba (ybd rfl rfl rfl (ybe rfl (sbc_sz x0))) rfl rfl rfl ybf (fun _ => ybf) ?_
            intro b13
            refine rx_append (sz := 20) 1 rfl rfl rfl (yaz 0 rfl) (by show (sbc x0).length = 1 * 20; omega) (fun u hu => List.all_eq_true.1 (sbc_one hxo.1 hxo.2) u hu) rfl (by omega) (by unfold maxLen; omega) (by omega) rfl rfl rfl ybf (fun _ => ybf) ?_
            intro v3 _
            repeat' (first | (refine ycf ?_; apply ybk; (· first | (first | exact tk_ | (apply yad; (· rfl); (· exact hel _); (· exact hxl)))); (· rfl); (· rfl)) | refine t1_ ?_ | (refine ta_ ?_; intro _) | ((fail_if_success (refine ybi rfl ?_)); refine ybj rfl ?_ ?_ <;> (intro ht; rw [ht]; first | replace ht := of_decide_eq_true ht | replace ht := of_decide_eq_false ht | skip)) | (refine ych ?_; first | (refine ybw rfl ?_ ?_ <;> intro ht) | (refine ybx rfl ?_ ?_ <;> intro ht)))
            refine cx_rowform 1 rfl (fun e1 e2 e3 => ?_) ?_
            · omega
            rintro g cap rfl
            refine cx_loop (X := Nat) (fun t => [(8, .slice (some ⟨bs, o, none⟩) S.length caps), (9, .slice (some ⟨g, 0, none⟩) (O.length + 1) cap), (10, .int .i64 i), (13, .int .i64 (t : Nat))]) (fun _ => h1) (fun t => [Res.row 71 20 (.slice (some ⟨g, 0, none⟩) (O.length + 1) cap) (O.length + 1) ((insS O t x0).flatMap sbc)])
              (fun t => t ≤ O.length ∧ ∀ e ∈ O.drop t, ordD x0.d e.d < 0) (fun t => t) O.length ⟨Nat.le_refl _, by simp⟩ ts_ (fun _ s => ?_) ?_
            · have s2 := s.tl
              rw [insS_all, List.flatMap_append, show [x0].flatMap sbc = sbc x0 by simp]
              exact s2
            rintro t ⟨ht, hup⟩
            have hLl : (insS O t x0).length = O.length + 1 := insS_len
            have hfin : (∀ (h0 : 0 < t), ordD (O[t - 1]'(by omega)).d x0.d < 0) → i + 1 ≤ S.length ∧ (insS O t x0).length ≤ i + 1 ∧ (∀ o ∈ insS O t x0, o ∈ S) ∧ OutR (S.map Sb.a) (i + 1) ((insS O t x0).map Sb.a) := fun hl => by
              refine ⟨by omega, by rw [hLl]; omega, fun z hz => ?_, p4.add hxi hyes (insS_strict p4.st ht hup hl) fun z => ?_⟩
              · rcases insS_mem.1 hz with rfl | hz
                · exact hxm
                · exact p3 z hz
              · rw [List.mem_map]
                constructor
                · rintro ⟨q, hq, rfl⟩
                  rcases insS_mem.1 hq with rfl | hq
                  · exact .inl rfl
                  · exact .inr (List.mem_map_of_mem hq)
                · rintro (rfl | hz)
                  · exact ⟨x0, insS_mem.2 (.inl rfl), rfl⟩
                  · obtain ⟨q, hq, rfl⟩ := List.mem_map.1 hz
                    exact ⟨q, insS_mem.2 (.inr hq), rfl⟩
            by_cases h0 : t = 0
            · subst h0
              have hf := hfin fun h0 => absurd h0 (by decide)
              repeat' (first | (refine ycf ?_; apply ybk; (· first | (exact tk_)); (· rfl); (· rfl)) | refine t1_ ?_ | (refine ta_ ?_; intro _) | ((fail_if_success (refine ybi rfl ?_)); refine ybj rfl ?_ ?_ <;> (intro ht; rw [ht]; first | replace ht := of_decide_eq_true ht | replace ht := of_decide_eq_false ht | skip)) | (refine ych ?_; first | (refine ybw rfl ?_ ?_ <;> intro ht) | (refine ybx rfl ?_ ?_ <;> intro ht)))
              refine cx_region_draw' rfl (by kernel_rfl) ?_
              repeat' (refine ycf ?_; (first | (first | (apply ybm; (· (first | (exact tk_) | exact tq_)); (· rfl); (· rfl); (· (exact th_))) | refine ybl rfl rfl ?_ | ((fail_if_success (refine ybi rfl ?_)); refine ybj rfl ?_ ?_ <;> (intro ht; rw [ht]; first | replace ht := of_decide_eq_true ht | replace ht := of_decide_eq_false ht | skip)) | (refine tb_ ?_ ?_ ?_; (· (exact to_)); (· intro _; (exact to_)); intro _) | (first | (refine tqs_ ?_ ?_ ?_; (· (exact to_)); (· (exact to_)))) | (apply ybn; (· (first | (exact tk_) | exact tq_)); (· rfl); (· rfl); (· rfl); (· (exact to_)))) | refine ycg ?_))
              repeat' (first | (refine ycf ?_; apply ybk; (· first | (exact tk_)); (· rfl); (· rfl)) | refine t1_ ?_ | (refine ta_ ?_; intro _) | ((fail_if_success (refine ybi rfl ?_)); refine ybj rfl ?_ ?_ <;> (intro ht; rw [ht]; first | replace ht := of_decide_eq_true ht | replace ht := of_decide_eq_false ht | skip)) | (refine ych ?_; first | (refine ybw rfl ?_ ?_ <;> intro ht) | (refine ybx rfl ?_ ?_ <;> intro ht)))
              refine nx_round (i + 1, .slice (some ⟨g, 0, none⟩) (O.length + 1) cap, insS O 0 x0) hf (by show S.length - (i + 1) < S.length - i; omega) ts_ (fun _ s => ?_)
              dsimp only
              show St _ h1 [Res.row _ _ _ (insS O 0 x0).length _] _
              rw [hLl]
              exact s
            · obtain ⟨y, hy⟩ : ∃ y, y = O[t - 1]'(by omega) := ⟨_, rfl⟩
              have hfin := hfin
              simp only [← hy] at hfin
              have hyO : y ∈ O := by rw [hy]; exact List.getElem_mem _
              have hyI : (insS O t x0)[t - 1]? = some y := by rw [hy]; exact insS_at (by omega) ht
              have hyv := hSv y (p3 y hyO)
              have hyo := hyv.one
              have hyl := sbc_len y
              have hel' := fun (L : List Res) (c : Cells h1 L ⟨g, 0, none⟩ ((insS O t x0).flatMap sbc)) => row_elR c hyI (show ((t : Int) - 1).toNat = t - 1 by omega)
              have B1 := rbefore_sp x0.d y.d h1
              have hset : ((insS O t x0).set t y).set (t - 1) x0 = insS O (t - 1) x0 := by rw [hy]; exact insS_set (by omega) ht
              have hcur : ((insS O t x0).set t y)[t - 1]? = some y := by rw [List.getElem?_set_ne (by omega)]; exact hyI
              have hne' : y.d ≠ x0.d := hne y.a (List.mem_map_of_mem hyO)
              by_cases hO : ordD x0.d y.d < 0
              · rw [decide_eq_true hO] at B1
                repeat' (first | (refine ycf ?_; apply ybk; (· first | (first | exact tk_ | (apply yad; (· rfl); (· exact sb_dot (hel _)); (· rfl)) | (apply yad; (· rfl); (· exact sb_dot (hel' _ (row_cells 0 rfl))); (· rfl)))); (· rfl); (· rfl)) | refine t1_ ?_ | (refine ta_ ?_; intro _) | ((fail_if_success (refine ybi rfl ?_)); refine ybj rfl ?_ ?_ <;> (intro ht; rw [ht]; first | replace ht := of_decide_eq_true ht | replace ht := of_decide_eq_false ht | skip)) | (refine ych ?_; first | (refine ybw rfl ?_ ?_ <;> intro ht) | (refine ybx rfl ?_ ?_ <;> intro ht)))
                refine cx_region_draw' rfl (by kernel_rfl) ?_
                repeat' (refine ycf ?_;(first|(first|(apply ybm;(·(first|(first|exact tk_|(apply yad;(·rfl);(·exact sb_dot (hel _));(·rfl))|(apply yad;(·rfl);(·exact sb_dot (hel' _ (row_cells 0 rfl)));(·rfl)))|exact tq_));(·rfl);(·rfl);(·(exact th_)))|refine ybl rfl rfl ?_|((fail_if_success (refine ybi rfl ?_));refine ybj rfl ?_ ?_<;>(intro ht;rw [ht];first|replace ht := of_decide_eq_true ht|replace ht := of_decide_eq_false ht|skip))|(refine tb_ ?_ ?_ ?_;(·(exact to_));(·intro _;(exact to_));intro _)|(first|(refine tqs_ ?_ ?_ ?_;(·(exact to_));(·(exact to_))))|(apply ybn;(·(first|(first|exact tk_|(apply yad;(·rfl);(·exact sb_dot (hel _));(·rfl))|(apply yad;(·rfl);(·exact sb_dot (hel' _ (row_cells 0 rfl)));(·rfl)))|exact tq_));(·rfl);(·rfl);(·rfl);(·(exact to_))))|refine ycg ?_))
                (refine ycn (ycp Try.func53 rfl (by kernel_rfl) rfl) (B1) rfl rfl rfl ?_ ?_; (· (exact to_)))
                repeat' (refine ycf ?_;(first|(first|(apply ybm;(·(first|(first|exact tk_|(apply yad;(·rfl);(·exact sb_dot (hel _));(·rfl))|(apply yad;(·rfl);(·exact sb_dot (hel' _ (row_cells 0 rfl)));(·rfl)))|exact tq_));(·rfl);(·rfl);(·(exact th_)))|refine ybl rfl rfl ?_|((fail_if_success (refine ybi rfl ?_));refine ybj rfl ?_ ?_<;>(intro ht;rw [ht];first|replace ht := of_decide_eq_true ht|replace ht := of_decide_eq_false ht|skip))|(refine tb_ ?_ ?_ ?_;(·(exact to_));(·intro _;(exact to_));intro _)|(first|(refine tqs_ ?_ ?_ ?_;(·(exact to_));(·(exact to_))))|(apply ybn;(·(first|(first|exact tk_|(apply yad;(·rfl);(·exact sb_dot (hel _));(·rfl))|(apply yad;(·rfl);(·exact sb_dot (hel' _ (row_cells 0 rfl)));(·rfl)))|exact tq_));(·rfl);(·rfl);(·rfl);(·(exact to_))))|refine ycg ?_))
                repeat' (first | (refine ycf ?_; apply ybk; (· first | (first | exact tk_ | (apply yad; (· rfl); (· exact sb_dot (hel _)); (· rfl)) | (apply yad; (· rfl); (· exact sb_dot (hel' _ (row_cells 0 rfl))); (· rfl)))); (· rfl); (· rfl)) | refine t1_ ?_ | (refine ta_ ?_; intro _) | ((fail_if_success (refine ybi rfl ?_)); refine ybj rfl ?_ ?_ <;> (intro ht; rw [ht]; first | replace ht := of_decide_eq_true ht | replace ht := of_decide_eq_false ht | skip)) | (refine ych ?_; first | (refine ybw rfl ?_ ?_ <;> intro ht) | (refine ybx rfl ?_ ?_ <;> intro ht)))
                refine cx_region_drawL [Res.part g (0 + ((t : Int) - 1).toNat * 20) (.int .i64 y.d.1) (sbc y).tail] [] rfl (by kernel_rfl) ?_
                repeat' (refine ycf ?_;(first|(first|(apply ybm;(·(first|(first|exact tk_|(apply yad;(·rfl);(·exact (show Cells _ _ _ (sbc y) from part_cells 0 rfl));(·exact hyl))|(apply yad;(·rfl);(·exact hel _);(·exact hxl)))|exact tq_));(·rfl);(·rfl);(·(first|exact row_partR hyI (by omega)|exact row_partR hcur (by omega))))|refine ybl rfl rfl ?_|((fail_if_success (refine ybi rfl ?_));refine ybj rfl ?_ ?_<;>(intro ht;rw [ht];first|replace ht := of_decide_eq_true ht|replace ht := of_decide_eq_false ht|skip))|(refine tb_ ?_ ?_ ?_;(·(first|exact ybf|(refine .inl ?_;(first|exact row_partR hyI (by omega)|exact row_partR hcur (by omega)))|exact to_));(·intro _;(first|exact ybf|(refine .inl ?_;(first|exact row_partR hyI (by omega)|exact row_partR hcur (by omega)))|exact to_));intro _)|(first|(first|(refine rx_rowstore 0 rfl rfl rfl (sbc_sz y) (by rw [sbc_sz];omega) (sbc_one hyo.1 hyo.2) (spl_flat (j := t) (by omega) (by omega)) rfl rfl ?_ ?_ ?_;(·(first|exact ybf|(refine .inl ?_;(first|exact row_partR hyI (by omega)|exact row_partR hcur (by omega)))|exact to_));(·(first|exact ybf|(refine .inl ?_;(first|exact row_partR hyI (by omega)|exact row_partR hcur (by omega)))|exact to_)))|(refine rx_rowstore 0 rfl rfl rfl (sbc_sz x0) (by rw [sbc_sz];omega) (sbc_one hxo.1 hxo.2) (spl_flat (j := t - 1) (by omega) (by rw [List.length_set];omega)) rfl rfl ?_ ?_ ?_;(·(first|exact ybf|(refine .inl ?_;(first|exact row_partR hyI (by omega)|exact row_partR hcur (by omega)))|exact to_));(·(first|exact ybf|(refine .inl ?_;(first|exact row_partR hyI (by omega)|exact row_partR hcur (by omega)))|exact to_))))|(refine tqs_ ?_ ?_ ?_;(·(first|exact ybf|(refine .inl ?_;(first|exact row_partR hyI (by omega)|exact row_partR hcur (by omega)))|exact to_));(·(first|exact ybf|(refine .inl ?_;(first|exact row_partR hyI (by omega)|exact row_partR hcur (by omega)))|exact to_))))|(apply ybn;(·(first|(first|exact tk_|(apply yad;(·rfl);(·exact (show Cells _ _ _ (sbc y) from part_cells 0 rfl));(·exact hyl))|(apply yad;(·rfl);(·exact hel _);(·exact hxl)))|exact tq_));(·rfl);(·rfl);(·rfl);(·(first|exact ybf|(refine .inl ?_;(first|exact row_partR hyI (by omega)|exact row_partR hcur (by omega)))|exact to_))))|refine ycg ?_))
                rw [hset]
                repeat' (first | (refine ycf ?_; apply ybk; (· first | (exact tk_)); (· rfl); (· rfl)) | refine t1_ ?_ | (refine ta_ ?_; intro _) | ((fail_if_success (refine ybi rfl ?_)); refine ybj rfl ?_ ?_ <;> (intro ht; rw [ht]; first | replace ht := of_decide_eq_true ht | replace ht := of_decide_eq_false ht | skip)) | (refine ych ?_; first | (refine ybw rfl ?_ ?_ <;> intro ht) | (refine ybx rfl ?_ ?_ <;> intro ht)))
                refine nx_round (t - 1) ⟨by omega, fun z hz => ?_⟩ (by omega) (by repeat' (first | exact Sub.nil | refine Sub.cons rfl rfl ?_ | refine Sub.cons rfl (congrArg (Value.int .i64) (by omega)) ?_)) (fun _ s => s)
                have e2 : O.drop (t - 1) = y :: O.drop t := by
                  rw [List.drop_eq_getElem_cons (by omega), ← hy, show t - 1 + 1 = t by omega]
                rw [e2] at hz
                rcases List.mem_cons.1 hz with rfl | hz
                · exact hO
                · exact hup z hz
              · rw [decide_eq_false hO] at B1
                have hf := hfin fun _ => by
                  rw [ord_neg] at hO ⊢
                  have : ¬ (x0.d.1 = y.d.1 ∧ x0.d.2 = y.d.2) := fun e => hne' (Prod.ext e.1.symm e.2.symm)
                  omega
                repeat' (first | (refine ycf ?_; apply ybk; (· first | (first | exact tk_ | (apply yad; (· rfl); (· exact sb_dot (hel _)); (· rfl)) | (apply yad; (· rfl); (· exact sb_dot (hel' _ (row_cells 0 rfl))); (· rfl)))); (· rfl); (· rfl)) | refine t1_ ?_ | (refine ta_ ?_; intro _) | ((fail_if_success (refine ybi rfl ?_)); refine ybj rfl ?_ ?_ <;> (intro ht; rw [ht]; first | replace ht := of_decide_eq_true ht | replace ht := of_decide_eq_false ht | skip)) | (refine ych ?_; first | (refine ybw rfl ?_ ?_ <;> intro ht) | (refine ybx rfl ?_ ?_ <;> intro ht)))
                refine cx_region_draw' rfl (by kernel_rfl) ?_
                repeat' (refine ycf ?_;(first|(first|(apply ybm;(·(first|(first|exact tk_|(apply yad;(·rfl);(·exact sb_dot (hel _));(·rfl))|(apply yad;(·rfl);(·exact sb_dot (hel' _ (row_cells 0 rfl)));(·rfl)))|exact tq_));(·rfl);(·rfl);(·(exact th_)))|refine ybl rfl rfl ?_|((fail_if_success (refine ybi rfl ?_));refine ybj rfl ?_ ?_<;>(intro ht;rw [ht];first|replace ht := of_decide_eq_true ht|replace ht := of_decide_eq_false ht|skip))|(refine tb_ ?_ ?_ ?_;(·(exact to_));(·intro _;(exact to_));intro _)|(first|(refine tqs_ ?_ ?_ ?_;(·(exact to_));(·(exact to_))))|(apply ybn;(·(first|(first|exact tk_|(apply yad;(·rfl);(·exact sb_dot (hel _));(·rfl))|(apply yad;(·rfl);(·exact sb_dot (hel' _ (row_cells 0 rfl)));(·rfl)))|exact tq_));(·rfl);(·rfl);(·rfl);(·(exact to_))))|refine ycg ?_))
                (refine ycn (ycp Try.func53 rfl (by kernel_rfl) rfl) (B1) rfl rfl rfl ?_ ?_; (· (exact to_)))
                repeat' (refine ycf ?_;(first|(first|(apply ybm;(·(first|(first|exact tk_|(apply yad;(·rfl);(·exact sb_dot (hel _));(·rfl))|(apply yad;(·rfl);(·exact sb_dot (hel' _ (row_cells 0 rfl)));(·rfl)))|exact tq_));(·rfl);(·rfl);(·(exact th_)))|refine ybl rfl rfl ?_|((fail_if_success (refine ybi rfl ?_));refine ybj rfl ?_ ?_<;>(intro ht;rw [ht];first|replace ht := of_decide_eq_true ht|replace ht := of_decide_eq_false ht|skip))|(refine tb_ ?_ ?_ ?_;(·(exact to_));(·intro _;(exact to_));intro _)|(first|(refine tqs_ ?_ ?_ ?_;(·(exact to_));(·(exact to_))))|(apply ybn;(·(first|(first|exact tk_|(apply yad;(·rfl);(·exact sb_dot (hel _));(·rfl))|(apply yad;(·rfl);(·exact sb_dot (hel' _ (row_cells 0 rfl)));(·rfl)))|exact tq_));(·rfl);(·rfl);(·rfl);(·(exact to_))))|refine ycg ?_))
                repeat' (first | (refine ycf ?_; apply ybk; (· first | (first | exact tk_ | (apply yad; (· rfl); (· exact sb_dot (hel _)); (· rfl)) | (apply yad; (· rfl); (· exact sb_dot (hel' _ (row_cells 0 rfl))); (· rfl)))); (· rfl); (· rfl)) | refine t1_ ?_ | (refine ta_ ?_; intro _) | ((fail_if_success (refine ybi rfl ?_)); refine ybj rfl ?_ ?_ <;> (intro ht; rw [ht]; first | replace ht := of_decide_eq_true ht | replace ht := of_decide_eq_false ht | skip)) | (refine ych ?_; first | (refine ybw rfl ?_ ?_ <;> intro ht) | (refine ybx rfl ?_ ?_ <;> intro ht)))
                refine nx_round (i + 1, .slice (some ⟨g, 0, none⟩) (O.length + 1) cap, insS O t x0) hf (by show S.length - (i + 1) < S.length - i; omega) ts_ (fun _ s => ?_)
                dsimp only
                show St _ h1 [Res.row _ _ _ (insS O t x0).length _] _
                rw [hLl]
                exact s
      · have hie : i = (S.map Sb.a).length := by rw [List.length_map]; omega
        rw [hie] at p4
        have hE := hend O p4
        rw [List.length_map] at hE
        rw [hE]
        refine cx_rowslice 0 rfl (fun adv capv hv => ?_)
        subst hv
        by_cases h64 : 64 < O.length
        · rw [if_pos h64]
          repeat' (first | (refine ycf ?_; apply ybk; (· first | (exact tk_)); (· rfl); (· rfl)) | refine t1_ ?_ | (refine ta_ ?_; intro _) | ((fail_if_success (refine ybi rfl ?_)); refine ybj rfl ?_ ?_ <;> (intro ht; rw [ht]; first | replace ht := of_decide_eq_true ht | replace ht := of_decide_eq_false ht | skip)) | (refine ych ?_; first | (refine ybw rfl ?_ ?_ <;> intro ht) | (refine ybx rfl ?_ ?_ <;> intro ht)))
          exact nx_ret2 rfl (rv_tmp rfl) (rv_tmp rfl) (fun w' s' => ⟨(h, .slice none 0 0, []), rfl, s'.nil.base, n0, rfl⟩)
        · rw [if_neg h64]
          repeat' (first | (refine ycf ?_; apply ybk; (· first | (exact tk_)); (· rfl); (· rfl)) | refine t1_ ?_ | (refine ta_ ?_; intro _) | ((fail_if_success (refine ybi rfl ?_)); refine ybj rfl ?_ ?_ <;> (intro ht; rw [ht]; first | replace ht := of_decide_eq_true ht | replace ht := of_decide_eq_false ht | skip)) | (refine ych ?_; first | (refine ybw rfl ?_ ?_ <;> intro ht) | (refine ybx rfl ?_ ?_ <;> intro ht)))
          refine nx_ret2 rfl (rv_tmp rfl) (rv_tmp rfl) (fun w' s' => ?_)
          obtain ⟨h2, hle2, hs2, s2⟩ := s'.rowPersistA (by intro x hx; cases hx)
          exact ⟨(h2, .slice adv O.length capv, O), rfl, s2.nil, ⟨hs2, fun z hz => (hSv z (p3 z hz)).mono hle2⟩, rfl⟩
    · rw [show mergeF (a.map Sb.a) (b.map Sb.a) = ([], checkA (b.map Sb.a)) by unfold mergeF; rw [if_neg (by rw [ca]; decide), if_pos cb]]
      rw [ca] at CA
      generalize checkA (b.map Sb.a) = er at CB cb
      repeat' (first | (refine ycf ?_; apply ybk; (· first | (exact tk_)); (· rfl); (· rfl)) | refine t1_ ?_ | (refine ta_ ?_; intro _) | ((fail_if_success (refine ybi rfl ?_)); refine ybj rfl ?_ ?_ <;> (intro ht; rw [ht]; first | replace ht := of_decide_eq_true ht | replace ht := of_decide_eq_false ht | skip)) | (refine ych ?_; first | (refine ybw rfl ?_ ?_ <;> intro ht) | (refine ybx rfl ?_ ?_ <;> intro ht)))
      (refine ycn (ycp Try.func52 rfl (by kernel_rfl) rfl) (CA) rfl rfl rfl ?_ ?_; (· (exact to_)))
      repeat' (first | (refine ycf ?_; apply ybk; (· first | (exact tk_)); (· rfl); (· rfl)) | refine t1_ ?_ | (refine ta_ ?_; intro _) | ((fail_if_success (refine ybi rfl ?_)); refine ybj rfl ?_ ?_ <;> (intro ht; rw [ht]; first | replace ht := of_decide_eq_true ht | replace ht := of_decide_eq_false ht | skip)) | (refine ych ?_; first | (refine ybw rfl ?_ ?_ <;> intro ht) | (refine ybx rfl ?_ ?_ <;> intro ht)))
      (refine ycn (ycp Try.func52 rfl (by kernel_rfl) rfl) (CB) rfl rfl rfl ?_ ?_; (· (exact to_)))
      repeat' (first | (refine ycf ?_; apply ybk; (· first | (exact tk_)); (· rfl); (· rfl)) | refine t1_ ?_ | (refine ta_ ?_; intro _) | ((fail_if_success (refine ybi rfl ?_)); refine ybj rfl ?_ ?_ <;> (intro ht; rw [ht]; first | replace ht := of_decide_eq_true ht | replace ht := of_decide_eq_false ht | skip)) | (refine ych ?_; first | (refine ybw rfl ?_ ?_ <;> intro ht) | (refine ybx rfl ?_ ?_ <;> intro ht)))
      exact nx_ret2 rfl (rv_tmp rfl) (rv_tmp rfl) (fun w' s' => ⟨(h, .slice none 0 0, []), rfl, s'.nil, n0, rfl⟩)
  · rw [show mergeF (a.map Sb.a) (b.map Sb.a) = ([], checkA (a.map Sb.a)) by unfold mergeF; rw [if_pos ca]]
    generalize checkA (a.map Sb.a) = er at CA ca
    repeat' (first | (refine ycf ?_; apply ybk; (· first | (exact tk_)); (· rfl); (· rfl)) | refine t1_ ?_ | (refine ta_ ?_; intro _) | ((fail_if_success (refine ybi rfl ?_)); refine ybj rfl ?_ ?_ <;> (intro ht; rw [ht]; first | replace ht := of_decide_eq_true ht | replace ht := of_decide_eq_false ht | skip)) | (refine ych ?_; first | (refine ybw rfl ?_ ?_ <;> intro ht) | (refine ybx rfl ?_ ?_ <;> intro ht)))
    (refine ycn (ycp Try.func52 rfl (by kernel_rfl) rfl) (CA) rfl rfl rfl ?_ ?_; (· (exact to_)))
    repeat' (first | (refine ycf ?_; apply ybk; (· first | (exact tk_)); (· rfl); (· rfl)) | refine t1_ ?_ | (refine ta_ ?_; intro _) | ((fail_if_success (refine ybi rfl ?_)); refine ybj rfl ?_ ?_ <;> (intro ht; rw [ht]; first | replace ht := of_decide_eq_true ht | replace ht := of_decide_eq_false ht | skip)) | (refine ych ?_; first | (refine ybw rfl ?_ ?_ <;> intro ht) | (refine ybx rfl ?_ ?_ <;> intro ht)))
    exact nx_ret2 rfl (rv_tmp rfl) (rv_tmp rfl) (fun w' s' => ⟨(h, .slice none 0 0, []), rfl, s'.nil, n0, rfl⟩)
end Go.Proofs.Ytkkjppeaaicgaaa
end
