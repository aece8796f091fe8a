/-
  DotH: slices.Values, AppendSeq, Collect at dots.
  Conditions: each theorem states its own (at most a million dots).
-/
import Derived.Test.YtbpahaciegfpfaaCkRange
import Derived.Test.YtbpahaciegfpfaaDotG
namespace Go.Proofs.Ytbpahaciegfpfaa
open Go Go.Ck
set_option maxRecDepth 100000
set_option maxHeartbeats 2000000
set_option linter.unusedVariables false

theorem st_left {K : Bs} {h : View} {A B : List Res} {w : World} (s : St K h (A ++ B) w) : St K h A w := St.drop (L := B) (L' := A) (s.perm List.perm_append_comm)

theorem values1_sp (b l : Nat) (mv : Value) (Lm : List Dt) (h : View) (LL : Nat → Value → List Res) (v0 : Value) (hs : Ds h mv Lm) (hb : h b = some (.cells #[mv] 22)) (hlen : Lm.length ≤ 1000000)
    (hY : ∀ k (hk : k < Lm.length) v w, St ⟨w, h, doms (LL k v)⟩ h (LL k v) w → YieldAt Fence.wide (0 - 1) Try.prog l #[dv Lm[k]] w fun e w' => ∃ v', e = .returned (.bool true) ∧ St ⟨w, h, doms (LL k v)⟩ h (LL (k + 1) v') w' ∧ True)
    (w : World) (s : St ⟨w, h, doms (LL 0 v0)⟩ h (LL 0 v0) w) :
    Calls Try.prog 69 [.func (.yield l) #[] #[], .pointer (some ⟨b, 0, none⟩)].toArray w fun e w' => (∃ v, e = .returned v) ∧ ∃ v, True ∧ St ⟨w, h, doms (LL 0 v0)⟩ h (LL Lm.length v) w' := by
  obtain ⟨_, ad, cap, rfl, hcap, _⟩ := id hs
  refine calls_enter Try.func69 rfl Try.ntmps69 rfl s ?_
  repeat' (first | (refine ycf ?_; apply ybk; (· first | (apply yae; (· rfl); (· exact cell_view hb rfl))); (· rfl); (· rfl)) | refine t1_ ?_ | (refine ta_ ?_; intro _) | ((fail_if_success (refine ybi rfl ?_)); refine ybj rfl ?_ ?_ <;> (intro ht; rw [ht]; first | replace ht := of_decide_eq_true ht | replace ht := of_decide_eq_false ht | skip)) | (refine ych ?_; first | (refine ybw rfl ?_ ?_ <;> intro ht) | (refine ybx rfl ?_ ?_ <;> intro ht)))
  refine cx_loop (X := Nat × Value) (fun x => [(0, .func (.yield l) #[] #[]), (5, .slice ad Lm.length cap), (6, .int .i64 Lm.length), (7, .int .i64 x.1)]) (fun _ => h) (fun x => LL x.1 x.2) (fun x => x.1 ≤ Lm.length) (fun x => Lm.length - x.1) (0, v0) (by simp) ts_ (fun _ s => s) ?_
  rintro ⟨k, v⟩ hk
  replace hk : k ≤ Lm.length := hk
  by_cases hkl : k < Lm.length
  · obtain ⟨bs, o, rfl⟩ := hs.ad (by omega) (by omega)
    have hel : ∀ L, Cells h L ⟨bs, o + k * 2, none⟩ (dcs Lm[k]) := fun L => hs.elem dcs_len k hkl
    repeat' (first | (refine ych ?_; refine cx_regionI (id := 3) ?_) | (first | (refine ycf ?_; apply ybk; (· first | (first | (apply yad; (· rfl); (· exact hel _); (· rfl))) | (apply yae; (· rfl); (· exact cell_view hb rfl))); (· rfl); (· rfl)) | refine t1_ ?_ | (refine ta_ ?_; intro _) | ((fail_if_success (refine ybi rfl ?_)); refine ybj rfl ?_ ?_ <;> (intro ht; rw [ht]; first | replace ht := of_decide_eq_true ht | replace ht := of_decide_eq_false ht | skip)) | (refine ych ?_; first | (refine ybw rfl ?_ ?_ <;> intro ht) | (refine ybx rfl ?_ ?_ <;> intro ht))))
    · (apply li_v; (· (first | (first | (apply yad; (· rfl); (· exact hel _); (· rfl))) | (apply yae; (· rfl); (· exact cell_view hb rfl)) | exact tq_)); (· rfl))
      (apply li_v; (· (first | (first | (apply yad; (· rfl); (· exact hel _); (· rfl))) | (apply yae; (· rfl); (· exact cell_view hb rfl)) | exact tq_)); (· rfl))
      refine li_yield (X := Value) (v := fun _ => .bool true) (LL := fun v' => LL (k + 1) v') (p := fun _ => True) rfl rfl rfl (List.perm_append_comm (l₁ := [_])) (hY k hkl v) ?_
      intro v' _
      (apply li_v; (· (first | (first | (apply yad; (· rfl); (· exact hel _); (· rfl))) | (apply yae; (· rfl); (· exact cell_view hb rfl)) | exact tq_)); (· rfl))
      refine li_nil ?_
      repeat' (first | (refine ycf ?_; apply ybk; (· first | (first | (apply yad; (· rfl); (· exact hel _); (· rfl))) | (apply yae; (· rfl); (· exact cell_view hb rfl))); (· rfl); (· rfl)) | refine t1_ ?_ | (refine ta_ ?_; intro _) | ((fail_if_success (refine ybi rfl ?_)); refine ybj rfl ?_ ?_ <;> (intro ht; rw [ht]; first | replace ht := of_decide_eq_true ht | replace ht := of_decide_eq_false ht | skip)) | (refine ych ?_; first | (refine ybw rfl ?_ ?_ <;> intro ht) | (refine ybx rfl ?_ ?_ <;> intro ht)))
      exact nx_round (k + 1, v') (by show k + 1 ≤ _; omega) (by show Lm.length - (k + 1) < Lm.length - k; omega) ts_ (fun _ s => st_left s)
    · omega
  · repeat' (first | (refine ycf ?_; apply ybk; (· first | (first | (apply yad; (· rfl); (· exact hel _); (· rfl))) | (apply yae; (· rfl); (· exact cell_view hb rfl))); (· rfl); (· rfl)) | refine t1_ ?_ | (refine ta_ ?_; intro _) | ((fail_if_success (refine ybi rfl ?_)); refine ybj rfl ?_ ?_ <;> (intro ht; rw [ht]; first | replace ht := of_decide_eq_true ht | replace ht := of_decide_eq_false ht | skip)) | (refine ych ?_; first | (refine ybw rfl ?_ ?_ <;> intro ht) | (refine ybx rfl ?_ ?_ <;> intro ht)))
    · omega
    have ek : k = Lm.length := by omega
    subst ek
    exact nx_end0 rfl (fun w' s' => ⟨⟨_, rfl⟩, v, trivial, s'⟩)

abbrev asL (Bs : Nat) (Lm : List Dt) (k : Nat) (v : Value) : List Res := [Res.row 24 2 v k ((Lm.take k).flatMap dcs), Res.blk Bs (.cells #[v] 22 (0, 0))]
theorem appendSeq_sp (b : Nat) (mv : Value) (Lm : List Dt) (h : View) (hs : Ds h mv Lm) (hb : h b = some (.cells #[mv] 22)) (hlen : Lm.length ≤ 1000000) (w : World) (s : St ⟨w, h, []⟩ h [] w) :
    Calls Try.prog 78 [.slice none 0 0, .func (.func 69) #[] #[.pointer (some ⟨b, 0, none⟩)]].toArray w fun e w' => ∃ v, e = .returned v ∧ St ⟨w, h, []⟩ h [rowD v Lm] w' ∧ True := by
  refine calls_enter_marks rfl rfl rfl rfl s ?_
  repeat' (first | (refine ycf ?_; apply ybk; (· first | (first | (apply yad; (· rfl); (· exact hel _); (· rfl))) | (apply yae; (· rfl); (· exact cell_view hb rfl))); (· rfl); (· rfl)) | refine t1_ ?_ | (refine ta_ ?_; intro _) | ((fail_if_success (refine ybi rfl ?_)); refine ybj rfl ?_ ?_ <;> (intro ht; rw [ht]; first | replace ht := of_decide_eq_true ht | replace ht := of_decide_eq_false ht | skip)) | (refine ych ?_; first | (refine ybw rfl ?_ ?_ <;> intro ht) | (refine ybx rfl ?_ ?_ <;> intro ht)))
  rename_i Bs
  refine cx_row 24 2 ?_
  refine cx_rangeFunc (cap := [.pointer (some ⟨b, 0, none⟩)]) (X := Value) (LL := asL Bs Lm Lm.length) (p := fun _ => True) rfl rfl rfl rfl ?_ ?_
  · intro tm fn l D w0 f s0
    refine values1_sp b l mv Lm h (fun k v => Res.blk l (.loop (rec0 tm fn D _ _ _)) :: asL Bs Lm k v) (.slice none 0 0) hs hb hlen ?_ w0 s0
    intro k hk v w1 s1
    refine yieldAt_ck (List.Perm.refl _) rfl (f.put (dst := some 7) rfl _) s1 ?_
    refine ci_region rfl ?_
    repeat' (first | (refine ycf ?_; apply ybk; (· first | (first | (apply yad; (· rfl); (· exact hel _); (· rfl))) | (apply yae; (· rfl); (· exact cell_view hb rfl))); (· rfl); (· rfl)) | refine t1_ ?_ | (refine ta_ ?_; intro _) | ((fail_if_success (refine ybi rfl ?_)); refine ybj rfl ?_ ?_ <;> (intro ht; rw [ht]; first | replace ht := of_decide_eq_true ht | replace ht := of_decide_eq_false ht | skip)) | (refine ych ?_; first | (refine ybw rfl ?_ ?_ <;> intro ht) | (refine ybx rfl ?_ ?_ <;> intro ht)))
    refine nx_begins (List.Perm.swap _ _ _) rfl ?_
    refine ci_block (ci_region rfl ?_)
    repeat' (first | (refine ycf ?_; apply ybk; (· first | (first | (apply yad; (· rfl); (· exact hel _); (· rfl))) | (apply yae; (· rfl); (· exact cell_view hb rfl))); (· rfl); (· rfl)) | refine t1_ ?_ | (refine ta_ ?_; intro _) | ((fail_if_success (refine ybi rfl ?_)); refine ybj rfl ?_ ?_ <;> (intro ht; rw [ht]; first | replace ht := of_decide_eq_true ht | replace ht := of_decide_eq_false ht | skip)) | (refine ych ?_; first | (refine ybw rfl ?_ ?_ <;> intro ht) | (refine ybx rfl ?_ ?_ <;> intro ht)))
    refine rx_append (sz := 2) 3 rfl rfl rfl (yaz 0 rfl) rfl (one_dcs [Lm[k]]) rfl (by omega) (by unfold maxLen; omega) (by omega) rfl rfl rfl ybf (fun _ => ybf) ?_
    intro v' _
    refine rx_rowform 3 rfl (fun _ h0 _ => (by omega)) ?_
    rintro g cap rfl
    repeat' (first | (refine ycf ?_; apply ybk; (· first | (first | (apply yad; (· rfl); (· exact hel _); (· rfl))) | (apply yae; (· rfl); (· exact cell_view hb rfl))); (· rfl); (· rfl)) | refine t1_ ?_ | (refine ta_ ?_; intro _) | ((fail_if_success (refine ybi rfl ?_)); refine ybj rfl ?_ ?_ <;> (intro ht; rw [ht]; first | replace ht := of_decide_eq_true ht | replace ht := of_decide_eq_false ht | skip)) | (refine ych ?_; first | (refine ybw rfl ?_ ?_ <;> intro ht) | (refine ybx rfl ?_ ?_ <;> intro ht)))
    have eT : Lm.take (k + 1) = Lm.take k ++ [Lm[k]] := List.take_succ_eq_append_getElem hk
    refine nx_roundEnd (List.Perm.swap _ _ _) (fun w2 s2 => ⟨.slice (some ⟨g, 0, none⟩) (k + 1) cap, rfl, ?_, trivial⟩)
    have s3 := s2.perm (List.Perm.trans (List.Perm.swap _ _ _) (List.Perm.cons _ (List.Perm.swap _ _ _)))
    have s5 := s3.tl.tl
    show St _ _ (_ :: asL Bs Lm (k + 1) (.slice (some ⟨g, 0, none⟩) (k + 1) cap)) w2
    unfold asL
    rw [eT, List.flatMap_append]
    exact s5
  · intro v tm D _ f w0 s0
    change Code.wp _ _ _ _ _
    refine wp_seq (ld_region ?_ f s0)
    (apply ld_v; (· (first | (first | (apply yad; (· rfl); (· exact hel _); (· rfl))) | (apply yae; (· rfl); (· exact cell_view hb rfl)) | exact tq_)); (· rfl))
    (apply ld_v; (· (first | (first | (apply yad; (· rfl); (· exact hel _); (· rfl))) | (apply yae; (· rfl); (· exact cell_view hb rfl)) | exact tq_)); (· rfl))
    refine ld_nil (fun tm' w' f' s' => ?_)
    change Code.wp _ _ _ _ _
    refine wp_ret (marks_ret rfl f' s' (rv_tmp rfl) (fun w' s' => ⟨v, rfl, ?_, trivial⟩))
    have := s'.keep1
    rw [List.take_of_length_le (Nat.le_refl _)] at this
    exact this

theorem collect_sp (b : Nat) (mv : Value) (Lm : List Dt) (h : View) (hs : Ds h mv Lm) (hb : h b = some (.cells #[mv] 22)) (hlen : Lm.length ≤ 1000000) (w : World) (s : St ⟨w, h, []⟩ h [] w) :
    Calls Try.prog 67 [.func (.func 69) #[] #[.pointer (some ⟨b, 0, none⟩)]].toArray w fun e w' => ∃ v, e = .returned v ∧ St ⟨w, h, []⟩ h [rowD v Lm] w' ∧ True := by
  refine calls_enter Try.func67 rfl Try.ntmps67 rfl s ?_
  repeat' (first | (refine ycf ?_; apply ybk; (· first | (first | (apply yad; (· rfl); (· exact hel _); (· rfl))) | (apply yae; (· rfl); (· exact cell_view hb rfl))); (· rfl); (· rfl)) | refine t1_ ?_ | (refine ta_ ?_; intro _) | ((fail_if_success (refine ybi rfl ?_)); refine ybj rfl ?_ ?_ <;> (intro ht; rw [ht]; first | replace ht := of_decide_eq_true ht | replace ht := of_decide_eq_false ht | skip)) | (refine ych ?_; first | (refine ybw rfl ?_ ?_ <;> intro ht) | (refine ybx rfl ?_ ?_ <;> intro ht)))
  (refine yco (ycp Try.func78 rfl (by kernel_rfl) rfl) (appendSeq_sp b mv Lm h hs hb hlen) rfl rfl rfl ?_ ?_ ?_; (· (exact to_)); (· intro _ _ hle; (exact to_)); intro x px hle)
  repeat' (first | (refine ycf ?_; apply ybk; (· first | (first | (apply yad; (· rfl); (· exact hel _); (· rfl))) | (apply yae; (· rfl); (· exact cell_view hb rfl))); (· rfl); (· rfl)) | refine t1_ ?_ | (refine ta_ ?_; intro _) | ((fail_if_success (refine ybi rfl ?_)); refine ybj rfl ?_ ?_ <;> (intro ht; rw [ht]; first | replace ht := of_decide_eq_true ht | replace ht := of_decide_eq_false ht | skip)) | (refine ych ?_; first | (refine ybw rfl ?_ ?_ <;> intro ht) | (refine ybx rfl ?_ ?_ <;> intro ht)))
  exact nx_ret1 rfl (rv_tmp rfl) (fun w' s' => ⟨_, rfl, s', trivial⟩)

theorem values_sp (mv : Value) (Lm : List Dt) (h : View) (hs : Ds h mv Lm) (w : World) (s : St ⟨w, h, []⟩ h [] w) :
    Calls Try.prog 55 [mv].toArray w fun e w' => ∃ b, e = .returned (.func (.func 69) #[] #[.pointer (some ⟨b, 0, none⟩)]) ∧ St ⟨w, h, []⟩ (addV h b (.cells #[mv] 22 (0, 0))) [] w' ∧ h b = none := by
  obtain ⟨_, ad, cap, rfl, hcap, _⟩ := id hs
  refine calls_enter Try.func55 rfl Try.ntmps55 rfl s ?_
  repeat' (first | (refine ycf ?_; apply ybk; (· first | (first | (apply yad; (· rfl); (· exact hel _); (· rfl))) | (apply yae; (· rfl); (· exact cell_view hb rfl))); (· rfl); (· rfl)) | refine t1_ ?_ | (refine ta_ ?_; intro _) | ((fail_if_success (refine ybi rfl ?_)); refine ybj rfl ?_ ?_ <;> (intro ht; rw [ht]; first | replace ht := of_decide_eq_true ht | replace ht := of_decide_eq_false ht | skip)) | (refine ych ?_; first | (refine ybw rfl ?_ ?_ <;> intro ht) | (refine ybx rfl ?_ ?_ <;> intro ht)))
  rename_i b
  exact nx_ret1 rfl (rv_tmp rfl) (fun w' s' => ⟨b, rfl, s'.persist rfl, s'.dis b (by simp [doms, Res.blk])⟩)
end Go.Proofs.Ytbpahaciegfpfaa
