/-
  BitD: dot.Write.
  Conditions: at most 2^62 dots.
-/
import Derived.Test.YtbpahaciegfpfaaBitC
import Derived.Test.YtbpahaciegfpfaaDotL
namespace Go.Proofs.Ytbpahaciegfpfaa
open Go Go.Ck
set_option maxRecDepth 100000
set_option maxHeartbeats 2000000
set_option linter.unusedVariables false

def num8 (x : Int) : List Int := (putLow 8 x).reverse
def num1 (x : Int) : List Int := (putLow 1 x).reverse
def encD (d : Dt) : List Int := num8 d.1 ++ num8 d.2
def encW (u : List Int) (l : List Dt) : List Int := u.flatMap num8 ++ num1 l.length ++ l.flatMap encD
theorem num8_len (x : Int) : (num8 x).length = 8 := by simp [num8, putLow_len]
theorem num1_len (x : Int) : (num1 x).length = 1 := by simp [num1, putLow_len]
theorem encU_len : ∀ u : List Int, (u.flatMap num8).length = 8 * u.length
  | [] => rfl
  | x :: u => by rw [List.flatMap_cons, List.length_append, num8_len, encU_len u, List.length_cons]; omega
theorem encD_len (d : Dt) : (encD d).length = 16 := by simp [encD, num8_len]
theorem encL_len : ∀ l : List Dt, (l.flatMap encD).length = 16 * l.length
  | [] => rfl
  | x :: l => by rw [List.flatMap_cons, List.length_append, encD_len, encL_len l, List.length_cons]; omega
theorem flat_succ {α β : Type} {f : α → List β} {l : List α} {k : Nat} (hk : k < l.length) : (l.take (k + 1)).flatMap f = (l.take k).flatMap f ++ f l[k] := by
  rw [List.take_succ_eq_append_getElem hk, List.flatMap_append]
  simp

theorem Write_sp (cv : Value) (u : List Int) (l : List Dt) (h : View) (hc : Cx h cv u l) (hl : l.length ≤ 4611686018427387904) (w : World) (s : St ⟨w, h, []⟩ h [] w) :
    Calls Try.prog 27 [cv].toArray w fun e w' => ∃ x : View × Value, e = .returned (.tuple #[x.2, .int .i64 (checkC u l)]) ∧ St ⟨w, h, []⟩ x.1 [] w' ∧ Bs8 x.1 x.2 (if checkC u l = 0 then encW u l else []) := by
  have hc' := hc
  obtain ⟨hu, mv, rfl, hs⟩ := hc
  obtain ⟨_, ad, cap, rfl, _, _⟩ := id hs
  refine calls_enter Try.func27 rfl Try.ntmps27 rfl s ?_
  repeat' (first | (refine ycf ?_; apply ybk; (· first | (first | (apply yad (vs := up u); (· rfl); (· exact ycm (yaz 1 rfl)); (· simp [up, hu])) | (apply yad; (· rfl); (· exact yaz 0 rfl); (· exact ycj hu)))); (· rfl); (· rfl)) | refine t1_ ?_ | (refine ta_ ?_; intro _) | ((fail_if_success (refine ybi rfl ?_)); refine ybj rfl ?_ ?_ <;> (intro ht; rw [ht]; first | replace ht := of_decide_eq_true ht | replace ht := of_decide_eq_false ht | skip)) | (refine ych ?_; first | (refine ybw rfl ?_ ?_ <;> intro ht) | (refine ybx rfl ?_ ?_ <;> intro ht)))
  (refine ycn (ycp Try.func24 rfl (by kernel_rfl) rfl) (check_sp _ u l h hc' hl) rfl rfl rfl ?_ ?_; (· (exact to_)))
  repeat' (first | (refine ycf ?_; apply ybk; (· first | (first | (apply yad (vs := up u); (· rfl); (· exact ycm (yaz 1 rfl)); (· simp [up, hu])) | (apply yad; (· rfl); (· exact yaz 0 rfl); (· exact ycj hu)))); (· rfl); (· rfl)) | refine t1_ ?_ | (refine ta_ ?_; intro _) | ((fail_if_success (refine ybi rfl ?_)); refine ybj rfl ?_ ?_ <;> (intro ht; rw [ht]; first | replace ht := of_decide_eq_true ht | replace ht := of_decide_eq_false ht | skip)) | (refine ych ?_; first | (refine ybw rfl ?_ ?_ <;> intro ht) | (refine ybx rfl ?_ ?_ <;> intro ht)))
  · have hk := ht
    refine nx_ret2 rfl (rv_tmp rfl) (rv_tmp rfl) (fun w' s' => ⟨(h, .slice none 0 0), rfl, s'.nil, ?_⟩)
    rw [if_neg hk]
    exact Sc.nil h 1 none 0
  have hk0 : checkC u l = 0 := by omega
  rw [hk0]
  obtain ⟨hub, hl32, hlr⟩ := check_right hk0
  rename_i b1 bo
  refine cx_loop (X := Nat × Value) (fun y => [(1, .pointer (some ⟨b1, 0, none⟩)), (5, .pointer (some ⟨bo, 0, none⟩)), (18, .agg (up u).toArray), (19, .int .i64 y.1)]) (fun _ => h)
    (fun y => [outR bo y.2 false, rowB y.2 ((u.take y.1).flatMap num8), Res.blk b1 (.cells (cxc u (.slice ad l.length cap)).toArray 27 (0, 0))]) (fun y => y.1 ≤ 16) (fun y => 16 - y.1) (0, .slice none 0 0) (Nat.zero_le _) ts_ (fun _ s => (s.rowNil 5 1).perm (List.Perm.swap _ _ _)) ?_
  rintro ⟨k, v⟩ hk
  replace hk : k ≤ 16 := hk
  dsimp only
  by_cases hk16 : k < 16
  · have hku : k < u.length := by omega
    have hidx : (up u).toArray[((k : Int)).toNat * 1]? = some (.int .i64 u[k]) := by simp [up, hku]
    have hb := hub _ (List.getElem_mem hku)
    have hfl := encU_len (u.take k)
    rw [List.length_take] at hfl
    repeat' (first | (refine ycf ?_; apply ybk; (· first | (apply qv_index; (· rfl); (· rfl); (· omega); (· omega); (· exact hidx))); (· rfl); (· rfl)) | refine t1_ ?_ | (refine ta_ ?_; intro _) | ((fail_if_success (refine ybi rfl ?_)); refine ybj rfl ?_ ?_ <;> (intro ht; rw [ht]; first | replace ht := of_decide_eq_true ht | replace ht := of_decide_eq_false ht | skip)) | (refine ych ?_; first | (refine ybw rfl ?_ ?_ <;> intro ht) | (refine ybx rfl ?_ ?_ <;> intro ht)))
    (refine rx_call_2 (ycp Try.func49 rfl (by kernel_rfl) rfl) (OutNum_sp bo v ((u.take k).flatMap num8) false u[k] hb.1 (by omega) (by omega) h) rfl rfl rfl ?_ ?_ ?_; (· (exact to_)); (· intro _ _ hle; (exact to_)); intro x px hle)
    repeat' (first | (refine ycf ?_; apply ybk; (· first | (apply qv_index; (· rfl); (· rfl); (· omega); (· omega); (· exact hidx))); (· rfl); (· rfl)) | refine t1_ ?_ | (refine ta_ ?_; intro _) | ((fail_if_success (refine ybi rfl ?_)); refine ybj rfl ?_ ?_ <;> (intro ht; rw [ht]; first | replace ht := of_decide_eq_true ht | replace ht := of_decide_eq_false ht | skip)) | (refine ych ?_; first | (refine ybw rfl ?_ ?_ <;> intro ht) | (refine ybx rfl ?_ ?_ <;> intro ht)))
    refine nx_round (k + 1, x) (by show k + 1 ≤ 16; omega) (by show 16 - (k + 1) < 16 - k; omega) ts_ (fun _ s => ?_)
    dsimp only
    rw [flat_succ hku]
    exact s
    omega
  · have ek : k = 16 := by omega
    subst ek
    have htk : u.take 16 = u := List.take_of_length_le (by omega)
    have hfl := encU_len u
    rw [htk]
    repeat' (first | (refine ycf ?_; apply ybk; (· first | (apply qv_index; (· rfl); (· rfl); (· omega); (· omega); (· exact hidx)) | (apply yae; (· rfl); (· exact yck (yaz 2 rfl) hu rfl))); (· rfl); (· rfl)) | refine t1_ ?_ | (refine ta_ ?_; intro _) | ((fail_if_success (refine ybi rfl ?_)); refine ybj rfl ?_ ?_ <;> (intro ht; rw [ht]; first | replace ht := of_decide_eq_true ht | replace ht := of_decide_eq_false ht | skip)) | (refine ych ?_; first | (refine ybw rfl ?_ ?_ <;> intro ht) | (refine ybx rfl ?_ ?_ <;> intro ht)))
    (refine rx_call_2 (ycp Try.func50 rfl (by kernel_rfl) rfl) (OutSmall_sp bo v (u.flatMap num8) false l.length (by omega) (by omega) (by omega) h) rfl rfl rfl ?_ ?_ ?_; (· (exact to_)); (· intro _ _ hle; (exact to_)); intro x px hle)
    repeat' (first | (refine ycf ?_; apply ybk; (· first | (apply qv_index; (· rfl); (· rfl); (· omega); (· omega); (· exact hidx)) | (apply yae; (· rfl); (· exact yck (yaz 2 rfl) hu rfl))); (· rfl); (· rfl)) | refine t1_ ?_ | (refine ta_ ?_; intro _) | ((fail_if_success (refine ybi rfl ?_)); refine ybj rfl ?_ ?_ <;> (intro ht; rw [ht]; first | replace ht := of_decide_eq_true ht | replace ht := of_decide_eq_false ht | skip)) | (refine ych ?_; first | (refine ybw rfl ?_ ?_ <;> intro ht) | (refine ybx rfl ?_ ?_ <;> intro ht)))
    have hpre : (u.flatMap num8 ++ num1 l.length).length = 129 := by rw [List.length_append, hfl, num1_len]; omega
    refine cx_loop (X := Nat × Value) (fun y => [(1, .pointer (some ⟨b1, 0, none⟩)), (5, .pointer (some ⟨bo, 0, none⟩)), (32, .slice ad l.length cap), (33, .int .i64 l.length), (34, .int .i64 y.1)]) (fun _ => h)
      (fun y => [outR bo y.2 false, rowB y.2 (u.flatMap num8 ++ num1 l.length ++ (l.take y.1).flatMap encD), Res.blk b1 (.cells (cxc u (.slice ad l.length cap)).toArray 27 (0, 0))]) (fun y => y.1 ≤ l.length) (fun y => l.length - y.1) (0, x) (Nat.zero_le _) ts_ (fun _ s => ?_) ?_
    · dsimp only
      rw [List.take_zero, List.flatMap_nil, List.append_nil]
      exact s
    rintro ⟨j, v⟩ hj
    replace hj : j ≤ l.length := hj
    dsimp only
    have hfj := encL_len (l.take j)
    rw [List.length_take] at hfj
    by_cases hjl : j < l.length
    · obtain ⟨bs, o, rfl⟩ := hs.ad (by omega) (by omega)
      have hel : ∀ L, Cells h L ⟨bs, o + j * 2, none⟩ (dcs l[j]) := fun L => hs.elem dcs_len j hjl
      have hd4 := right_of (hlr _ (List.getElem_mem hjl))
      have hnl : (u.flatMap num8 ++ num1 l.length ++ (l.take j).flatMap encD).length ≤ 10000 := by rw [List.length_append, hpre, hfj]; omega
      repeat' (first | (refine ycf ?_; apply ybk; (· first | (apply yad; (· rfl); (· exact hel _); (· rfl)) | (apply yae; (· rfl); (· exact yck (yaz 2 rfl) hu rfl))); (· rfl); (· rfl)) | refine t1_ ?_ | (refine ta_ ?_; intro _) | ((fail_if_success (refine ybi rfl ?_)); refine ybj rfl ?_ ?_ <;> (intro ht; rw [ht]; first | replace ht := of_decide_eq_true ht | replace ht := of_decide_eq_false ht | skip)) | (refine ych ?_; first | (refine ybw rfl ?_ ?_ <;> intro ht) | (refine ybx rfl ?_ ?_ <;> intro ht)))
      · refine cx_perm (List.Perm.trans (List.Perm.swap _ _ _) (List.Perm.cons _ (List.Perm.swap _ _ _))) ?_
        rename_i b9
        refine cx_region_draw [Res.blk b9 (.cells (dcs l[j]).toArray 24 (0, 0))] rfl (by kernel_rfl) ?_
        repeat' (refine ycf ?_;(first|(first|(apply ybm;(·(first|(apply yad;(·rfl);(·exact hel _);(·rfl))|(apply yae;(·rfl);(·exact yck (yaz 2 rfl) hu rfl))|exact tq_));(·rfl);(·rfl);(·(first|exact fun _ s => Hd.sub s (Le.refl h) (fun r hr => List.mem_cons_of_mem _ (List.mem_cons_of_mem _ (List.mem_append_left [_] hr))))))|refine ybl rfl rfl ?_|((fail_if_success (refine ybi rfl ?_));refine ybj rfl ?_ ?_<;>(intro ht;rw [ht];first|replace ht := of_decide_eq_true ht|replace ht := of_decide_eq_false ht|skip))|(refine tb_ ?_ ?_ ?_;(·(first|exact ybf|(refine .inl ?_;(first|exact fun _ s => Hd.sub s (Le.refl h) (fun r hr => List.mem_cons_of_mem _ (List.mem_cons_of_mem _ (List.mem_append_left [_] hr)))))|exact to_));(·intro _;(first|exact ybf|(refine .inl ?_;(first|exact fun _ s => Hd.sub s (Le.refl h) (fun r hr => List.mem_cons_of_mem _ (List.mem_cons_of_mem _ (List.mem_append_left [_] hr)))))|exact to_));intro _)|(first|(refine tqs_ ?_ ?_ ?_;(·(first|exact ybf|(refine .inl ?_;(first|exact fun _ s => Hd.sub s (Le.refl h) (fun r hr => List.mem_cons_of_mem _ (List.mem_cons_of_mem _ (List.mem_append_left [_] hr)))))|exact to_));(·(first|exact ybf|(refine .inl ?_;(first|exact fun _ s => Hd.sub s (Le.refl h) (fun r hr => List.mem_cons_of_mem _ (List.mem_cons_of_mem _ (List.mem_append_left [_] hr)))))|exact to_))))|(apply ybn;(·(first|(apply yad;(·rfl);(·exact hel _);(·rfl))|(apply yae;(·rfl);(·exact yck (yaz 2 rfl) hu rfl))|exact tq_));(·rfl);(·rfl);(·rfl);(·(first|exact ybf|(refine .inl ?_;(first|exact fun _ s => Hd.sub s (Le.refl h) (fun r hr => List.mem_cons_of_mem _ (List.mem_cons_of_mem _ (List.mem_append_left [_] hr)))))|exact to_))))|refine ycg ?_))
        (refine rx_call_2 (ycp Try.func49 rfl (by kernel_rfl) rfl) (OutNum_sp bo v _ false l[j].1 (by omega) (by omega) (by omega) h) rfl rfl rfl ?_ ?_ ?_; (· (first | exact ybf | (refine .inl ?_; (first | exact fun _ s => Hd.sub s (Le.refl h) (fun r hr => List.mem_cons_of_mem _ (List.mem_cons_of_mem _ (List.mem_append_left [_] hr))))) | exact to_)); (· intro _ _ hle; (first | exact ybf | (refine .inl ?_; (first | exact fun _ s => Hd.sub s (Le.refl h) (fun r hr => List.mem_cons_of_mem _ (List.mem_cons_of_mem _ (List.mem_append_left [_] hr))))) | exact to_)); intro x px hle)
        repeat' (refine ycf ?_;(first|(first|(apply ybm;(·(first|(apply yad;(·rfl);(·exact hel _);(·rfl))|(apply yae;(·rfl);(·exact yck (yaz 2 rfl) hu rfl))|exact tq_));(·rfl);(·rfl);(·(first|exact fun _ s => Hd.sub s (Le.refl h) (fun r hr => List.mem_cons_of_mem _ (List.mem_cons_of_mem _ (List.mem_append_left [_] hr))))))|refine ybl rfl rfl ?_|((fail_if_success (refine ybi rfl ?_));refine ybj rfl ?_ ?_<;>(intro ht;rw [ht];first|replace ht := of_decide_eq_true ht|replace ht := of_decide_eq_false ht|skip))|(refine tb_ ?_ ?_ ?_;(·(first|exact ybf|(refine .inl ?_;(first|exact fun _ s => Hd.sub s (Le.refl h) (fun r hr => List.mem_cons_of_mem _ (List.mem_cons_of_mem _ (List.mem_append_left [_] hr)))))|exact to_));(·intro _;(first|exact ybf|(refine .inl ?_;(first|exact fun _ s => Hd.sub s (Le.refl h) (fun r hr => List.mem_cons_of_mem _ (List.mem_cons_of_mem _ (List.mem_append_left [_] hr)))))|exact to_));intro _)|(first|(refine tqs_ ?_ ?_ ?_;(·(first|exact ybf|(refine .inl ?_;(first|exact fun _ s => Hd.sub s (Le.refl h) (fun r hr => List.mem_cons_of_mem _ (List.mem_cons_of_mem _ (List.mem_append_left [_] hr)))))|exact to_));(·(first|exact ybf|(refine .inl ?_;(first|exact fun _ s => Hd.sub s (Le.refl h) (fun r hr => List.mem_cons_of_mem _ (List.mem_cons_of_mem _ (List.mem_append_left [_] hr)))))|exact to_))))|(apply ybn;(·(first|(apply yad;(·rfl);(·exact hel _);(·rfl))|(apply yae;(·rfl);(·exact yck (yaz 2 rfl) hu rfl))|exact tq_));(·rfl);(·rfl);(·rfl);(·(first|exact ybf|(refine .inl ?_;(first|exact fun _ s => Hd.sub s (Le.refl h) (fun r hr => List.mem_cons_of_mem _ (List.mem_cons_of_mem _ (List.mem_append_left [_] hr)))))|exact to_))))|refine ycg ?_))
        (refine rx_call_2 (ycp Try.func49 rfl (by kernel_rfl) rfl) (OutNum_sp bo x _ false l[j].2 (by omega) (by omega) (by rw [List.length_append, List.length_reverse, putLow_len]; omega) h) rfl rfl rfl ?_ ?_ ?_; (· (first | exact ybf | (refine .inl ?_; (first | exact fun _ s => Hd.sub s (Le.refl h) (fun r hr => List.mem_cons_of_mem _ (List.mem_cons_of_mem _ (List.mem_append_left [_] hr))))) | exact to_)); (· intro _ _ hle; (first | exact ybf | (refine .inl ?_; (first | exact fun _ s => Hd.sub s (Le.refl h) (fun r hr => List.mem_cons_of_mem _ (List.mem_cons_of_mem _ (List.mem_append_left [_] hr))))) | exact to_)); intro x px hle)
        repeat' (refine ycf ?_;(first|(first|(apply ybm;(·(first|(apply yad;(·rfl);(·exact hel _);(·rfl))|(apply yae;(·rfl);(·exact yck (yaz 2 rfl) hu rfl))|exact tq_));(·rfl);(·rfl);(·(first|exact fun _ s => Hd.sub s (Le.refl h) (fun r hr => List.mem_cons_of_mem _ (List.mem_cons_of_mem _ (List.mem_append_left [_] hr))))))|refine ybl rfl rfl ?_|((fail_if_success (refine ybi rfl ?_));refine ybj rfl ?_ ?_<;>(intro ht;rw [ht];first|replace ht := of_decide_eq_true ht|replace ht := of_decide_eq_false ht|skip))|(refine tb_ ?_ ?_ ?_;(·(first|exact ybf|(refine .inl ?_;(first|exact fun _ s => Hd.sub s (Le.refl h) (fun r hr => List.mem_cons_of_mem _ (List.mem_cons_of_mem _ (List.mem_append_left [_] hr)))))|exact to_));(·intro _;(first|exact ybf|(refine .inl ?_;(first|exact fun _ s => Hd.sub s (Le.refl h) (fun r hr => List.mem_cons_of_mem _ (List.mem_cons_of_mem _ (List.mem_append_left [_] hr)))))|exact to_));intro _)|(first|(refine tqs_ ?_ ?_ ?_;(·(first|exact ybf|(refine .inl ?_;(first|exact fun _ s => Hd.sub s (Le.refl h) (fun r hr => List.mem_cons_of_mem _ (List.mem_cons_of_mem _ (List.mem_append_left [_] hr)))))|exact to_));(·(first|exact ybf|(refine .inl ?_;(first|exact fun _ s => Hd.sub s (Le.refl h) (fun r hr => List.mem_cons_of_mem _ (List.mem_cons_of_mem _ (List.mem_append_left [_] hr)))))|exact to_))))|(apply ybn;(·(first|(apply yad;(·rfl);(·exact hel _);(·rfl))|(apply yae;(·rfl);(·exact yck (yaz 2 rfl) hu rfl))|exact tq_));(·rfl);(·rfl);(·rfl);(·(first|exact ybf|(refine .inl ?_;(first|exact fun _ s => Hd.sub s (Le.refl h) (fun r hr => List.mem_cons_of_mem _ (List.mem_cons_of_mem _ (List.mem_append_left [_] hr)))))|exact to_))))|refine ycg ?_))
        repeat' (first | (refine ycf ?_; apply ybk; (· first | (apply yad; (· rfl); (· exact hel _); (· rfl)) | (apply yae; (· rfl); (· exact yck (yaz 2 rfl) hu rfl))); (· rfl); (· rfl)) | refine t1_ ?_ | (refine ta_ ?_; intro _) | ((fail_if_success (refine ybi rfl ?_)); refine ybj rfl ?_ ?_ <;> (intro ht; rw [ht]; first | replace ht := of_decide_eq_true ht | replace ht := of_decide_eq_false ht | skip)) | (refine ych ?_; first | (refine ybw rfl ?_ ?_ <;> intro ht) | (refine ybx rfl ?_ ?_ <;> intro ht)))
        refine nx_round (j + 1, x) (by show j + 1 ≤ _; omega) (by show l.length - (j + 1) < l.length - j; omega) ts_ (fun _ s => ?_)
        dsimp only
        rw [flat_succ hjl, ← List.append_assoc]
        have e : u.flatMap num8 ++ num1 l.length ++ (l.take j).flatMap encD ++ encD l[j] = u.flatMap num8 ++ num1 l.length ++ (l.take j).flatMap encD ++ (putLow 8 l[j].1).reverse ++ (putLow 8 l[j].2).reverse := by
          rw [encD, ← List.append_assoc]; rfl
        rw [e]
        have s2 : St _ h [Res.blk b9 _, outR bo x false, rowB x _, Res.blk b1 _] _ := s.perm (List.Perm.trans (List.Perm.cons _ (List.Perm.swap _ _ _)) (List.Perm.swap _ _ _))
        exact s2.tl
      · omega
    · have ej : j = l.length := by omega
      subst ej
      rw [List.take_length] at hfj ⊢
      repeat' (first | (refine ycf ?_; apply ybk; (· first | (apply yad; (· rfl); (· exact hel _); (· rfl)) | (apply yae; (· rfl); (· exact yck (yaz 2 rfl) hu rfl))); (· rfl); (· rfl)) | refine t1_ ?_ | (refine ta_ ?_; intro _) | ((fail_if_success (refine ybi rfl ?_)); refine ybj rfl ?_ ?_ <;> (intro ht; rw [ht]; first | replace ht := of_decide_eq_true ht | replace ht := of_decide_eq_false ht | skip)) | (refine ych ?_; first | (refine ybw rfl ?_ ?_ <;> intro ht) | (refine ybx rfl ?_ ?_ <;> intro ht)))
      · omega
      have hnl : (u.flatMap num8 ++ num1 l.length ++ l.flatMap encD).length ≤ 10000 := by rw [List.length_append, hpre, hfj]; omega
      (refine rx_call_2 (ycp Try.func51 rfl (by kernel_rfl) rfl) (Done_sp bo v _ (by omega) h) rfl rfl rfl ?_ ?_ ?_; (· (first | exact ybf | (refine .inl ?_; (first | exact fun _ s => Hd.sub s (Le.refl h) (fun r hr => List.mem_cons_of_mem _ (List.mem_cons_of_mem _ (List.mem_append_left [_] hr))))) | exact to_)); (· intro _ _ hle; (first | exact ybf | (refine .inl ?_; (first | exact fun _ s => Hd.sub s (Le.refl h) (fun r hr => List.mem_cons_of_mem _ (List.mem_cons_of_mem _ (List.mem_append_left [_] hr))))) | exact to_)); intro x px hle)
      refine rx_persist rfl fun h3 hle3 hsv => ?_
      obtain ⟨_, adx, capx, hx, _, _⟩ := id hsv
      subst hx
      repeat' (first | (refine ycf ?_; apply ybk; (· first | (apply yad; (· rfl); (· exact hel _); (· rfl)) | (apply yae; (· rfl); (· exact yck (yaz 2 rfl) hu rfl))); (· rfl); (· rfl)) | refine t1_ ?_ | (refine ta_ ?_; intro _) | ((fail_if_success (refine ybi rfl ?_)); refine ybj rfl ?_ ?_ <;> (intro ht; rw [ht]; first | replace ht := of_decide_eq_true ht | replace ht := of_decide_eq_false ht | skip)) | (refine ych ?_; first | (refine ybw rfl ?_ ?_ <;> intro ht) | (refine ybx rfl ?_ ?_ <;> intro ht)))
      refine nx_ret2 rfl (rv_tmp rfl) (rv_tmp rfl) (fun w' s' => ⟨(h3, _), rfl, s'.nil, ?_⟩)
      rw [if_pos rfl]
      exact hsv
end Go.Proofs.Ytbpahaciegfpfaa
