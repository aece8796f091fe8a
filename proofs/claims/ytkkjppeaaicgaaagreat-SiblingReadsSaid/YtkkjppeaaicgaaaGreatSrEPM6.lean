/-
  Part 6 of a proof: BitD BitE BitF BitG.
  Conditions: each theorem states its own.
-/
import Derived.Laws.BytesString
import Derived.Test.YtkkjppeaaicgaaaGreatSrEPM5
section
namespace Go.Proofs.YtkkjppeaaicgaaaGreat
open Go Go.Ck
set_option maxRecDepth 100000
set_option maxHeartbeats 2000000
set_option linter.unusedVariables false

def num8 (x : Int) : List Int := (putLow 8 x).reverse
def num1 (x : Int) : List Int := (putLow 1 x).reverse
def encD (d : Dt) : List Int := num8 d.1 ++ num8 d.2
def encW (u : List Int) (l : List Dt) : List Int := u.flatMap num8 ++ num1 l.length ++ l.flatMap encD
theorem num8_len (x : Int) : (num8 x).length = 8 := by simp [num8, putLow_len]
theorem num1_len (x : Int) : (num1 x).length = 1 := by simp [num1, putLow_len]
theorem encU_len : ∀ u : List Int, (u.flatMap num8).length = 8 * u.length
  | [] => rfl
  | x :: u => by rw [List.flatMap_cons, List.length_append, num8_len, encU_len u, List.length_cons]; omega
theorem encD_len (d : Dt) : (encD d).length = 16 := by simp [encD, num8_len]
theorem encL_len : ∀ l : List Dt, (l.flatMap encD).length = 16 * l.length
  | [] => rfl
  | x :: l => by rw [List.flatMap_cons, List.length_append, encD_len, encL_len l, List.length_cons]; omega
theorem flat_succ {α β : Type} {f : α → List β} {l : List α} {k : Nat} (hk : k < l.length) : (l.take (k + 1)).flatMap f = (l.take k).flatMap f ++ f l[k] := by
  rw [List.take_succ_eq_append_getElem hk, List.flatMap_append]
  simp

theorem Write_sp (cv : Value) (u : List Int) (l : List Dt) (h : View) (hc : Cx h cv u l) (hl : l.length ≤ 4611686018427387904) (w : World) (s : St ⟨w, h, []⟩ h [] w) :
    Calls Tryz.prog 27 [cv].toArray w fun e w' => ∃ x : View × Value, e = .returned (.tuple #[x.2, .int .i64 (checkC u l)]) ∧ St ⟨w, h, []⟩ x.1 [] w' ∧ Bs8 x.1 x.2 (if checkC u l = 0 then encW u l else []) := by
  have hc' := hc
  obtain ⟨hu, mv, rfl, hs⟩ := hc
  obtain ⟨_, ad, cap, rfl, _, _⟩ := id hs
  refine calls_enter Tryz.func27 rfl Tryz.ntmps27 rfl s ?_
  repeat' (first | (refine ycf ?_; apply ybk; (· first | (first | (apply yad (vs := up u); (· rfl); (· exact ycm (yaz 1 rfl)); (· simp [up, hu])) | (apply yad; (· rfl); (· exact yaz 0 rfl); (· exact ycj hu)))); (· rfl); (· rfl)) | refine t1_ ?_ | (refine ta_ ?_; intro _) | ((fail_if_success (refine ybi rfl ?_)); refine ybj rfl ?_ ?_ <;> (intro ht; rw [ht]; first | replace ht := of_decide_eq_true ht | replace ht := of_decide_eq_false ht | skip)) | (refine ych ?_; first | (refine ybw rfl ?_ ?_ <;> intro ht) | (refine ybx rfl ?_ ?_ <;> intro ht)))
  (refine ycn (ycp Tryz.func33 rfl (by kernel_rfl) rfl) (check_sp _ u l h hc' hl) rfl rfl rfl ?_ ?_; (· (exact to_)))
  repeat' (first | (refine ycf ?_; apply ybk; (· first | (first | (apply yad (vs := up u); (· rfl); (· exact ycm (yaz 1 rfl)); (· simp [up, hu])) | (apply yad; (· rfl); (· exact yaz 0 rfl); (· exact ycj hu)))); (· rfl); (· rfl)) | refine t1_ ?_ | (refine ta_ ?_; intro _) | ((fail_if_success (refine ybi rfl ?_)); refine ybj rfl ?_ ?_ <;> (intro ht; rw [ht]; first | replace ht := of_decide_eq_true ht | replace ht := of_decide_eq_false ht | skip)) | (refine ych ?_; first | (refine ybw rfl ?_ ?_ <;> intro ht) | (refine ybx rfl ?_ ?_ <;> intro ht)))
  · have hk := ht
    refine nx_ret2 rfl (rv_tmp rfl) (rv_tmp rfl) (fun w' s' => ⟨(h, .slice none 0 0), rfl, s'.nil, ?_⟩)
    rw [if_neg hk]
    exact Sc.nil h 1 none 0
  have hk0 : checkC u l = 0 := by omega
  rw [hk0]
  obtain ⟨hub, hl32, hlr⟩ := check_right hk0
  rename_i b1 bo
  refine cx_loop (X := Nat × Value) (fun y => [(1, .pointer (some ⟨b1, 0, none⟩)), (5, .pointer (some ⟨bo, 0, none⟩)), (18, .agg (up u).toArray), (19, .int .i64 y.1)]) (fun _ => h)
    (fun y => [outR bo y.2 false, rowB y.2 ((u.take y.1).flatMap num8), Res.blk b1 (.cells (cxc u (.slice ad l.length cap)).toArray 44 (0, 0))]) (fun y => y.1 ≤ 16) (fun y => 16 - y.1) (0, .slice none 0 0) (Nat.zero_le _) ts_ (fun _ s => (s.rowNil 5 1).perm (List.Perm.swap _ _ _)) ?_
  rintro ⟨k, v⟩ hk
  replace hk : k ≤ 16 := hk
  dsimp only
  by_cases hk16 : k < 16
  · have hku : k < u.length := by omega
    have hidx : (up u).toArray[((k : Int)).toNat * 1]? = some (.int .i64 u[k]) := by simp [up, hku]
    have hb := hub _ (List.getElem_mem hku)
    have hfl := encU_len (u.take k)
    rw [List.length_take] at hfl
    repeat' (first | (refine ycf ?_; apply ybk; (· first | (apply qv_index; (· rfl); (· rfl); (· omega); (· omega); (· exact hidx))); (· rfl); (· rfl)) | refine t1_ ?_ | (refine ta_ ?_; intro _) | ((fail_if_success (refine ybi rfl ?_)); refine ybj rfl ?_ ?_ <;> (intro ht; rw [ht]; first | replace ht := of_decide_eq_true ht | replace ht := of_decide_eq_false ht | skip)) | (refine ych ?_; first | (refine ybw rfl ?_ ?_ <;> intro ht) | (refine ybx rfl ?_ ?_ <;> intro ht)))
    (refine rx_call_2 (ycp Tryz.func28 rfl (by kernel_rfl) rfl) (OutNum_sp bo v ((u.take k).flatMap num8) false u[k] hb.1 (by omega) (by omega) h) rfl rfl rfl ?_ ?_ ?_; (· (exact to_)); (· intro _ _ hle; (exact to_)); intro x px hle)
    repeat' (first | (refine ycf ?_; apply ybk; (· first | (apply qv_index; (· rfl); (· rfl); (· omega); (· omega); (· exact hidx))); (· rfl); (· rfl)) | refine t1_ ?_ | (refine ta_ ?_; intro _) | ((fail_if_success (refine ybi rfl ?_)); refine ybj rfl ?_ ?_ <;> (intro ht; rw [ht]; first | replace ht := of_decide_eq_true ht | replace ht := of_decide_eq_false ht | skip)) | (refine ych ?_; first | (refine ybw rfl ?_ ?_ <;> intro ht) | (refine ybx rfl ?_ ?_ <;> intro ht)))
    refine nx_round (k + 1, x) (by show k + 1 ≤ 16; omega) (by show 16 - (k + 1) < 16 - k; omega) ts_ (fun _ s => ?_)
    dsimp only
    rw [flat_succ hku]
    exact s
    omega
  · have ek : k = 16 := by omega
    subst ek
    have htk : u.take 16 = u := List.take_of_length_le (by omega)
    have hfl := encU_len u
    rw [htk]
    repeat' (first | (refine ycf ?_; apply ybk; (· first | (apply qv_index; (· rfl); (· rfl); (· omega); (· omega); (· exact hidx)) | (apply yae; (· rfl); (· exact yck (yaz 2 rfl) hu rfl))); (· rfl); (· rfl)) | refine t1_ ?_ | (refine ta_ ?_; intro _) | ((fail_if_success (refine ybi rfl ?_)); refine ybj rfl ?_ ?_ <;> (intro ht; rw [ht]; first | replace ht := of_decide_eq_true ht | replace ht := of_decide_eq_false ht | skip)) | (refine ych ?_; first | (refine ybw rfl ?_ ?_ <;> intro ht) | (refine ybx rfl ?_ ?_ <;> intro ht)))
    (refine rx_call_2 (ycp Tryz.func26 rfl (by kernel_rfl) rfl) (OutSmall_sp bo v (u.flatMap num8) false l.length (by omega) (by omega) (by omega) h) rfl rfl rfl ?_ ?_ ?_; (· (exact to_)); (· intro _ _ hle; (exact to_)); intro x px hle)
    repeat' (first | (refine ycf ?_; apply ybk; (· first | (apply qv_index; (· rfl); (· rfl); (· omega); (· omega); (· exact hidx)) | (apply yae; (· rfl); (· exact yck (yaz 2 rfl) hu rfl))); (· rfl); (· rfl)) | refine t1_ ?_ | (refine ta_ ?_; intro _) | ((fail_if_success (refine ybi rfl ?_)); refine ybj rfl ?_ ?_ <;> (intro ht; rw [ht]; first | replace ht := of_decide_eq_true ht | replace ht := of_decide_eq_false ht | skip)) | (refine ych ?_; first | (refine ybw rfl ?_ ?_ <;> intro ht) | (refine ybx rfl ?_ ?_ <;> intro ht)))
    have hpre : (u.flatMap num8 ++ num1 l.length).length = 129 := by rw [List.length_append, hfl, num1_len]; omega
    refine cx_loop (X := Nat × Value) (fun y => [(1, .pointer (some ⟨b1, 0, none⟩)), (5, .pointer (some ⟨bo, 0, none⟩)), (32, .slice ad l.length cap), (33, .int .i64 l.length), (34, .int .i64 y.1)]) (fun _ => h)
      (fun y => [outR bo y.2 false, rowB y.2 (u.flatMap num8 ++ num1 l.length ++ (l.take y.1).flatMap encD), Res.blk b1 (.cells (cxc u (.slice ad l.length cap)).toArray 44 (0, 0))]) (fun y => y.1 ≤ l.length) (fun y => l.length - y.1) (0, x) (Nat.zero_le _) ts_ (fun _ s => ?_) ?_
    · dsimp only
      rw [List.take_zero, List.flatMap_nil, List.append_nil]
      exact s
    rintro ⟨j, v⟩ hj
    replace hj : j ≤ l.length := hj
    dsimp only
    have hfj := encL_len (l.take j)
    rw [List.length_take] at hfj
    by_cases hjl : j < l.length
    · obtain ⟨bs, o, rfl⟩ := hs.ad (by omega) (by omega)
      have hel : ∀ L, Cells h L ⟨bs, o + j * 2, none⟩ (dcs l[j]) := fun L => hs.elem dcs_len j hjl
      have hd4 := right_of (hlr _ (List.getElem_mem hjl))
      have hnl : (u.flatMap num8 ++ num1 l.length ++ (l.take j).flatMap encD).length ≤ 10000 := by rw [List.length_append, hpre, hfj]; omega
      repeat' (first | (refine ycf ?_; apply ybk; (· first | (apply yad; (· rfl); (· exact hel _); (· rfl)) | (apply yae; (· rfl); (· exact yck (yaz 2 rfl) hu rfl))); (· rfl); (· rfl)) | refine t1_ ?_ | (refine ta_ ?_; intro _) | ((fail_if_success (refine ybi rfl ?_)); refine ybj rfl ?_ ?_ <;> (intro ht; rw [ht]; first | replace ht := of_decide_eq_true ht | replace ht := of_decide_eq_false ht | skip)) | (refine ych ?_; first | (refine ybw rfl ?_ ?_ <;> intro ht) | (refine ybx rfl ?_ ?_ <;> intro ht)))
      · refine cx_perm (List.Perm.trans (List.Perm.swap _ _ _) (List.Perm.cons _ (List.Perm.swap _ _ _))) ?_
        rename_i b9
        refine cx_region_draw [Res.blk b9 (.cells (dcs l[j]).toArray 40 (0, 0))] rfl (by kernel_rfl) ?_
        repeat' (refine ycf ?_;(first|(first|(apply ybm;(·(first|(apply yad;(·rfl);(·exact hel _);(·rfl))|(apply yae;(·rfl);(·exact yck (yaz 2 rfl) hu rfl))|exact tq_));(·rfl);(·rfl);(·(first|exact fun _ s => Hd.sub s (Le.refl h) (fun r hr => List.mem_cons_of_mem _ (List.mem_cons_of_mem _ (List.mem_append_left [_] hr))))))|refine ybl rfl rfl ?_|((fail_if_success (refine ybi rfl ?_));refine ybj rfl ?_ ?_<;>(intro ht;rw [ht];first|replace ht := of_decide_eq_true ht|replace ht := of_decide_eq_false ht|skip))|(refine tb_ ?_ ?_ ?_;(·(first|exact ybf|(refine .inl ?_;(first|exact fun _ s => Hd.sub s (Le.refl h) (fun r hr => List.mem_cons_of_mem _ (List.mem_cons_of_mem _ (List.mem_append_left [_] hr)))))|exact to_));(·intro _;(first|exact ybf|(refine .inl ?_;(first|exact fun _ s => Hd.sub s (Le.refl h) (fun r hr => List.mem_cons_of_mem _ (List.mem_cons_of_mem _ (List.mem_append_left [_] hr)))))|exact to_));intro _)|(first|(refine tqs_ ?_ ?_ ?_;(·(first|exact ybf|(refine .inl ?_;(first|exact fun _ s => Hd.sub s (Le.refl h) (fun r hr => List.mem_cons_of_mem _ (List.mem_cons_of_mem _ (List.mem_append_left [_] hr)))))|exact to_));(·(first|exact ybf|(refine .inl ?_;(first|exact fun _ s => Hd.sub s (Le.refl h) (fun r hr => List.mem_cons_of_mem _ (List.mem_cons_of_mem _ (List.mem_append_left [_] hr)))))|exact to_))))|(apply ybn;(·(first|(apply yad;(·rfl);(·exact hel _);(·rfl))|(apply yae;(·rfl);(·exact yck (yaz 2 rfl) hu rfl))|exact tq_));(·rfl);(·rfl);(·rfl);(·(first|exact ybf|(refine .inl ?_;(first|exact fun _ s => Hd.sub s (Le.refl h) (fun r hr => List.mem_cons_of_mem _ (List.mem_cons_of_mem _ (List.mem_append_left [_] hr)))))|exact to_))))|refine ycg ?_))
        (refine rx_call_2 (ycp Tryz.func28 rfl (by kernel_rfl) rfl) (OutNum_sp bo v _ false l[j].1 (by omega) (by omega) (by omega) h) rfl rfl rfl ?_ ?_ ?_; (· (first | exact ybf | (refine .inl ?_; (first | exact fun _ s => Hd.sub s (Le.refl h) (fun r hr => List.mem_cons_of_mem _ (List.mem_cons_of_mem _ (List.mem_append_left [_] hr))))) | exact to_)); (· intro _ _ hle; (first | exact ybf | (refine .inl ?_; (first | exact fun _ s => Hd.sub s (Le.refl h) (fun r hr => List.mem_cons_of_mem _ (List.mem_cons_of_mem _ (List.mem_append_left [_] hr))))) | exact to_)); intro x px hle)
        repeat' (refine ycf ?_;(first|(first|(apply ybm;(·(first|(apply yad;(·rfl);(·exact hel _);(·rfl))|(apply yae;(·rfl);(·exact yck (yaz 2 rfl) hu rfl))|exact tq_));(·rfl);(·rfl);(·(first|exact fun _ s => Hd.sub s (Le.refl h) (fun r hr => List.mem_cons_of_mem _ (List.mem_cons_of_mem _ (List.mem_append_left [_] hr))))))|refine ybl rfl rfl ?_|((fail_if_success (refine ybi rfl ?_));refine ybj rfl ?_ ?_<;>(intro ht;rw [ht];first|replace ht := of_decide_eq_true ht|replace ht := of_decide_eq_false ht|skip))|(refine tb_ ?_ ?_ ?_;(·(first|exact ybf|(refine .inl ?_;(first|exact fun _ s => Hd.sub s (Le.refl h) (fun r hr => List.mem_cons_of_mem _ (List.mem_cons_of_mem _ (List.mem_append_left [_] hr)))))|exact to_));(·intro _;(first|exact ybf|(refine .inl ?_;(first|exact fun _ s => Hd.sub s (Le.refl h) (fun r hr => List.mem_cons_of_mem _ (List.mem_cons_of_mem _ (List.mem_append_left [_] hr)))))|exact to_));intro _)|(first|(refine tqs_ ?_ ?_ ?_;(·(first|exact ybf|(refine .inl ?_;(first|exact fun _ s => Hd.sub s (Le.refl h) (fun r hr => List.mem_cons_of_mem _ (List.mem_cons_of_mem _ (List.mem_append_left [_] hr)))))|exact to_));(·(first|exact ybf|(refine .inl ?_;(first|exact fun _ s => Hd.sub s (Le.refl h) (fun r hr => List.mem_cons_of_mem _ (List.mem_cons_of_mem _ (List.mem_append_left [_] hr)))))|exact to_))))|(apply ybn;(·(first|(apply yad;(·rfl);(·exact hel _);(·rfl))|(apply yae;(·rfl);(·exact yck (yaz 2 rfl) hu rfl))|exact tq_));(·rfl);(·rfl);(·rfl);(·(first|exact ybf|(refine .inl ?_;(first|exact fun _ s => Hd.sub s (Le.refl h) (fun r hr => List.mem_cons_of_mem _ (List.mem_cons_of_mem _ (List.mem_append_left [_] hr)))))|exact to_))))|refine ycg ?_))
        (refine rx_call_2 (ycp Tryz.func28 rfl (by kernel_rfl) rfl) (OutNum_sp bo x _ false l[j].2 (by omega) (by omega) (by rw [List.length_append, List.length_reverse, putLow_len]; omega) h) rfl rfl rfl ?_ ?_ ?_; (· (first | exact ybf | (refine .inl ?_; (first | exact fun _ s => Hd.sub s (Le.refl h) (fun r hr => List.mem_cons_of_mem _ (List.mem_cons_of_mem _ (List.mem_append_left [_] hr))))) | exact to_)); (· intro _ _ hle; (first | exact ybf | (refine .inl ?_; (first | exact fun _ s => Hd.sub s (Le.refl h) (fun r hr => List.mem_cons_of_mem _ (List.mem_cons_of_mem _ (List.mem_append_left [_] hr))))) | exact to_)); intro x px hle)
        repeat' (refine ycf ?_;(first|(first|(apply ybm;(·(first|(apply yad;(·rfl);(·exact hel _);(·rfl))|(apply yae;(·rfl);(·exact yck (yaz 2 rfl) hu rfl))|exact tq_));(·rfl);(·rfl);(·(first|exact fun _ s => Hd.sub s (Le.refl h) (fun r hr => List.mem_cons_of_mem _ (List.mem_cons_of_mem _ (List.mem_append_left [_] hr))))))|refine ybl rfl rfl ?_|((fail_if_success (refine ybi rfl ?_));refine ybj rfl ?_ ?_<;>(intro ht;rw [ht];first|replace ht := of_decide_eq_true ht|replace ht := of_decide_eq_false ht|skip))|(refine tb_ ?_ ?_ ?_;(·(first|exact ybf|(refine .inl ?_;(first|exact fun _ s => Hd.sub s (Le.refl h) (fun r hr => List.mem_cons_of_mem _ (List.mem_cons_of_mem _ (List.mem_append_left [_] hr)))))|exact to_));(·intro _;(first|exact ybf|(refine .inl ?_;(first|exact fun _ s => Hd.sub s (Le.refl h) (fun r hr => List.mem_cons_of_mem _ (List.mem_cons_of_mem _ (List.mem_append_left [_] hr)))))|exact to_));intro _)|(first|(refine tqs_ ?_ ?_ ?_;(·(first|exact ybf|(refine .inl ?_;(first|exact fun _ s => Hd.sub s (Le.refl h) (fun r hr => List.mem_cons_of_mem _ (List.mem_cons_of_mem _ (List.mem_append_left [_] hr)))))|exact to_));(·(first|exact ybf|(refine .inl ?_;(first|exact fun _ s => Hd.sub s (Le.refl h) (fun r hr => List.mem_cons_of_mem _ (List.mem_cons_of_mem _ (List.mem_append_left [_] hr)))))|exact to_))))|(apply ybn;(·(first|(apply yad;(·rfl);(·exact hel _);(·rfl))|(apply yae;(·rfl);(·exact yck (yaz 2 rfl) hu rfl))|exact tq_));(·rfl);(·rfl);(·rfl);(·(first|exact ybf|(refine .inl ?_;(first|exact fun _ s => Hd.sub s (Le.refl h) (fun r hr => List.mem_cons_of_mem _ (List.mem_cons_of_mem _ (List.mem_append_left [_] hr)))))|exact to_))))|refine ycg ?_))
        repeat' (first | (refine ycf ?_; apply ybk; (· first | (apply yad; (· rfl); (· exact hel _); (· rfl)) | (apply yae; (· rfl); (· exact yck (yaz 2 rfl) hu rfl))); (· rfl); (· rfl)) | refine t1_ ?_ | (refine ta_ ?_; intro _) | ((fail_if_success (refine ybi rfl ?_)); refine ybj rfl ?_ ?_ <;> (intro ht; rw [ht]; first | replace ht := of_decide_eq_true ht | replace ht := of_decide_eq_false ht | skip)) | (refine ych ?_; first | (refine ybw rfl ?_ ?_ <;> intro ht) | (refine ybx rfl ?_ ?_ <;> intro ht)))
        refine nx_round (j + 1, x) (by show j + 1 ≤ _; omega) (by show l.length - (j + 1) < l.length - j; omega) ts_ (fun _ s => ?_)
        dsimp only
        rw [flat_succ hjl, ← List.append_assoc]
        have e : u.flatMap num8 ++ num1 l.length ++ (l.take j).flatMap encD ++ encD l[j] = u.flatMap num8 ++ num1 l.length ++ (l.take j).flatMap encD ++ (putLow 8 l[j].1).reverse ++ (putLow 8 l[j].2).reverse := by
          rw [encD, ← List.append_assoc]; rfl
        rw [e]
        have s2 : St _ h [Res.blk b9 _, outR bo x false, rowB x _, Res.blk b1 _] _ := s.perm (List.Perm.trans (List.Perm.cons _ (List.Perm.swap _ _ _)) (List.Perm.swap _ _ _))
        exact s2.tl
      · omega
    · have ej : j = l.length := by omega
      subst ej
      rw [List.take_length] at hfj ⊢
      repeat' (first | (refine ycf ?_; apply ybk; (· first | (apply yad; (· rfl); (· exact hel _); (· rfl)) | (apply yae; (· rfl); (· exact yck (yaz 2 rfl) hu rfl))); (· rfl); (· rfl)) | refine t1_ ?_ | (refine ta_ ?_; intro _) | ((fail_if_success (refine ybi rfl ?_)); refine ybj rfl ?_ ?_ <;> (intro ht; rw [ht]; first | replace ht := of_decide_eq_true ht | replace ht := of_decide_eq_false ht | skip)) | (refine ych ?_; first | (refine ybw rfl ?_ ?_ <;> intro ht) | (refine ybx rfl ?_ ?_ <;> intro ht)))
      · omega
      have hnl : (u.flatMap num8 ++ num1 l.length ++ l.flatMap encD).length ≤ 10000 := by rw [List.length_append, hpre, hfj]; omega
      (refine rx_call_2 (ycp Tryz.func30 rfl (by kernel_rfl) rfl) (Done_sp bo v _ (by omega) h) rfl rfl rfl ?_ ?_ ?_; (· (first | exact ybf | (refine .inl ?_; (first | exact fun _ s => Hd.sub s (Le.refl h) (fun r hr => List.mem_cons_of_mem _ (List.mem_cons_of_mem _ (List.mem_append_left [_] hr))))) | exact to_)); (· intro _ _ hle; (first | exact ybf | (refine .inl ?_; (first | exact fun _ s => Hd.sub s (Le.refl h) (fun r hr => List.mem_cons_of_mem _ (List.mem_cons_of_mem _ (List.mem_append_left [_] hr))))) | exact to_)); intro x px hle)
      refine rx_persist rfl fun h3 hle3 hsv => ?_
      obtain ⟨_, adx, capx, hx, _, _⟩ := id hsv
      subst hx
      repeat' (first | (refine ycf ?_; apply ybk; (· first | (apply yad; (· rfl); (· exact hel _); (· rfl)) | (apply yae; (· rfl); (· exact yck (yaz 2 rfl) hu rfl))); (· rfl); (· rfl)) | refine t1_ ?_ | (refine ta_ ?_; intro _) | ((fail_if_success (refine ybi rfl ?_)); refine ybj rfl ?_ ?_ <;> (intro ht; rw [ht]; first | replace ht := of_decide_eq_true ht | replace ht := of_decide_eq_false ht | skip)) | (refine ych ?_; first | (refine ybw rfl ?_ ?_ <;> intro ht) | (refine ybx rfl ?_ ?_ <;> intro ht)))
      refine nx_ret2 rfl (rv_tmp rfl) (rv_tmp rfl) (fun w' s' => ⟨(h3, _), rfl, s'.nil, ?_⟩)
      rw [if_pos rfl]
      exact hsv
end Go.Proofs.YtkkjppeaaicgaaaGreat
end

section
namespace Go.Proofs.YtkkjppeaaicgaaaGreat
open Go Go.Ck
set_option maxRecDepth 100000
set_option maxHeartbeats 2000000
set_option linter.unusedVariables false

def bstr (l : List Int) : ByteArray := ⟨(l.map fun n => UInt8.ofNat n.toNat).toArray⟩
theorem bstr_app (l m : List Int) : bstr l ++ bstr m = bstr (l ++ m) := by
  apply ByteArray.ext
  simp [bstr]
theorem foldl_push : ∀ (l : List Int) (r : ByteArray), l.foldl (fun r n => r.push (UInt8.ofNat n.toNat)) r = ⟨r.data ++ (l.map fun n => UInt8.ofNat n.toNat).toArray⟩
  | [], r => by simp
  | b :: l, r => by
    simp only [List.foldl_cons]
    rw [foldl_push l]
    simp [ByteArray.push]

section
variable {P : Program} {n : Nat} {F : List (Nat × Value)} {h : View} {L : List Res} {dst : Option Nat} {ty : Nat} {pos : String} {af : Array Edge} {gd : Option (Nat × Bool)}
theorem qv_str_of {S D e : Nat} {x : Operand} {ad : Addr} {cap : Nat} {l : List Int} [tS : TyU P S (.slice e)] [te : TyU P e (.int .u8)] [tD : TyU P D .string] (hx : ev F x = some (.slice (some ad) l.length cap)) (hc : Cells h L ad (bcs l)) :
    QV P n F h L ⟨dst, .convert S D x, ty, pos, af, gd⟩ (.string (bstr l)) := by
  refine .mk fun a w f s => ?_
  have hl := run_loadCells_cells (P := P) (w := w) (ad := ad) (vs := bcs l) (hc w s)
  rw [bcs_len] at hl
  have h1 := run_convert_bytes_string (P := P) w S D e (some ad) l.length cap tS.u te.u tD.u
  rw [run_bytesToString w ad l.length cap l hl, foldl_push] at h1
  have h2 : (⟨ByteArray.empty.data ++ (l.map fun n => UInt8.ofNat n.toNat).toArray⟩ : ByteArray) = bstr l := by
    have he0 : ByteArray.empty.data = #[] := rfl
    rw [he0, Array.empty_append]
    rfl
  rw [h2] at h1
  simp only [execOp, f.ev hx, Sem.run_bind, h1]
  rfl
theorem qv_str_add {T T' : Nat} {x y : Operand} {a b c : ByteArray} (hx : ev F x = some (.string a)) (hy : ev F y = some (.string b)) (hs : a ++ b = c) (hb : a.size + b.size < 1000000) :
    QV P n F h L ⟨dst, .binOp .add T x y T', ty, pos, af, gd⟩ (.string c) := by
  subst hs
  refine .mk fun ac w f s => ?_
  have hg : (eqGuard .add T x y (.string a) (.string b)).run P w = .ok () w := by simp [eqGuard]
  simp only [execOp, f.ev hx, f.ev hy, Sem.run_bind, hg, Result.andThen_ok, binOp, Op.stringOp]
  have hmax : IntKind.i64.max = 9223372036854775807 := by decide
  rw [if_neg (by rw [hmax]; omega)]
  rfl
theorem qv_quo {T T' : Nat} {x y : Operand} {k : IntKind} {i j r : Int} (hx : ev F x = some (.int k i)) (hy : ev F y = some (.int k j)) (hj : j ≠ 0) (hr : k.wrap (i.tdiv j) = r) :
    QV P n F h L ⟨dst, .binOp .quo T x y T', ty, pos, af, gd⟩ (.int k r) := by
  subst hr
  exact .mk fun a w f s => by simp [execOp, f.ev hx, f.ev hy, run_guard_int, binOp, Op.intDiv, hj]
theorem qv_rem' {T T' : Nat} {x y : Operand} {k : IntKind} {i j r : Int} (hx : ev F x = some (.int k i)) (hy : ev F y = some (.int k j)) (hj : j ≠ 0) (hr : i.tmod j = r) :
    QV P n F h L ⟨dst, .binOp .rem T x y T', ty, pos, af, gd⟩ (.int k r) := by subst hr; exact qv_rem hx hy hj
theorem qv_eql_str {T T' : Nat} {x y : Operand} {a b : ByteArray} {t : Bool} (hx : ev F x = some (.string a)) (hy : ev F y = some (.string b)) (ht : (a.toList == b.toList) = t) :
    QV P n F h L ⟨dst, .binOp .eql T x y T', ty, pos, af, gd⟩ (.bool t) := by
  subst ht
  refine .mk fun ac w f s => ?_
  have hg : (eqGuard .eql T x y (.string a) (.string b)).run P w = .ok () w := by simp [eqGuard]
  simp only [execOp, f.ev hx, f.ev hy, Sem.run_bind, hg, Result.andThen_ok, binOp, Op.stringOp]
  rfl
end
section
variable {P : Program} {n : Nat} {F : List (Nat × Value)} {h : View} {L : List Res} {dst : Option Nat} {ty : Nat} {pos : String} {af : Array Edge} {gd : Option (Nat × Bool)}
theorem qv_str_none {S D e : Nat} {x : Operand} {len cap : Nat} [tS : TyU P S (.slice e)] [te : TyU P e (.int .u8)] [tD : TyU P D .string] (hx : ev F x = some (.slice none len cap)) :
    QV P n F h L ⟨dst, .convert S D x, ty, pos, af, gd⟩ (.string (bstr [])) := by
  refine .mk fun a w f s => ?_
  have h1 := run_convert_bytes_string (P := P) w S D e none len cap tS.u te.u tD.u
  have h2 : (Conv.bytesToString (.slice none len cap)).run P w = .ok (.string (bstr [])) w := by
    unfold Conv.bytesToString
    rfl
  rw [h2] at h1
  simp only [execOp, f.ev hx, Sem.run_bind, h1]
  rfl
theorem qv_str_bs {S D e : Nat} {x : Operand} {v : Value} {l : List Int} [tS : TyU P S (.slice e)] [te : TyU P e (.int .u8)] [tD : TyU P D .string] (hx : ev F x = some v) (hs : Bs8 h v l) :
    QV P n F h L ⟨dst, .convert S D x, ty, pos, af, gd⟩ (.string (bstr l)) := by
  obtain ⟨_, ad, cap, rfl, _, _⟩ := id hs
  rcases hs.src (L := L) with ⟨hn, _⟩ | ⟨b, o, rfl, hc⟩
  · have hl : l = [] := by simpa [bcs] using hn
    subst hl
    cases ad with
    | none => exact qv_str_none hx
    | some ad => exact qv_str_of (l := []) hx (fun w _ j u hj => by simp [bcs] at hj)
  · exact qv_str_of hx hc
end
theorem bstr_size (l : List Int) : (bstr l).size = l.length := by simp [bstr, ByteArray.size]

end Go.Proofs.YtkkjppeaaicgaaaGreat
end

section
namespace Go.Proofs.YtkkjppeaaicgaaaGreat
open Go Go.Ck
set_option maxRecDepth 100000
set_option maxHeartbeats 2000000
set_option linter.unusedVariables false

end Go.Proofs.YtkkjppeaaicgaaaGreat
end

section
namespace Go.Ck
open Go
set_option linter.unusedVariables false
section
variable {P : Program} {n : Nat} {F : List (Nat × Value)} {h : View} {L : List Res} {dst : Option Nat} {ty : Nat} {pos : String} {af : Array Edge} {gd : Option (Nat × Bool)}
def cutF (ad : Option Addr) (cap i k : Nat) : Option Addr := if cap = i then ad else ad.map (·.add (i * k))
/-- x[i:] -/
theorem qv_slice_from {T e k : Nat} {x y : Operand} {ad : Option Addr} {len cap i : Nat} {ki : IntKind} [tu : TyU P T (.slice e)] [ts : TyS P e k] (hx : ev F x = some (.slice ad len cap)) (hy : ev F y = some (.int ki i)) (h1 : i ≤ len) :
    QV P n F h L ⟨dst, .slice T x (some y) none none, ty, pos, af, gd⟩ (.slice (cutF ad cap i k) (len - i) (cap - i)) := .mk fun a w f s => by
  have h2 : (0 : Int) ≤ (i : Int) ∧ (i : Int) ≤ (len : Int) := by omega
  simp [execOp, f.ev hx, f.ev hy, Instr.sliceAt, Instr.slice, Instr.sliceBounds, Instr.sliceBound, asIntOf, run_underlying tu.u, h2, ts.s, cutF]
  try omega
theorem sc_drop {k m cap j : Nat} {ad : Option Addr} {xs : List Value} (s : Sc h k (.slice ad m cap) m xs) (hk : 0 < k) (hj : j ≤ m) : Sc h k (.slice (cutF ad cap j k) (m - j) (cap - j)) (m - j) (xs.drop (j * k)) := by
  obtain ⟨q1, ad', cap', q2, q3, q4⟩ := s
  cases q2
  refine ⟨by rw [List.length_drop, q1, Nat.sub_mul], _, _, rfl, by omega, ?_⟩
  by_cases hm : j = m
  · exact .inl (List.drop_eq_nil_of_le (by rw [q1, hm]; omega))
  · rcases q4 with q4 | ⟨b, o, cs, e, fz, rfl, q6, q7⟩
    · exact .inl (by rw [q4]; simp)
    · refine .inr ⟨b, o + j * k, cs, e, fz, ?_, q6, fun t u ht => ?_⟩
      · unfold cutF
        rw [if_neg (by omega)]
        show some ((⟨b, o, none⟩ : Addr).add (j * k)) = _
        rw [Addr.add_off]
      · rw [List.getElem?_drop] at ht
        have := q7 _ _ ht
        rwa [← Nat.add_assoc] at this
theorem qv_shl {T T' : Nat} {x y : Operand} {k k' : IntKind} {i r : Int} {j : Nat} (hx : ev F x = some (.int k i)) (hy : ev F y = some (.int k' j)) (hj : j < k.bits) (hr : k.wrap (i * 2 ^ j) = r) :
    QV P n F h L ⟨dst, .binOp .shl T x y T', ty, pos, af, gd⟩ (.int k r) := by
  subst hr
  refine .mk fun a w f s => ?_
  have h0 : ¬ ((j : Int) < 0) := by omega
  have h1 : min j k.bits = j := by omega
  have hg : (eqGuard .shl T x y (.int k i) (.int k' j)).run P w = .ok () w := by simp [eqGuard]
  simp [execOp, f.ev hx, f.ev hy, hg, binOp, Op.shift, h0, h1]
theorem or_add {x c : Int} (hx : 0 ≤ x) (hxb : x * 256 < 18446744073709551616) (hc : 0 ≤ c ∧ c < 256) : IntKind.u64.wrap (((BitVec.ofInt 64 (x * 256)) ||| (BitVec.ofInt 64 c)).toNat : Int) = x * 256 + c := by
  obtain ⟨a, rfl⟩ := Int.eq_ofNat_of_zero_le hx
  obtain ⟨b, rfl⟩ := Int.eq_ofNat_of_zero_le hc.1
  have e1 : BitVec.ofInt 64 ((a : Int) * 256) = BitVec.ofNat 64 (a * 256) := by
    rw [show (a : Int) * 256 = ((a * 256 : Nat) : Int) by omega]; exact BitVec.ofInt_natCast 64 _
  have e2 : BitVec.ofInt 64 (b : Int) = BitVec.ofNat 64 b := BitVec.ofInt_natCast 64 _
  have hor : a * 256 ||| b = a * 256 + b := by
    have := Nat.two_pow_add_eq_or_of_lt (i := 8) (b := b) (by omega) a
    have e8 : (2 : Nat) ^ 8 = 256 := by decide
    rw [e8] at this
    rw [Nat.mul_comm a 256, ← this]
  rw [e1, e2, BitVec.toNat_or, BitVec.toNat_ofNat, BitVec.toNat_ofNat, Nat.mod_eq_of_lt (by omega), Nat.mod_eq_of_lt (by omega), hor]
  simp [IntKind.wrap, IntKind.bits, IntKind.signed]
  omega
theorem qv_or {T T' : Nat} {x y : Operand} {i j c r : Int} (hx : ev F x = some (.int .u64 i)) (hy : ev F y = some (.int .u64 c)) (hi : i = j * 256) (h0 : 0 ≤ j) (h1 : j * 256 < 18446744073709551616) (hc : 0 ≤ c ∧ c < 256) (hr : j * 256 + c = r) :
    QV P n F h L ⟨dst, .binOp .or T x y T', ty, pos, af, gd⟩ (.int .u64 r) := by
  subst hr
  subst hi
  have := or_add h0 h1 hc
  refine .mk fun a w f s => ?_
  simp only [execOp, f.ev hx, f.ev hy, Sem.run_bind, run_guard_int, Result.andThen_ok, binOp, Op.intBits]
  simp only [IntKind.bits] at this ⊢
  simp
  exact this
end
end Go.Ck
namespace Go.Proofs.YtkkjppeaaicgaaaGreat
open Go Go.Ck
set_option maxRecDepth 100000
set_option maxHeartbeats 2000000
set_option linter.unusedVariables false

abbrev inR (bi : Nat) (v : Value) (e : Int) : Res := Res.blk bi (.cells #[v, .int .i64 e] 74 (0, 0))
def valB (l : List Int) : Int := l.foldl (fun x c => x * 256 + c) 0
def lookC (l : List Int) (size : Nat) (most : Int) : Int × Int := if l.length < size then (0, 3) else if most < valB (l.take size) then (0, 5) else (valB (l.take size), 0)
def numC (s : List Int × Int) (size : Nat) (most : Int) : Int × (List Int × Int) :=
  if s.2 ≠ 0 then (0, s) else if (lookC s.1 size most).2 = 0 then ((lookC s.1 size most).1, (s.1.drop size, 0)) else (0, (s.1, (lookC s.1 size most).2))
def Bytes (l : List Int) : Prop := ∀ b ∈ l, 0 ≤ b ∧ b < 256
theorem valB_succ {l : List Int} {k : Nat} (hk : k < l.length) : valB (l.take (k + 1)) = valB (l.take k) * 256 + l[k] := by
  unfold valB
  rw [List.take_succ_eq_append_getElem hk, List.foldl_append]
  rfl
theorem valB_bd {l : List Int} (hb : Bytes l) : ∀ k, k ≤ l.length → 0 ≤ valB (l.take k) ∧ valB (l.take k) < 256 ^ k := by
  intro k
  induction k with
  | zero => intro _; simp [valB]
  | succ k ih =>
    intro hk
    obtain ⟨h1, h2⟩ := ih (by omega)
    have h3 := hb l[k] (List.getElem_mem _)
    rw [valB_succ (by omega), Int.pow_succ]
    omega

theorem dead_sp (bi : Nat) (v : Value) (e : Int) (h : View) (w : World) (s : St ⟨w, h, doms [inR bi v e]⟩ h [inR bi v e] w) :
    Calls Tryz.prog 34 [.pointer (some ⟨bi, 0, none⟩)].toArray w fun en w' => ∃ x : Unit, en = .returned (.bool (decide (e ≠ 0))) ∧ St ⟨w, h, doms [inR bi v e]⟩ h [inR bi v e] w' ∧ True := by
  refine calls_enter Tryz.func34 rfl Tryz.ntmps34 rfl s ?_
  repeat' (first | (refine ycf ?_; apply ybk; (· first | (first | (apply qv_eql_pnil <;> rfl) | (apply qv_nilCheck; rfl))); (· rfl); (· rfl)) | refine t1_ ?_ | (refine ta_ ?_; intro _) | ((fail_if_success (refine ybi rfl ?_)); refine ybj rfl ?_ ?_ <;> (intro ht; rw [ht]; first | replace ht := of_decide_eq_true ht | replace ht := of_decide_eq_false ht | skip)) | (refine ych ?_; first | (refine ybw rfl ?_ ?_ <;> intro ht) | (refine ybx rfl ?_ ?_ <;> intro ht)))
  exact nx_ret1 rfl (rv_tmp rfl) (fun w' s' => ⟨(), rfl, s', trivial⟩)

theorem p256 {k m : Nat} (h : k ≤ m) : (256 : Int) ^ k ≤ 256 ^ m := by exact_mod_cast Nat.pow_le_pow_right (by decide) h

theorem look_sp (bi : Nat) (v : Value) (l : List Int) (size : Nat) (most : Int) (hb : Bytes l) (h0 : 0 < size) (h8 : size ≤ 8) (hm : 0 ≤ most ∧ most < 9223372036854775808) (hl : l.length ≤ 1000000) (h : View) (hv : Bs8 h v l) (w : World) (s : St ⟨w, h, doms [inR bi v 0]⟩ h [inR bi v 0] w) :
    Calls Tryz.prog 35 [.pointer (some ⟨bi, 0, none⟩), .int .i64 size, .int .i64 most].toArray w fun en w' => ∃ x : Unit, en = .returned (.int .i64 (lookC l size most).1) ∧ St ⟨w, h, doms [inR bi v 0]⟩ h [inR bi v (lookC l size most).2] w' ∧ True := by
  obtain ⟨_, ad, cap, rfl, hcap, _⟩ := id hv
  refine calls_enter Tryz.func35 rfl Tryz.ntmps35 rfl s ?_
  unfold lookC
  by_cases hsz : l.length < size
  · rw [if_pos hsz]
    repeat' (first | (refine ycf ?_; apply ybk; (· first | (first | (apply qv_nilCheck; rfl) | (apply qv_slice_to; (· rfl); (· rfl); (· omega); (· omega)))); (· rfl); (· rfl)) | refine t1_ ?_ | (refine ta_ ?_; intro _) | ((fail_if_success (refine ybi rfl ?_)); refine ybj rfl ?_ ?_ <;> (intro ht; rw [ht]; first | replace ht := of_decide_eq_true ht | replace ht := of_decide_eq_false ht | skip)) | (refine ych ?_; first | (refine ybw rfl ?_ ?_ <;> intro ht) | (refine ybx rfl ?_ ?_ <;> intro ht)))
    · exact nx_ret1 rfl (rv_tmp rfl) (fun w' s' => ⟨(), rfl, s', trivial⟩)
    · omega
  · rw [if_neg hsz]
    obtain ⟨bs, o, rfl⟩ := hv.ad (by omega) (by omega)
    repeat' (first | (refine ycf ?_; apply ybk; (· first | (first | (apply qv_nilCheck; rfl) | (apply qv_slice_to; (· rfl); (· rfl); (· omega); (· omega)))); (· rfl); (· rfl)) | refine t1_ ?_ | (refine ta_ ?_; intro _) | ((fail_if_success (refine ybi rfl ?_)); refine ybj rfl ?_ ?_ <;> (intro ht; rw [ht]; first | replace ht := of_decide_eq_true ht | replace ht := of_decide_eq_false ht | skip)) | (refine ych ?_; first | (refine ybw rfl ?_ ?_ <;> intro ht) | (refine ybx rfl ?_ ?_ <;> intro ht)))
    · omega
    refine cx_loop (X := Nat) (fun k => [(0, .pointer (some ⟨bi, 0, none⟩)), (1, .int .i64 size), (2, .int .i64 most), (7, .int .u64 (valB (l.take k))), (27, .slice (some ⟨bs, o, none⟩) size cap), (28, .int .i64 size), (29, .int .i64 k)]) (fun _ => h) (fun _ => _) (fun k => k ≤ size) (fun k => size - k) 0 (Nat.zero_le _) ts_ (fun _ s => s) ?_
    intro k hk
    by_cases hks : k < size
    · have hkl : k < l.length := by omega
      have hbd := valB_bd hb k (by omega)
      have hp : (256 : Int) ^ k ≤ 256 ^ 7 := p256 (by omega)
      have e7 : (256 : Int) ^ 7 = 72057594037927936 := by decide
      rw [e7] at hp
      have hc := hb l[k] (List.getElem_mem _)
      have hel : ∀ L, CellAt h L bs (o + k * 1) (.int .u8 l[k]) := fun L => (hv.cells (L := L)).cell (by simp [bcs, hkl])
      have hsh : IntKind.u64.wrap (valB (l.take k) * 2 ^ 8) = valB (l.take k) * 256 := by
        have e : (2 : Int) ^ 8 = 256 := by decide
        rw [e]
        exact wrap_u64 (by omega) (by omega)
      have hcw : IntKind.u64.wrap l[k] = l[k] := wrap_u64 hc.1 (by omega)
      have hnext := (valB_succ hkl).symm
      repeat' (first | (refine ycf ?_; apply ybk; (· first | (first | (refine qv_shl (j := 8) rfl rfl (by decide) hsh) | (refine qv_convert_int' rfl hcw) | (refine qv_or (j := valB (l.take k)) rfl rfl rfl hbd.1 (by omega) hc hnext)) | (apply yae; (· rfl); (· exact hel _))); (· rfl); (· rfl)) | refine t1_ ?_ | (refine ta_ ?_; intro _) | ((fail_if_success (refine ybi rfl ?_)); refine ybj rfl ?_ ?_ <;> (intro ht; rw [ht]; first | replace ht := of_decide_eq_true ht | replace ht := of_decide_eq_false ht | skip)) | (refine ych ?_; first | (refine ybw rfl ?_ ?_ <;> intro ht) | (refine ybx rfl ?_ ?_ <;> intro ht)))
      · exact nx_round (k + 1) (by show k + 1 ≤ size; omega) (by show size - (k + 1) < size - k; omega) ts_ (fun _ s => s)
      all_goals omega
    · have ek : k = size := by omega
      subst ek
      have hbd := valB_bd hb k (by omega)
      have hp : (256 : Int) ^ k ≤ 256 ^ 8 := p256 h8
      have e8 : (256 : Int) ^ 8 = 18446744073709551616 := by decide
      rw [e8] at hp
      generalize valB (l.take k) = X at hbd ⊢
      have hI := Int_sp X ⟨hbd.1, by omega⟩ h
      by_cases hX : X < 9223372036854775808
      · rw [decide_eq_true hX, if_pos hX] at hI
        repeat' (first | (refine ycf ?_; apply ybk; (· first | (first | (refine qv_shl (j := 8) rfl rfl (by decide) hsh) | (refine qv_convert_int' rfl hcw) | (refine qv_or (j := valB (l.take k)) rfl rfl rfl hbd.1 (by omega) hc hnext)) | (apply yae; (· rfl); (· exact hel _))); (· rfl); (· rfl)) | refine t1_ ?_ | (refine ta_ ?_; intro _) | ((fail_if_success (refine ybi rfl ?_)); refine ybj rfl ?_ ?_ <;> (intro ht; rw [ht]; first | replace ht := of_decide_eq_true ht | replace ht := of_decide_eq_false ht | skip)) | (refine ych ?_; first | (refine ybw rfl ?_ ?_ <;> intro ht) | (refine ybx rfl ?_ ?_ <;> intro ht)))
        · omega
        (refine ycn (ycp Tryz.func58 rfl (by kernel_rfl) rfl) (hI) rfl rfl rfl ?_ ?_; (· (exact to_)))
        repeat' (first | (refine ycf ?_; apply ybk; (· first | (first | (apply qv_nilCheck; rfl)) | (apply yae; (· rfl); (· exact hel _))); (· rfl); (· rfl)) | refine t1_ ?_ | (refine ta_ ?_; intro _) | ((fail_if_success (refine ybi rfl ?_)); refine ybj rfl ?_ ?_ <;> (intro ht; rw [ht]; first | replace ht := of_decide_eq_true ht | replace ht := of_decide_eq_false ht | skip)) | (refine ych ?_; first | (refine ybw rfl ?_ ?_ <;> intro ht) | (refine ybx rfl ?_ ?_ <;> intro ht)))
        · have hq := ht
          refine nx_ret1 rfl (rv_tmp rfl) (fun w' s' => ⟨(), ?_, ?_, trivial⟩)
          · rw [if_pos (by omega)]
          · rw [if_pos (by omega)]; exact s'
        · have hq := ht
          refine nx_ret1 rfl (rv_tmp rfl) (fun w' s' => ⟨(), ?_, ?_, trivial⟩)
          · rw [if_neg (by omega)]; rfl
          · rw [if_neg (by omega)]; exact s'
      · rw [decide_eq_false hX, if_neg hX] at hI
        repeat' (first | (refine ycf ?_; apply ybk; (· first | (first | (apply qv_nilCheck; rfl)) | (apply yae; (· rfl); (· exact hel _))); (· rfl); (· rfl)) | refine t1_ ?_ | (refine ta_ ?_; intro _) | ((fail_if_success (refine ybi rfl ?_)); refine ybj rfl ?_ ?_ <;> (intro ht; rw [ht]; first | replace ht := of_decide_eq_true ht | replace ht := of_decide_eq_false ht | skip)) | (refine ych ?_; first | (refine ybw rfl ?_ ?_ <;> intro ht) | (refine ybx rfl ?_ ?_ <;> intro ht)))
        · omega
        (refine ycn (ycp Tryz.func58 rfl (by kernel_rfl) rfl) (hI) rfl rfl rfl ?_ ?_; (· (exact to_)))
        repeat' (first | (refine ycf ?_; apply ybk; (· first | (first | (apply qv_nilCheck; rfl)) | (apply yae; (· rfl); (· exact hel _))); (· rfl); (· rfl)) | refine t1_ ?_ | (refine ta_ ?_; intro _) | ((fail_if_success (refine ybi rfl ?_)); refine ybj rfl ?_ ?_ <;> (intro ht; rw [ht]; first | replace ht := of_decide_eq_true ht | replace ht := of_decide_eq_false ht | skip)) | (refine ych ?_; first | (refine ybw rfl ?_ ?_ <;> intro ht) | (refine ybx rfl ?_ ?_ <;> intro ht)))
        refine nx_ret1 rfl (rv_tmp rfl) (fun w' s' => ⟨(), ?_, ?_, trivial⟩)
        · rw [if_pos (by omega)]
        · rw [if_pos (by omega)]; exact s'

theorem skip_sp (bi : Nat) (v : Value) (l : List Int) (e : Int) (size : Nat) (hsz : size ≤ l.length) (hl : l.length ≤ 1000000) (h : View) (hv : Bs8 h v l) (w : World) (s : St ⟨w, h, doms [inR bi v e]⟩ h [inR bi v e] w) :
    Calls Tryz.prog 36 [.pointer (some ⟨bi, 0, none⟩), .int .i64 size].toArray w fun en w' => ∃ x : Value × Value, en = .returned x.1 ∧ St ⟨w, h, doms [inR bi v e]⟩ h [inR bi x.2 e] w' ∧ Bs8 h x.2 (l.drop size) := by
  obtain ⟨_, ad, cap, rfl, hcap, _⟩ := id hv
  have ht1 : Bs8 h (.slice ad size cap) (l.take size) := by
    have := sc_take hv hsz
    unfold Bs8
    rw [List.length_take, Nat.min_eq_left hsz]
    have e : bcs (l.take size) = (bcs l).take (size * 1) := by simp [bcs]
    rw [e]; exact this
  have hd1 : Bs8 h (.slice (cutF ad cap size 1) (l.length - size) (cap - size)) (l.drop size) := by
    have := sc_drop hv (by decide) hsz
    unfold Bs8
    rw [List.length_drop]
    have e : bcs (l.drop size) = (bcs l).drop (size * 1) := by simp [bcs]
    rw [e]; exact this
  refine calls_enter Tryz.func36 rfl Tryz.ntmps36 rfl s ?_
  repeat' (first | (refine ycf ?_; apply ybk; (· first | (first | (apply qv_nilCheck; rfl) | (apply qv_slice_to; (· rfl); (· rfl); (· omega); (· omega)) | (apply qv_slice_from; (· rfl); (· rfl); (· omega))) | (apply yae; (· rfl); (· exact hel _))); (· rfl); (· rfl)) | refine t1_ ?_ | (refine ta_ ?_; intro _) | ((fail_if_success (refine ybi rfl ?_)); refine ybj rfl ?_ ?_ <;> (intro ht; rw [ht]; first | replace ht := of_decide_eq_true ht | replace ht := of_decide_eq_false ht | skip)) | (refine ych ?_; first | (refine ybw rfl ?_ ?_ <;> intro ht) | (refine ybx rfl ?_ ?_ <;> intro ht)))
  (refine yco (ycp Tryz.func31 rfl (by kernel_rfl) rfl) (BClone_sp (.slice ad size cap) (l.take size) h ht1 (by simp; omega)) rfl rfl rfl ?_ ?_ ?_; (· (exact to_)); (· intro _ _ hle; (exact to_)); intro x px hle)
  repeat' (first | (refine ycf ?_; apply ybk; (· first | (first | (apply qv_nilCheck; rfl) | (apply qv_slice_to; (· rfl); (· rfl); (· omega); (· omega)) | (apply qv_slice_from; (· rfl); (· rfl); (· omega))) | (apply yae; (· rfl); (· exact hel _))); (· rfl); (· rfl)) | refine t1_ ?_ | (refine ta_ ?_; intro _) | ((fail_if_success (refine ybi rfl ?_)); refine ybj rfl ?_ ?_ <;> (intro ht; rw [ht]; first | replace ht := of_decide_eq_true ht | replace ht := of_decide_eq_false ht | skip)) | (refine ych ?_; first | (refine ybw rfl ?_ ?_ <;> intro ht) | (refine ybx rfl ?_ ?_ <;> intro ht)))
  exact nx_ret1 rfl (rv_tmp rfl) (fun w' s' => ⟨(x, .slice (cutF ad cap size 1) (l.length - size) (cap - size)), rfl, s'.tl, hd1⟩)

theorem number_sp (bi : Nat) (v : Value) (l : List Int) (e : Int) (size : Nat) (most : Int) (hb : Bytes l) (h0 : 0 < size) (h8 : size ≤ 8) (hm : 0 ≤ most ∧ most < 9223372036854775808) (hl : l.length ≤ 1000000) (h : View) (hv : Bs8 h v l) (w : World) (s : St ⟨w, h, doms [inR bi v e]⟩ h [inR bi v e] w) :
    Calls Tryz.prog 32 [.pointer (some ⟨bi, 0, none⟩), .int .i64 size, .int .i64 most].toArray w fun en w' => ∃ x : Value, en = .returned (.int .i64 (numC (l, e) size most).1) ∧ St ⟨w, h, doms [inR bi v e]⟩ h [inR bi x (numC (l, e) size most).2.2] w' ∧ Bs8 h x (numC (l, e) size most).2.1 := by
  refine calls_enter Tryz.func32 rfl Tryz.ntmps32 rfl s ?_
  unfold numC
  by_cases he : e = 0
  · subst he
    rw [if_neg (by simp)]
    have hdead := dead_sp bi v 0 h
    rw [show decide ((0 : Int) ≠ 0) = false by decide] at hdead
    repeat' (first | (refine ycf ?_; apply ybk; (· first | (first | (apply qv_nilCheck; rfl) | (apply qv_slice_to; (· rfl); (· rfl); (· omega); (· omega)) | (apply qv_slice_from; (· rfl); (· rfl); (· omega))) | (apply yae; (· rfl); (· exact hel _))); (· rfl); (· rfl)) | refine t1_ ?_ | (refine ta_ ?_; intro _) | ((fail_if_success (refine ybi rfl ?_)); refine ybj rfl ?_ ?_ <;> (intro ht; rw [ht]; first | replace ht := of_decide_eq_true ht | replace ht := of_decide_eq_false ht | skip)) | (refine ych ?_; first | (refine ybw rfl ?_ ?_ <;> intro ht) | (refine ybx rfl ?_ ?_ <;> intro ht)))
    (refine rx_call_m (ycp Tryz.func34 rfl (by kernel_rfl) rfl) (perm_at (k := 0) rfl) (hdead) rfl rfl rfl ?_ ?_ ?_; (· (exact to_)); (· intro _ _ hle; (exact to_)); intro x px hle)
    repeat' (first | (refine ycf ?_; apply ybk; (· first | (first | (apply qv_nilCheck; rfl) | (apply qv_slice_to; (· rfl); (· rfl); (· omega); (· omega)) | (apply qv_slice_from; (· rfl); (· rfl); (· omega))) | (apply yae; (· rfl); (· exact hel _))); (· rfl); (· rfl)) | refine t1_ ?_ | (refine ta_ ?_; intro _) | ((fail_if_success (refine ybi rfl ?_)); refine ybj rfl ?_ ?_ <;> (intro ht; rw [ht]; first | replace ht := of_decide_eq_true ht | replace ht := of_decide_eq_false ht | skip)) | (refine ych ?_; first | (refine ybw rfl ?_ ?_ <;> intro ht) | (refine ybx rfl ?_ ?_ <;> intro ht)))
    (refine rx_call_m (ycp Tryz.func35 rfl (by kernel_rfl) rfl) (perm_at (k := 0) rfl) (look_sp bi v l size most hb h0 h8 hm hl h hv) rfl rfl rfl ?_ ?_ ?_; (· (exact to_)); (· intro _ _ hle; (exact to_)); intro x px hle)
    by_cases hz : (lookC l size most).2 = 0
    · have hsl : size ≤ l.length := by
        unfold lookC at hz
        split at hz
        · cases hz
        · omega
      rw [if_pos hz, hz]
      repeat' (first | (refine ycf ?_; apply ybk; (· first | (first | (apply qv_nilCheck; rfl) | (apply qv_slice_to; (· rfl); (· rfl); (· omega); (· omega)) | (apply qv_slice_from; (· rfl); (· rfl); (· omega))) | (apply yae; (· rfl); (· exact hel _))); (· rfl); (· rfl)) | refine t1_ ?_ | (refine ta_ ?_; intro _) | ((fail_if_success (refine ybi rfl ?_)); refine ybj rfl ?_ ?_ <;> (intro ht; rw [ht]; first | replace ht := of_decide_eq_true ht | replace ht := of_decide_eq_false ht | skip)) | (refine ych ?_; first | (refine ybw rfl ?_ ?_ <;> intro ht) | (refine ybx rfl ?_ ?_ <;> intro ht)))
      (refine rx_call_m (ycp Tryz.func36 rfl (by kernel_rfl) rfl) (perm_at (k := 0) rfl) (skip_sp bi v l 0 size hsl hl h hv) rfl rfl rfl ?_ ?_ ?_; (· (exact to_)); (· intro _ _ hle; (exact to_)); intro x px hle)
      repeat' (first | (refine ycf ?_; apply ybk; (· first | (first | (apply qv_nilCheck; rfl) | (apply qv_slice_to; (· rfl); (· rfl); (· omega); (· omega)) | (apply qv_slice_from; (· rfl); (· rfl); (· omega))) | (apply yae; (· rfl); (· exact hel _))); (· rfl); (· rfl)) | refine t1_ ?_ | (refine ta_ ?_; intro _) | ((fail_if_success (refine ybi rfl ?_)); refine ybj rfl ?_ ?_ <;> (intro ht; rw [ht]; first | replace ht := of_decide_eq_true ht | replace ht := of_decide_eq_false ht | skip)) | (refine ych ?_; first | (refine ybw rfl ?_ ?_ <;> intro ht) | (refine ybx rfl ?_ ?_ <;> intro ht)))
      exact nx_ret1 rfl (rv_tmp rfl) (fun w' s' => ⟨x.2, rfl, s', px⟩)
    · have hf : (lookC l size most).1 = 0 := by
        unfold lookC at hz ⊢
        split
        · rfl
        · rename_i h1
          rw [if_neg h1] at hz
          split
          · rfl
          · rename_i h2
            rw [if_neg h2] at hz
            exact absurd rfl hz
      rw [if_neg hz, hf]
      generalize (lookC l size most).2 = E at hz ⊢
      repeat' (first | (refine ycf ?_; apply ybk; (· first | (first | (apply qv_nilCheck; rfl) | (apply qv_slice_to; (· rfl); (· rfl); (· omega); (· omega)) | (apply qv_slice_from; (· rfl); (· rfl); (· omega))) | (apply yae; (· rfl); (· exact hel _))); (· rfl); (· rfl)) | refine t1_ ?_ | (refine ta_ ?_; intro _) | ((fail_if_success (refine ybi rfl ?_)); refine ybj rfl ?_ ?_ <;> (intro ht; rw [ht]; first | replace ht := of_decide_eq_true ht | replace ht := of_decide_eq_false ht | skip)) | (refine ych ?_; first | (refine ybw rfl ?_ ?_ <;> intro ht) | (refine ybx rfl ?_ ?_ <;> intro ht)))
      · omega
      exact nx_ret1 rfl (rv_tmp rfl) (fun w' s' => ⟨v, rfl, s', hv⟩)
  · rw [if_pos he]
    have hdead := dead_sp bi v e h
    rw [decide_eq_true he] at hdead
    repeat' (first | (refine ycf ?_; apply ybk; (· first | (first | (apply qv_nilCheck; rfl) | (apply qv_slice_to; (· rfl); (· rfl); (· omega); (· omega)) | (apply qv_slice_from; (· rfl); (· rfl); (· omega))) | (apply yae; (· rfl); (· exact hel _))); (· rfl); (· rfl)) | refine t1_ ?_ | (refine ta_ ?_; intro _) | ((fail_if_success (refine ybi rfl ?_)); refine ybj rfl ?_ ?_ <;> (intro ht; rw [ht]; first | replace ht := of_decide_eq_true ht | replace ht := of_decide_eq_false ht | skip)) | (refine ych ?_; first | (refine ybw rfl ?_ ?_ <;> intro ht) | (refine ybx rfl ?_ ?_ <;> intro ht)))
    (refine rx_call_m (ycp Tryz.func34 rfl (by kernel_rfl) rfl) (perm_at (k := 0) rfl) (hdead) rfl rfl rfl ?_ ?_ ?_; (· (exact to_)); (· intro _ _ hle; (exact to_)); intro x px hle)
    repeat' (first | (refine ycf ?_; apply ybk; (· first | (first | (apply qv_nilCheck; rfl) | (apply qv_slice_to; (· rfl); (· rfl); (· omega); (· omega)) | (apply qv_slice_from; (· rfl); (· rfl); (· omega))) | (apply yae; (· rfl); (· exact hel _))); (· rfl); (· rfl)) | refine t1_ ?_ | (refine ta_ ?_; intro _) | ((fail_if_success (refine ybi rfl ?_)); refine ybj rfl ?_ ?_ <;> (intro ht; rw [ht]; first | replace ht := of_decide_eq_true ht | replace ht := of_decide_eq_false ht | skip)) | (refine ych ?_; first | (refine ybw rfl ?_ ?_ <;> intro ht) | (refine ybx rfl ?_ ?_ <;> intro ht)))
    exact nx_ret1 rfl (rv_tmp rfl) (fun w' s' => ⟨v, rfl, s', hv⟩)

theorem InNum_sp (bi : Nat) (v : Value) (l : List Int) (e : Int) (most : Int) (hb : Bytes l) (hm : 0 ≤ most ∧ most < 9223372036854775808) (hl : l.length ≤ 1000000) (h : View) (hv : Bs8 h v l) (w : World) (s : St ⟨w, h, doms [inR bi v e]⟩ h [inR bi v e] w) :
    Calls Tryz.prog 12 [.pointer (some ⟨bi, 0, none⟩), .int .i64 most].toArray w fun en w' => ∃ x : Value, en = .returned (.int .i64 (numC (l, e) 8 most).1) ∧ St ⟨w, h, doms [inR bi v e]⟩ h [inR bi x (numC (l, e) 8 most).2.2] w' ∧ Bs8 h x (numC (l, e) 8 most).2.1 := by
  refine calls_enter Tryz.func12 rfl Tryz.ntmps12 rfl s ?_
  repeat' (first | (refine ycf ?_; apply ybk; (· first | (first | (apply qv_nilCheck; rfl) | (apply qv_slice_to; (· rfl); (· rfl); (· omega); (· omega)) | (apply qv_slice_from; (· rfl); (· rfl); (· omega))) | (apply yae; (· rfl); (· exact hel _))); (· rfl); (· rfl)) | refine t1_ ?_ | (refine ta_ ?_; intro _) | ((fail_if_success (refine ybi rfl ?_)); refine ybj rfl ?_ ?_ <;> (intro ht; rw [ht]; first | replace ht := of_decide_eq_true ht | replace ht := of_decide_eq_false ht | skip)) | (refine ych ?_; first | (refine ybw rfl ?_ ?_ <;> intro ht) | (refine ybx rfl ?_ ?_ <;> intro ht)))
  (refine rx_call_m (ycp Tryz.func32 rfl (by kernel_rfl) rfl) (perm_at (k := 0) rfl) (number_sp bi v l e 8 most hb (by omega) (by omega) hm hl h hv) rfl rfl rfl ?_ ?_ ?_; (· (exact to_)); (· intro _ _ hle; (exact to_)); intro x px hle)
  repeat' (first | (refine ycf ?_; apply ybk; (· first | (first | (apply qv_nilCheck; rfl) | (apply qv_slice_to; (· rfl); (· rfl); (· omega); (· omega)) | (apply qv_slice_from; (· rfl); (· rfl); (· omega))) | (apply yae; (· rfl); (· exact hel _))); (· rfl); (· rfl)) | refine t1_ ?_ | (refine ta_ ?_; intro _) | ((fail_if_success (refine ybi rfl ?_)); refine ybj rfl ?_ ?_ <;> (intro ht; rw [ht]; first | replace ht := of_decide_eq_true ht | replace ht := of_decide_eq_false ht | skip)) | (refine ych ?_; first | (refine ybw rfl ?_ ?_ <;> intro ht) | (refine ybx rfl ?_ ?_ <;> intro ht)))
  exact nx_ret1 rfl (rv_tmp rfl) (fun w' s' => ⟨x, rfl, s', px⟩)

theorem InSmall_sp (bi : Nat) (v : Value) (l : List Int) (e : Int) (most : Int) (hb : Bytes l) (hm : 0 ≤ most ∧ most < 9223372036854775808) (hl : l.length ≤ 1000000) (h : View) (hv : Bs8 h v l) (w : World) (s : St ⟨w, h, doms [inR bi v e]⟩ h [inR bi v e] w) :
    Calls Tryz.prog 11 [.pointer (some ⟨bi, 0, none⟩), .int .i64 most].toArray w fun en w' => ∃ x : Value, en = .returned (.int .i64 (numC (l, e) 1 most).1) ∧ St ⟨w, h, doms [inR bi v e]⟩ h [inR bi x (numC (l, e) 1 most).2.2] w' ∧ Bs8 h x (numC (l, e) 1 most).2.1 := by
  refine calls_enter Tryz.func11 rfl Tryz.ntmps11 rfl s ?_
  repeat' (first | (refine ycf ?_; apply ybk; (· first | (first | (apply qv_nilCheck; rfl) | (apply qv_slice_to; (· rfl); (· rfl); (· omega); (· omega)) | (apply qv_slice_from; (· rfl); (· rfl); (· omega))) | (apply yae; (· rfl); (· exact hel _))); (· rfl); (· rfl)) | refine t1_ ?_ | (refine ta_ ?_; intro _) | ((fail_if_success (refine ybi rfl ?_)); refine ybj rfl ?_ ?_ <;> (intro ht; rw [ht]; first | replace ht := of_decide_eq_true ht | replace ht := of_decide_eq_false ht | skip)) | (refine ych ?_; first | (refine ybw rfl ?_ ?_ <;> intro ht) | (refine ybx rfl ?_ ?_ <;> intro ht)))
  (refine rx_call_m (ycp Tryz.func32 rfl (by kernel_rfl) rfl) (perm_at (k := 0) rfl) (number_sp bi v l e 1 most hb (by omega) (by omega) hm hl h hv) rfl rfl rfl ?_ ?_ ?_; (· (exact to_)); (· intro _ _ hle; (exact to_)); intro x px hle)
  repeat' (first | (refine ycf ?_; apply ybk; (· first | (first | (apply qv_nilCheck; rfl) | (apply qv_slice_to; (· rfl); (· rfl); (· omega); (· omega)) | (apply qv_slice_from; (· rfl); (· rfl); (· omega))) | (apply yae; (· rfl); (· exact hel _))); (· rfl); (· rfl)) | refine t1_ ?_ | (refine ta_ ?_; intro _) | ((fail_if_success (refine ybi rfl ?_)); refine ybj rfl ?_ ?_ <;> (intro ht; rw [ht]; first | replace ht := of_decide_eq_true ht | replace ht := of_decide_eq_false ht | skip)) | (refine ych ?_; first | (refine ybw rfl ?_ ?_ <;> intro ht) | (refine ybx rfl ?_ ?_ <;> intro ht)))
  exact nx_ret1 rfl (rv_tmp rfl) (fun w' s' => ⟨x, rfl, s', px⟩)

def endC (s : List Int × Int) : Int := if s.2 = 0 ∧ 0 < s.1.length then 4 else s.2
theorem End_sp (bi : Nat) (v : Value) (l : List Int) (e : Int) (h : View) (hv : Bs8 h v l) (w : World) (s : St ⟨w, h, doms [inR bi v e]⟩ h [inR bi v e] w) :
    Calls Tryz.prog 15 [.pointer (some ⟨bi, 0, none⟩)].toArray w fun en w' => ∃ x : Unit, en = .returned (.int .i64 (endC (l, e))) ∧ St ⟨w, h, doms [inR bi v e]⟩ h [inR bi v e] w' ∧ True := by
  obtain ⟨_, ad, cap, rfl, hcap, _⟩ := id hv
  refine calls_enter Tryz.func15 rfl Tryz.ntmps15 rfl s ?_
  repeat' (first | (refine ycf ?_; apply ybk; (· first | (first | (apply qv_eql_pnil <;> rfl) | (apply qv_nilCheck; rfl)) | (apply yae; (· rfl); (· exact hel _))); (· rfl); (· rfl)) | refine t1_ ?_ | (refine ta_ ?_; intro _) | ((fail_if_success (refine ybi rfl ?_)); refine ybj rfl ?_ ?_ <;> (intro ht; rw [ht]; first | replace ht := of_decide_eq_true ht | replace ht := of_decide_eq_false ht | skip)) | (refine ych ?_; first | (refine ybw rfl ?_ ?_ <;> intro ht) | (refine ybx rfl ?_ ?_ <;> intro ht)))
  · refine nx_ret1 rfl (rv_tmp rfl) (fun w' s' => ⟨(), ?_, s', trivial⟩)
    unfold endC
    rw [if_pos (by dsimp only; omega)]
  · refine nx_ret1 rfl (rv_tmp rfl) (fun w' s' => ⟨(), ?_, s', trivial⟩)
    unfold endC
    rw [if_neg (by dsimp only; omega)]
  · refine nx_ret1 rfl (rv_tmp rfl) (fun w' s' => ⟨(), ?_, s', trivial⟩)
    unfold endC
    rw [if_neg (by dsimp only; omega)]

theorem Of_sp (sv : Value) (l : List Int) (hl : l.length ≤ 1000000) (h : View) (hs : Bs8 h sv l) (w : World) (s : St ⟨w, h, []⟩ h [] w) :
    Calls Tryz.prog 10 [sv].toArray w fun en w' => ∃ x : View × Nat × Value, en = .returned (.pointer (some ⟨x.2.1, 0, none⟩)) ∧ St ⟨w, h, []⟩ x.1 [inR x.2.1 x.2.2 0] w' ∧ Bs8 x.1 x.2.2 l := by
  refine calls_enter Tryz.func10 rfl Tryz.ntmps10 rfl s ?_
  repeat' (first | (refine ycf ?_; apply ybk; (· first | (first | (apply qv_eql_pnil <;> rfl) | (apply qv_nilCheck; rfl)) | (apply yae; (· rfl); (· exact hel _))); (· rfl); (· rfl)) | refine t1_ ?_ | (refine ta_ ?_; intro _) | ((fail_if_success (refine ybi rfl ?_)); refine ybj rfl ?_ ?_ <;> (intro ht; rw [ht]; first | replace ht := of_decide_eq_true ht | replace ht := of_decide_eq_false ht | skip)) | (refine ych ?_; first | (refine ybw rfl ?_ ?_ <;> intro ht) | (refine ybx rfl ?_ ?_ <;> intro ht)))
  (refine yco (ycp Tryz.func31 rfl (by kernel_rfl) rfl) (BClone_sp sv l h hs hl) rfl rfl rfl ?_ ?_ ?_; (· (exact to_)); (· intro _ _ hle; (exact to_)); intro x px hle)
  refine rx_persist rfl fun h1 hle1 hv => ?_
  obtain ⟨_, ad, cap, hx, _, _⟩ := id hv
  subst hx
  repeat' (first | (refine ycf ?_; apply ybk; (· first | (first | (apply qv_eql_pnil <;> rfl) | (apply qv_nilCheck; rfl)) | (apply yae; (· rfl); (· exact hel _))); (· rfl); (· rfl)) | refine t1_ ?_ | (refine ta_ ?_; intro _) | ((fail_if_success (refine ybi rfl ?_)); refine ybj rfl ?_ ?_ <;> (intro ht; rw [ht]; first | replace ht := of_decide_eq_true ht | replace ht := of_decide_eq_false ht | skip)) | (refine ych ?_; first | (refine ybw rfl ?_ ?_ <;> intro ht) | (refine ybx rfl ?_ ?_ <;> intro ht)))
  rename_i b
  exact nx_ret1 rfl (rv_tmp rfl) (fun w' s' => ⟨(h1, b, .slice ad l.length cap), rfl, s', hv⟩)
end Go.Proofs.YtkkjppeaaicgaaaGreat
end
