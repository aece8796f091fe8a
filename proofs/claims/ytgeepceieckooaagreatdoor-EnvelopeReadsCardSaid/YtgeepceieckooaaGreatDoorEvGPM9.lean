/-
  Part 9 of a proof: EvE VaN VaO EvC.
  Conditions: each theorem states its own.
-/
import Derived.Laws.IdiomCopy
import Derived.Test.YtgeepceieckooaaGreatDoorEvGPM8
section
namespace Go.Proofs.YtgeepceieckooaaGreatDoor
open Go Go.Ck
set_option maxRecDepth 100000
set_option maxHeartbeats 4000000
set_option linter.unusedVariables false
theorem byC_tookV {s : RS} (hb : Bytes s.1) {most : Int} (h : (byC s most).2.2 = 0) : s.2 = 0 ∧ num4 (byC s most).1.length ++ (byC s most).1 ++ (byC s most).2.1 = s.1 := by
  unfold byC at h ⊢
  by_cases h0 : s.2 ≠ 0
  · rw [if_pos h0] at h; exact absurd h h0
  · rw [if_neg h0] at h ⊢
    refine ⟨Decidable.not_not.1 h0, ?_⟩
    by_cases h1 : (lookC s.1 4 most).2 = 0
    · rw [if_neg (by simpa using h1)] at h ⊢
      have hl := lookC_len h1
      have e : (lookC s.1 4 most).1 = valB (s.1.take 4) := by
        unfold lookC at h1 ⊢
        split
        · rename_i h2; rw [if_pos h2] at h1; cases h1
        · rename_i h2
          rw [if_neg h2] at h1
          split
          · rename_i h3; rw [if_pos h3] at h1; cases h1
          · rfl
      by_cases h2 : s.1.length - 4 < (lookC s.1 4 most).1.toNat
      · rw [if_pos h2] at h; cases h
      · rw [if_neg h2]
        have hp := putLow_val (l := s.1.take 4) (fun x hx => hb x (List.mem_of_mem_take hx))
        rw [List.length_take, Nat.min_eq_left hl, ← e] at hp
        have hn : 0 ≤ (lookC s.1 4 most).1 := by rw [e]; exact (valB_bd hb 4 hl).1
        have hlen : (((s.1.drop 4).take (lookC s.1 4 most).1.toNat).length : Int) = (lookC s.1 4 most).1 := by
          rw [List.length_take, List.length_drop]; omega
        dsimp only
        rw [hlen]
        unfold num4
        rw [hp, List.append_assoc, List.take_append_drop, List.take_append_drop]
    · rw [if_pos h1] at h
      exact absurd h h1
def rdK (l : List Int) : List Int × RS := fixC (l, 0) 32
def rdN (s : RS) : Nat → List Int × RS
  | 0 => ([], s)
  | k + 1 => ((rdN s k).1 ++ [(numC (rdN s k).2 8 4611686018427387904).1], (numC (rdN s k).2 8 4611686018427387904).2)
def rdH (l : List Int) : List Int × RS := rdN (rdK l).2 4
def rdP (l : List Int) : List Int × RS := byC (rdH l).2 4096
def rdZ (l : List Int) : List Int × RS := byC (rdP l).2 8192
def hdOf (hv p : List Int) : Hdr := ⟨hv.getD 0 0, hv.getD 1 0, hv.getD 2 0, hv.getD 3 0, p⟩
def rdQ (l : List Int) : Hdr := hdOf (rdH l).1 (rdP l).1
def rdOk (l : List Int) : Prop := endC (rdZ l).2 = 0 ∧ (rdQ l).ok ∧ 16 ≤ (rdZ l).1.length ∧ (rdZ l).1.length ≤ 8192
instance (l : List Int) : Decidable (rdOk l) := by unfold rdOk; exact inferInstance
theorem rdN_ok {s : RS} (h : RsOk s) : ∀ k, RsOk (rdN s k).2 ∧ (rdN s k).1.length = k
  | 0 => ⟨h, rfl⟩
  | k + 1 => by
    obtain ⟨h1, h2⟩ := rdN_ok h k
    exact ⟨h1.num 8 _, by simp [rdN, h2]⟩
theorem rd_oks {l : List Int} (hb : Bytes l) (hl : l.length ≤ 1000000) : RsOk (rdK l).2 ∧ RsOk (rdH l).2 ∧ RsOk (rdP l).2 ∧ RsOk (rdZ l).2 := by
  have h0 : RsOk ((l, 0) : RS) := ⟨hb, hl⟩
  have h1 : RsOk (rdK l).2 := (h0.fix 32).1
  have h2 : RsOk (rdH l).2 := (rdN_ok h1 4).1
  have h3 : RsOk (rdP l).2 := (h2.by (by omega)).1
  exact ⟨h1, h2, h3, (h3.by (by omega)).1⟩
theorem fix_took {s : RS} {n : Nat} (h : (fixC s n).2.2 = 0) : s.2 = 0 ∧ (fixC s n).1 ++ (fixC s n).2.1 = s.1 ∧ (fixC s n).1.length = n := by
  unfold fixC at h ⊢
  by_cases h0 : s.2 ≠ 0
  · rw [if_pos h0] at h; exact absurd h h0
  · rw [if_neg h0] at h ⊢
    by_cases h1 : s.1.length < n
    · rw [if_pos h1] at h; cases h
    · rw [if_neg h1]
      exact ⟨Decidable.not_not.1 h0, List.take_append_drop .., by simp; omega⟩
theorem rdN_took {s : RS} (hs : RsOk s) : ∀ k, (rdN s k).2.2 = 0 → s.2 = 0 ∧ (rdN s k).1.flatMap num8 ++ (rdN s k).2.1 = s.1
  | 0, h => ⟨h, by simp [rdN]⟩
  | k + 1, h => by
    have hk := (rdN_ok hs k).1
    obtain ⟨h1, h2⟩ := numC_took (s := (rdN s k).2) hk.b h
    obtain ⟨h3, h4⟩ := rdN_took hs k h1
    refine ⟨h3, ?_⟩
    have e : (rdN s (k + 1)).1.flatMap num8 ++ (rdN s (k + 1)).2.1 = (rdN s k).1.flatMap num8 ++ (num8 (numC (rdN s k).2 8 4611686018427387904).1 ++ (numC (rdN s k).2 8 4611686018427387904).2.1) := by
      simp [rdN, List.flatMap_append]
    rw [e]
    have h2 : num8 (numC (rdN s k).2 8 4611686018427387904).1 ++ (numC (rdN s k).2 8 4611686018427387904).2.1 = (rdN s k).2.1 := h2
    rw [h2, h4]
def encE (ek : List Int) (q : Hdr) (se : List Int) : List Int := boundF ek q ++ num4 se.length ++ se
theorem list4 (l : List Int) (h : l.length = 4) : ∃ a b c d, l = [a, b, c, d] := by
  match l, h with
  | [a, b, c, d], _ => exact ⟨a, b, c, d, rfl⟩
theorem rd13_took {l : List Int} (hb : Bytes l) (hl : l.length ≤ 1000000) (h : endC (rdZ l).2 = 0) : (rdK l).1.length = 32 ∧ encE (rdK l).1 (rdQ l) (rdZ l).1 = l := by
  obtain ⟨o1, o2, o3, o4⟩ := rd_oks hb hl
  have hz : (rdZ l).2.2 = 0 := by
    unfold endC at h
    split at h
    · cases h
    · exact h
  have hr : (rdZ l).2.1 = [] := by
    unfold endC at h
    split at h
    · cases h
    · rename_i hn
      exact List.eq_nil_of_length_eq_zero (by omega)
  obtain ⟨p1, p2⟩ := byC_tookV (s := (rdP l).2) o3.b hz
  obtain ⟨q1, q2⟩ := byC_tookV (s := (rdH l).2) o2.b p1
  obtain ⟨r1, r2⟩ := rdN_took o1 4 q1
  obtain ⟨k1, k2, k3⟩ := fix_took (s := (l, 0)) r1
  refine ⟨k3, ?_⟩
  have hN := (rdN_ok o1 4).2
  obtain ⟨a, b, c, d, he⟩ := list4 (rdH l).1 hN
  have p2 : num4 (rdZ l).1.length ++ (rdZ l).1 ++ (rdZ l).2.1 = (rdP l).2.1 := p2
  have q2 : num4 (rdP l).1.length ++ (rdP l).1 ++ (rdP l).2.1 = (rdH l).2.1 := q2
  have r2 : (rdH l).1.flatMap num8 ++ (rdH l).2.1 = (rdK l).2.1 := r2
  have k2 : (rdK l).1 ++ (rdK l).2.1 = l := k2
  rw [hr, List.append_nil] at p2
  unfold encE boundF rdQ hdOf
  rw [he] at r2 ⊢
  conv => rhs; rw [← k2, ← r2, ← q2, ← p2]
  simp
theorem rdOk_key {l : List Int} (hb : Bytes l) (hl : l.length ≤ 1000000) (h : rdOk l) : (rdK l).1.length = 32 := (rd13_took hb hl h.1).1
end Go.Proofs.YtgeepceieckooaaGreatDoor
end

section
namespace Go.Proofs.YtgeepceieckooaaGreatDoor
open Go Go.Ck
set_option maxRecDepth 100000
set_option maxHeartbeats 4000000
set_option linter.unusedVariables false
theorem bclone_sp (sv : Value) (l : List Int) (h : View) (hs : Bs8 h sv l) (hl : l.length ≤ 1000000) (w : World) (s : St ⟨w, h, []⟩ h [] w) :
    Calls Tryz.prog 26 [sv].toArray w fun e w' => ∃ v, e = .returned v ∧ St ⟨w, h, []⟩ h [rowB v l] w' ∧ True := by
  obtain ⟨_, ad, cap, rfl, hcap, _⟩ := id hs
  refine calls_enter Tryz.func26 rfl Tryz.ntmps26 rfl s ?_
  repeat' (first|(refine ycf ?_;apply ybk;(·first|(first|(apply qv_eql_slnil<;>rfl)));(·rfl);(·rfl))|refine t1_ ?_|(refine ta_ ?_;intro _)|((fail_if_success (refine ybi rfl ?_));refine ybj rfl ?_ ?_<;>(intro ht;rw [ht];first|replace ht := oet_ ht|replace ht := oef_ ht|skip))|(refine ych ?_;first|(refine ybw rfl ?_ ?_<;>intro ht)|(refine ybx rfl ?_ ?_<;>intro ht)))
  · cases ad with
    | some ad => cases ht
    | none =>
      have h0 : l = [] := by
        obtain ⟨h1, ad', cap', h2, h3, h4⟩ := hs
        cases h2
        rcases h4 with h4 | ⟨b, o, cs, e, fz, q1, _⟩
        · have := congrArg List.length h4
          rw [bcs_len] at this
          exact List.eq_nil_of_length_eq_zero this
        · cases q1
      subst h0
      refine nx_ret1 rfl (rv_tmp rfl) (fun w' s' => ⟨_, rfl, ?_, trivial⟩)
      exact s'.rowNil _ _
  · refine yba ma_buildSlice0 rfl rfl rfl ybf (fun _ => ybf) ?_
    intro b
    refine rx_rowOf 1 0 0 (by omega) (by unfold maxLen; omega) rfl ?_
    repeat' (first|(refine ycf ?_;apply ybk;(·first|(first|(apply qv_eql_slnil<;>rfl)));(·rfl);(·rfl))|refine t1_ ?_|(refine ta_ ?_;intro _)|((fail_if_success (refine ybi rfl ?_));refine ybj rfl ?_ ?_<;>(intro ht;rw [ht];first|replace ht := oet_ ht|replace ht := oef_ ht|skip))|(refine ych ?_;first|(refine ybw rfl ?_ ?_<;>intro ht)|(refine ybx rfl ?_ ?_<;>intro ht)))
    refine rx_append_sc (sz := 1) 0 rfl rfl rfl hs (bcs_one l) rfl (by omega) (by unfold maxLen; omega) (by omega) rfl rfl rfl ybf (fun _ => ybf) ?_
    intro v' _
    repeat' (first|(refine ycf ?_;apply ybk;(·first|(first|(apply qv_eql_slnil<;>rfl)));(·rfl);(·rfl))|refine t1_ ?_|(refine ta_ ?_;intro _)|((fail_if_success (refine ybi rfl ?_));refine ybj rfl ?_ ?_<;>(intro ht;rw [ht];first|replace ht := oet_ ht|replace ht := oef_ ht|skip))|(refine ych ?_;first|(refine ybw rfl ?_ ?_<;>intro ht)|(refine ybx rfl ?_ ?_<;>intro ht)))
    refine nx_ret1 rfl (rv_tmp rfl) (fun w' s' => ⟨_, rfl, ?_, trivial⟩)
    simpa using s'
theorem bound_sp (key : List Int) (q : Hdr) (pv sv : Value) (hk32 : key.length = 32) (hok : q.ok) (hsv : sv.oneCell' = true) (h : View) (hp : Bs8 h pv q.past) (w : World) (s : St ⟨w, h, []⟩ h [] w) :
    Calls Tryz.prog 27 [.agg (envc key q pv sv).toArray].toArray w fun e w' => ∃ y : Nat × Value, e = .returned (.pointer (some ⟨y.1, 0, none⟩)) ∧ St ⟨w, h, []⟩ h [outR y.1 y.2 false, rowB y.2 (boundF key q)] w' ∧ True := by
  obtain ⟨_, ad, cap, rfl, hcap, _⟩ := id hp
  obtain ⟨⟨e1, e2⟩, ⟨c1, c2⟩, ⟨d1, d2⟩, ⟨n1, n2⟩, pl⟩ := id hok
  refine calls_enter Tryz.func27 rfl Tryz.ntmps27 rfl s ?_
  repeat' (first|(refine ycf ?_;apply ybk;(·first|(apply yad;(·rfl);(·exact env_head hk32 (yaz 0 rfl));(·rfl)));(·rfl);(·rfl))|(refine ybg 0 rfl rfl rfl (by show (envc key q _ _).toArray.size = 38;simpa using envc_len hk32) (by show 0 + (envc key q _ _).toArray.size ≤ _;rw [List.size_toArray, envc_len hk32];exact nble rfl) (List.all_eq_true.2 (envc_one rfl hsv)) (ybh (by show (envc key q _ _).length = _;rw [envc_len hk32];rfl)) rfl rfl ?_ ?_ ?_;(·(exact to_));(·(exact to_)))|refine t1_ ?_|(refine ta_ ?_;intro _)|((fail_if_success (refine ybi rfl ?_));refine ybj rfl ?_ ?_<;>(intro ht;rw [ht];first|replace ht := oet_ ht|replace ht := oef_ ht|skip))|(refine ych ?_;first|(refine ybw rfl ?_ ?_<;>intro ht)|(refine ybx rfl ?_ ?_<;>intro ht)))
  rename_i be bh bo
  refine cx_perm (perm_at (k := 2) rfl) ?_
  refine cx_bpersist rfl fun hn => ?_
  have hcells : (addV h be (Obj.cells (Value.agg (envc key q (Value.slice ad q.past.length cap) sv).toArray).cells 41)) be = some (.cells (envc key q (Value.slice ad q.past.length cap) sv).toArray 41 (0, 0)) := by
    unfold addV
    rw [if_pos rfl]
    rfl
  have hle1 : Le h (addV h be (Obj.cells (Value.agg (envc key q (Value.slice ad q.past.length cap) sv).toArray).cells 41)) := fun z o hz => by
    unfold addV
    by_cases hzb : z = be
    · subst hzb; rw [hn] at hz; cases hz
    · rw [if_neg hzb]; exact hz
  have hp1 := hp.mono hle1
  generalize hv1 : addV h be _ = h1 at *
  have hkey : Bs8 h1 (.slice (some ⟨be, 0, none⟩) 32 32) key := by
    have hb := bcs_len key
    refine ⟨by rw [hb, Nat.mul_one], _, _, by rw [hk32], by rw [hk32]; exact Nat.le_refl _, .inr ⟨be, 0, _, _, _, rfl, hcells, fun j u hj => ?_⟩⟩
    have hjl : j < (bcs key).length := (List.getElem?_eq_some_iff.1 hj).1
    show (envc key q _ _).toArray[0 + j]? = _
    rw [Nat.zero_add, List.getElem?_toArray, envc, List.getElem?_append_left hjl]
    exact hj
  refine cx_row 5 1 ?_
  refine cx_perm (List.Perm.swap _ _ _) ?_
  refine cx_region_draw [Res.blk bh (.cells (hdc q (.slice ad q.past.length cap)).toArray 36 (0, 0))] rfl (by kernel_rfl) ?_
  repeat' (refine ycf ?_;(first|(first|(apply ybm;(·(first|(exact qv_slice_arr rfl)|exact tq_));(·rfl);(·rfl);(·(exact fun _ s => Hd.sub s (Le.refl h1) (fun r hr => List.mem_cons_of_mem _ (List.mem_cons_of_mem _ hr)))))|refine ybl rfl rfl ?_|((fail_if_success (refine ybi rfl ?_));refine ybj rfl ?_ ?_<;>(intro ht;rw [ht];first|replace ht := oet_ ht|replace ht := oef_ ht|skip))|(refine tb_ ?_ ?_ ?_;(·(first|exact ybf|(refine .inl ?_;(exact fun _ s => Hd.sub s (Le.refl h1) (fun r hr => List.mem_cons_of_mem _ (List.mem_cons_of_mem _ hr))))|exact to_));(·intro _;(first|exact ybf|(refine .inl ?_;(exact fun _ s => Hd.sub s (Le.refl h1) (fun r hr => List.mem_cons_of_mem _ (List.mem_cons_of_mem _ hr))))|exact to_));intro _)|(first|(refine tqs_ ?_ ?_ ?_;(·(first|exact ybf|(refine .inl ?_;(exact fun _ s => Hd.sub s (Le.refl h1) (fun r hr => List.mem_cons_of_mem _ (List.mem_cons_of_mem _ hr))))|exact to_));(·(first|exact ybf|(refine .inl ?_;(exact fun _ s => Hd.sub s (Le.refl h1) (fun r hr => List.mem_cons_of_mem _ (List.mem_cons_of_mem _ hr))))|exact to_))))|(apply ybn;(·(first|(exact qv_slice_arr rfl)|exact tq_));(·rfl);(·rfl);(·rfl);(·(first|exact ybf|(refine .inl ?_;(exact fun _ s => Hd.sub s (Le.refl h1) (fun r hr => List.mem_cons_of_mem _ (List.mem_cons_of_mem _ hr))))|exact to_))))|refine ycg ?_))
  (refine rx_call_2 (ycp Tryz.func58 rfl (by kernel_rfl) rfl) (OutFixed_sp bo (.slice none 0 0) [] false _ key (by simp;omega) h1 hkey) rfl rfl rfl ?_ ?_ ?_;(·(first|exact ybf|(refine .inl ?_;(exact fun _ s => Hd.sub s (Le.refl h1) (fun r hr => List.mem_cons_of_mem _ (List.mem_cons_of_mem _ hr))))|exact to_));(·intro _ _ hle;(first|exact ybf|(refine .inl ?_;(exact fun _ s => Hd.sub s (Le.refl h1) (fun r hr => List.mem_cons_of_mem _ (List.mem_cons_of_mem _ hr))))|exact to_));intro x px hle)
  repeat' (refine ycf ?_;(first|(first|(apply ybm;(·exact tq_);(·rfl);(·rfl);(·(exact fun _ s => Hd.sub s (Le.refl h1) (fun r hr => List.mem_cons_of_mem _ (List.mem_cons_of_mem _ hr)))))|refine ybl rfl rfl ?_|((fail_if_success (refine ybi rfl ?_));refine ybj rfl ?_ ?_<;>(intro ht;rw [ht];first|replace ht := oet_ ht|replace ht := oef_ ht|skip))|(refine tb_ ?_ ?_ ?_;(·(first|exact ybf|(refine .inl ?_;(exact fun _ s => Hd.sub s (Le.refl h1) (fun r hr => List.mem_cons_of_mem _ (List.mem_cons_of_mem _ hr))))|exact to_));(·intro _;(first|exact ybf|(refine .inl ?_;(exact fun _ s => Hd.sub s (Le.refl h1) (fun r hr => List.mem_cons_of_mem _ (List.mem_cons_of_mem _ hr))))|exact to_));intro _)|(first|(refine tqs_ ?_ ?_ ?_;(·(first|exact ybf|(refine .inl ?_;(exact fun _ s => Hd.sub s (Le.refl h1) (fun r hr => List.mem_cons_of_mem _ (List.mem_cons_of_mem _ hr))))|exact to_));(·(first|exact ybf|(refine .inl ?_;(exact fun _ s => Hd.sub s (Le.refl h1) (fun r hr => List.mem_cons_of_mem _ (List.mem_cons_of_mem _ hr))))|exact to_))))|(apply ybn;(·exact tq_);(·rfl);(·rfl);(·rfl);(·(first|exact ybf|(refine .inl ?_;(exact fun _ s => Hd.sub s (Le.refl h1) (fun r hr => List.mem_cons_of_mem _ (List.mem_cons_of_mem _ hr))))|exact to_))))|refine ycg ?_))
  (refine rx_call_2 (ycp Tryz.func59 rfl (by kernel_rfl) rfl) (OutNum_sp bo x _ false q.ep (by omega) (by omega) (by simp;omega) h1) rfl rfl rfl ?_ ?_ ?_;(·(first|exact ybf|(refine .inl ?_;(exact fun _ s => Hd.sub s (Le.refl h1) (fun r hr => List.mem_cons_of_mem _ (List.mem_cons_of_mem _ hr))))|exact to_));(·intro _ _ hle;(first|exact ybf|(refine .inl ?_;(exact fun _ s => Hd.sub s (Le.refl h1) (fun r hr => List.mem_cons_of_mem _ (List.mem_cons_of_mem _ hr))))|exact to_));intro x px hle)
  repeat' (refine ycf ?_;(first|(first|(apply ybm;(·exact tq_);(·rfl);(·rfl);(·(exact fun _ s => Hd.sub s (Le.refl h1) (fun r hr => List.mem_cons_of_mem _ (List.mem_cons_of_mem _ hr)))))|refine ybl rfl rfl ?_|((fail_if_success (refine ybi rfl ?_));refine ybj rfl ?_ ?_<;>(intro ht;rw [ht];first|replace ht := oet_ ht|replace ht := oef_ ht|skip))|(refine tb_ ?_ ?_ ?_;(·(first|exact ybf|(refine .inl ?_;(exact fun _ s => Hd.sub s (Le.refl h1) (fun r hr => List.mem_cons_of_mem _ (List.mem_cons_of_mem _ hr))))|exact to_));(·intro _;(first|exact ybf|(refine .inl ?_;(exact fun _ s => Hd.sub s (Le.refl h1) (fun r hr => List.mem_cons_of_mem _ (List.mem_cons_of_mem _ hr))))|exact to_));intro _)|(first|(refine tqs_ ?_ ?_ ?_;(·(first|exact ybf|(refine .inl ?_;(exact fun _ s => Hd.sub s (Le.refl h1) (fun r hr => List.mem_cons_of_mem _ (List.mem_cons_of_mem _ hr))))|exact to_));(·(first|exact ybf|(refine .inl ?_;(exact fun _ s => Hd.sub s (Le.refl h1) (fun r hr => List.mem_cons_of_mem _ (List.mem_cons_of_mem _ hr))))|exact to_))))|(apply ybn;(·exact tq_);(·rfl);(·rfl);(·rfl);(·(first|exact ybf|(refine .inl ?_;(exact fun _ s => Hd.sub s (Le.refl h1) (fun r hr => List.mem_cons_of_mem _ (List.mem_cons_of_mem _ hr))))|exact to_))))|refine ycg ?_))
  (refine rx_call_2 (ycp Tryz.func59 rfl (by kernel_rfl) rfl) (OutNum_sp bo x _ false q.ct (by omega) (by omega) (by simp [putLow_len];omega) h1) rfl rfl rfl ?_ ?_ ?_;(·(first|exact ybf|(refine .inl ?_;(exact fun _ s => Hd.sub s (Le.refl h1) (fun r hr => List.mem_cons_of_mem _ (List.mem_cons_of_mem _ hr))))|exact to_));(·intro _ _ hle;(first|exact ybf|(refine .inl ?_;(exact fun _ s => Hd.sub s (Le.refl h1) (fun r hr => List.mem_cons_of_mem _ (List.mem_cons_of_mem _ hr))))|exact to_));intro x px hle)
  repeat' (refine ycf ?_;(first|(first|(apply ybm;(·exact tq_);(·rfl);(·rfl);(·(exact fun _ s => Hd.sub s (Le.refl h1) (fun r hr => List.mem_cons_of_mem _ (List.mem_cons_of_mem _ hr)))))|refine ybl rfl rfl ?_|((fail_if_success (refine ybi rfl ?_));refine ybj rfl ?_ ?_<;>(intro ht;rw [ht];first|replace ht := oet_ ht|replace ht := oef_ ht|skip))|(refine tb_ ?_ ?_ ?_;(·(first|exact ybf|(refine .inl ?_;(exact fun _ s => Hd.sub s (Le.refl h1) (fun r hr => List.mem_cons_of_mem _ (List.mem_cons_of_mem _ hr))))|exact to_));(·intro _;(first|exact ybf|(refine .inl ?_;(exact fun _ s => Hd.sub s (Le.refl h1) (fun r hr => List.mem_cons_of_mem _ (List.mem_cons_of_mem _ hr))))|exact to_));intro _)|(first|(refine tqs_ ?_ ?_ ?_;(·(first|exact ybf|(refine .inl ?_;(exact fun _ s => Hd.sub s (Le.refl h1) (fun r hr => List.mem_cons_of_mem _ (List.mem_cons_of_mem _ hr))))|exact to_));(·(first|exact ybf|(refine .inl ?_;(exact fun _ s => Hd.sub s (Le.refl h1) (fun r hr => List.mem_cons_of_mem _ (List.mem_cons_of_mem _ hr))))|exact to_))))|(apply ybn;(·exact tq_);(·rfl);(·rfl);(·rfl);(·(first|exact ybf|(refine .inl ?_;(exact fun _ s => Hd.sub s (Le.refl h1) (fun r hr => List.mem_cons_of_mem _ (List.mem_cons_of_mem _ hr))))|exact to_))))|refine ycg ?_))
  (refine rx_call_2 (ycp Tryz.func59 rfl (by kernel_rfl) rfl) (OutNum_sp bo x _ false q.cl (by omega) (by omega) (by simp [putLow_len];omega) h1) rfl rfl rfl ?_ ?_ ?_;(·(first|exact ybf|(refine .inl ?_;(exact fun _ s => Hd.sub s (Le.refl h1) (fun r hr => List.mem_cons_of_mem _ (List.mem_cons_of_mem _ hr))))|exact to_));(·intro _ _ hle;(first|exact ybf|(refine .inl ?_;(exact fun _ s => Hd.sub s (Le.refl h1) (fun r hr => List.mem_cons_of_mem _ (List.mem_cons_of_mem _ hr))))|exact to_));intro x px hle)
  repeat' (refine ycf ?_;(first|(first|(apply ybm;(·exact tq_);(·rfl);(·rfl);(·(exact fun _ s => Hd.sub s (Le.refl h1) (fun r hr => List.mem_cons_of_mem _ (List.mem_cons_of_mem _ hr)))))|refine ybl rfl rfl ?_|((fail_if_success (refine ybi rfl ?_));refine ybj rfl ?_ ?_<;>(intro ht;rw [ht];first|replace ht := oet_ ht|replace ht := oef_ ht|skip))|(refine tb_ ?_ ?_ ?_;(·(first|exact ybf|(refine .inl ?_;(exact fun _ s => Hd.sub s (Le.refl h1) (fun r hr => List.mem_cons_of_mem _ (List.mem_cons_of_mem _ hr))))|exact to_));(·intro _;(first|exact ybf|(refine .inl ?_;(exact fun _ s => Hd.sub s (Le.refl h1) (fun r hr => List.mem_cons_of_mem _ (List.mem_cons_of_mem _ hr))))|exact to_));intro _)|(first|(refine tqs_ ?_ ?_ ?_;(·(first|exact ybf|(refine .inl ?_;(exact fun _ s => Hd.sub s (Le.refl h1) (fun r hr => List.mem_cons_of_mem _ (List.mem_cons_of_mem _ hr))))|exact to_));(·(first|exact ybf|(refine .inl ?_;(exact fun _ s => Hd.sub s (Le.refl h1) (fun r hr => List.mem_cons_of_mem _ (List.mem_cons_of_mem _ hr))))|exact to_))))|(apply ybn;(·exact tq_);(·rfl);(·rfl);(·rfl);(·(first|exact ybf|(refine .inl ?_;(exact fun _ s => Hd.sub s (Le.refl h1) (fun r hr => List.mem_cons_of_mem _ (List.mem_cons_of_mem _ hr))))|exact to_))))|refine ycg ?_))
  (refine rx_call_2 (ycp Tryz.func59 rfl (by kernel_rfl) rfl) (OutNum_sp bo x _ false q.nu (by omega) (by omega) (by simp [putLow_len];omega) h1) rfl rfl rfl ?_ ?_ ?_;(·(first|exact ybf|(refine .inl ?_;(exact fun _ s => Hd.sub s (Le.refl h1) (fun r hr => List.mem_cons_of_mem _ (List.mem_cons_of_mem _ hr))))|exact to_));(·intro _ _ hle;(first|exact ybf|(refine .inl ?_;(exact fun _ s => Hd.sub s (Le.refl h1) (fun r hr => List.mem_cons_of_mem _ (List.mem_cons_of_mem _ hr))))|exact to_));intro x px hle)
  repeat' (refine ycf ?_;(first|(first|(apply ybm;(·exact tq_);(·rfl);(·rfl);(·(exact fun _ s => Hd.sub s (Le.refl h1) (fun r hr => List.mem_cons_of_mem _ (List.mem_cons_of_mem _ hr)))))|refine ybl rfl rfl ?_|((fail_if_success (refine ybi rfl ?_));refine ybj rfl ?_ ?_<;>(intro ht;rw [ht];first|replace ht := oet_ ht|replace ht := oef_ ht|skip))|(refine tb_ ?_ ?_ ?_;(·(first|exact ybf|(refine .inl ?_;(exact fun _ s => Hd.sub s (Le.refl h1) (fun r hr => List.mem_cons_of_mem _ (List.mem_cons_of_mem _ hr))))|exact to_));(·intro _;(first|exact ybf|(refine .inl ?_;(exact fun _ s => Hd.sub s (Le.refl h1) (fun r hr => List.mem_cons_of_mem _ (List.mem_cons_of_mem _ hr))))|exact to_));intro _)|(first|(refine tqs_ ?_ ?_ ?_;(·(first|exact ybf|(refine .inl ?_;(exact fun _ s => Hd.sub s (Le.refl h1) (fun r hr => List.mem_cons_of_mem _ (List.mem_cons_of_mem _ hr))))|exact to_));(·(first|exact ybf|(refine .inl ?_;(exact fun _ s => Hd.sub s (Le.refl h1) (fun r hr => List.mem_cons_of_mem _ (List.mem_cons_of_mem _ hr))))|exact to_))))|(apply ybn;(·exact tq_);(·rfl);(·rfl);(·rfl);(·(first|exact ybf|(refine .inl ?_;(exact fun _ s => Hd.sub s (Le.refl h1) (fun r hr => List.mem_cons_of_mem _ (List.mem_cons_of_mem _ hr))))|exact to_))))|refine ycg ?_))
  (refine rx_call_2 (ycp Tryz.func51 rfl (by kernel_rfl) rfl) (OutBytes_sp bo x _ false _ q.past (by simp [putLow_len];omega) h1 hp1) rfl rfl rfl ?_ ?_ ?_;(·(first|exact ybf|(refine .inl ?_;(exact fun _ s => Hd.sub s (Le.refl h1) (fun r hr => List.mem_cons_of_mem _ (List.mem_cons_of_mem _ hr))))|exact to_));(·intro _ _ hle;(first|exact ybf|(refine .inl ?_;(exact fun _ s => Hd.sub s (Le.refl h1) (fun r hr => List.mem_cons_of_mem _ (List.mem_cons_of_mem _ hr))))|exact to_));intro x px hle)
  repeat' (refine ycf ?_;(first|(first|(apply ybm;(·exact tq_);(·rfl);(·rfl);(·(exact fun _ s => Hd.sub s (Le.refl h1) (fun r hr => List.mem_cons_of_mem _ (List.mem_cons_of_mem _ hr)))))|refine ybl rfl rfl ?_|((fail_if_success (refine ybi rfl ?_));refine ybj rfl ?_ ?_<;>(intro ht;rw [ht];first|replace ht := oet_ ht|replace ht := oef_ ht|skip))|(refine tb_ ?_ ?_ ?_;(·(first|exact ybf|(refine .inl ?_;(exact fun _ s => Hd.sub s (Le.refl h1) (fun r hr => List.mem_cons_of_mem _ (List.mem_cons_of_mem _ hr))))|exact to_));(·intro _;(first|exact ybf|(refine .inl ?_;(exact fun _ s => Hd.sub s (Le.refl h1) (fun r hr => List.mem_cons_of_mem _ (List.mem_cons_of_mem _ hr))))|exact to_));intro _)|(first|(refine tqs_ ?_ ?_ ?_;(·(first|exact ybf|(refine .inl ?_;(exact fun _ s => Hd.sub s (Le.refl h1) (fun r hr => List.mem_cons_of_mem _ (List.mem_cons_of_mem _ hr))))|exact to_));(·(first|exact ybf|(refine .inl ?_;(exact fun _ s => Hd.sub s (Le.refl h1) (fun r hr => List.mem_cons_of_mem _ (List.mem_cons_of_mem _ hr))))|exact to_))))|(apply ybn;(·exact tq_);(·rfl);(·rfl);(·rfl);(·(first|exact ybf|(refine .inl ?_;(exact fun _ s => Hd.sub s (Le.refl h1) (fun r hr => List.mem_cons_of_mem _ (List.mem_cons_of_mem _ hr))))|exact to_))))|refine ycg ?_))
  repeat' (first|refine tw_ ?_|(refine ta_ ?_;intro _)|((fail_if_success (refine ybi rfl ?_));refine ybj rfl ?_ ?_<;>(intro ht;rw [ht];first|replace ht := oet_ ht|replace ht := oef_ ht|skip))|(refine ych ?_;first|(refine ybw rfl ?_ ?_<;>intro ht)|(refine ybx rfl ?_ ?_<;>intro ht)))
  refine nx_ret1 rfl (rv_tmp rfl) (fun w' s' => ⟨(bo, x), rfl, ?_, trivial⟩)
  have s2 := St.drop (L := [_]) (s'.perm (List.perm_append_comm (l₁ := [_, _]) (l₂ := [_])))
  rw [List.nil_append] at s2
  exact s2.baseL
end Go.Proofs.YtgeepceieckooaaGreatDoor
end

section
namespace Go.Proofs.YtgeepceieckooaaGreatDoor
open Go Go.Ck
set_option maxRecDepth 100000
set_option maxHeartbeats 4000000
set_option linter.unusedVariables false
def inF (del : Bool) (val : List Int) : List Int := if del then [0] else 1 :: val
theorem inF_by {del : Bool} {val : List Int} (h : Bytes val) : Bytes (inF del val) := by
  unfold inF
  split
  · intro x hx; rw [List.mem_singleton.1 hx]; omega
  · intro x hx
    rcases List.mem_cons.1 hx with rfl | hx
    · omega
    · exact h x hx
theorem inF_len {del : Bool} {val : List Int} (h : del = false → val.length ≤ 3999) : (inF del val).length ≤ 4000 := by
  unfold inF
  split
  · simp
  · rename_i hd
    have := h (by simpa using hd)
    simp; omega
theorem Hdr.ok.sealk {q : Hdr} (h : q.ok) : sealOk q.ep q.cl q.ct := by
  obtain ⟨⟨e1, e2⟩, ⟨c1, c2⟩, ⟨d1, d2⟩, ⟨n1, n2⟩, pl⟩ := h
  exact ⟨⟨d1, d2, c1, c2⟩, e1, e2⟩
def zEnv : Array Value := (envc (List.replicate 32 0) ⟨0, 0, 0, 0, []⟩ (.slice none 0 0) (.slice none 0 0)).toArray
theorem boundF_len {key : List Int} {q : Hdr} (hk : key.length = 32) : (boundF key q).length = 68 + q.past.length := by
  simp only [boundF, num8, List.length_append, List.length_reverse, putLow_len, num4_len]
  omega
theorem spl_seal {key : List Int} {q : Hdr} {pv s0 sv : Value} (hk : key.length = 32) : spl (envc key q pv s0) (0 + 37) [sv] = envc key q pv sv := by
  have hb : (bcs key).length = 32 := by rw [bcs_len, hk]
  unfold envc hdc
  generalize bcs key = l at hb ⊢
  have t37 : l.take 37 = l := List.take_of_length_le (by omega)
  have d38 : l.drop 38 = [] := List.drop_eq_nil_of_le (by omega)
  simp [spl, hb, List.take_append, List.drop_append, t37, d38]
theorem fill_env {key : List Int} {q : Hdr} {pv : Value} (hol : (bcs key).length = 32) : fillL (fun i : Nat => ([(0, 32), (32, 5), (37, 1)] : List (Nat × Nat))[i]?) zEnv.toList [(0, .agg (bcs key).toArray), (1, .agg (hdc q pv).toArray)] = some (envc key q pv (.slice none 0 0)) := by
  have hz : zEnv.toList = List.replicate 32 (.int .u8 0) ++ [.int .i64 0, .int .i64 0, .int .i64 0, .int .i64 0, .slice none 0 0, .slice none 0 0] := rfl
  rw [hz]
  unfold envc hdc
  generalize bcs key = l at hol ⊢
  have d37 : l.drop 37 = [] := List.drop_eq_nil_of_le (by omega)
  simp [fillL, spl, hol, Value.cells, List.drop_append, d37]
theorem ESeal_sp (bv : Nat) (key : List Int) (bn bu bt : Nat) (N : List (List Int)) (U : List UseK) (T : Tab) (nm val : List Int) (vn vv pv : Value) (q : Hdr) (del : Bool) (hk : Bytes key) (hk32 : key.length = 32)
    (hN : Names N) (hNl : N.length < 900000) (hU : U.length < 900000) (hT : Held U T) (hnm : Bytes nm) (hnl : 1 ≤ nm.length ∧ nm.length ≤ 64) (hok : q.ok) (hnew : (q.cl, q.ct) ∉ U) (yv : Bytes val) (hvl : del = false → val.length ≤ 3999)
    (h : View) (hv : Vb h bv true key bn bu bt) (hsn : Bs8 h vn nm) (hsv : Bs8 h vv val) (hsp : Bs8 h pv q.past) (w : World) (s : St ⟨w, h, doms [nmR bn N, usR bu U, tbR bt T]⟩ h [nmR bn N, usR bu U, tbR bt T] w) :
    Calls Tryz.prog 9 [.pointer (some ⟨bv, 0, none⟩), vn, .agg (hdc q pv).toArray, vv, .bool del].toArray w fun e w' => ∃ y : View × Value × Value × Value, e = .returned (.tuple #[.agg (envc (blindF key N nm) q y.2.1 y.2.2.1).toArray, .int .i64 0]) ∧
      St ⟨w, h, doms [nmR bn N, usR bu U, tbR bt T]⟩ y.1 [rowB y.2.1 q.past, rowB y.2.2.1 (sealF key U (padF (inF del val))), nmR bn (addN N nm), usR bu (U ++ [(q.cl, q.ct)]),
        tbR bt (T ++ [((q.cl, q.ct, q.ep, bstr (boundF (blindF key N nm) q), bstr (sealF key U (padF (inF del val)))), y.2.2.2, padF (inF del val))])] w' ∧ Bs8 y.1 y.2.2.2 (padF (inF del val)) := by
  obtain ⟨_, adn, capn, rfl, hcapn, _⟩ := id hsn
  obtain ⟨_, adv, capv, rfl, hcapv, _⟩ := id hsv
  obtain ⟨_, adp, capp, rfl, hcapp, _⟩ := id hsp
  have HR := hright_sp q _ h hsp
  have HN := name_sp _ nm h hsn
  have e1 : decide q.ok = true := by simpa using hok
  have e2 : decide (1 ≤ nm.length ∧ nm.length ≤ 64) = true := by simpa using hnl
  rw [e1] at HR
  rw [e2] at HN
  refine calls_enter Tryz.func9 rfl Tryz.ntmps9 rfl s ?_
  repeat' (first|(refine ycf ?_;apply ybk;(·first|(first|exact tk_|(apply qv_eql_pnil<;>rfl)|(apply qv_nilCheck;rfl)));(·rfl);(·rfl))|refine t1_ ?_|(refine ta_ ?_;intro _)|((fail_if_success (refine ybi rfl ?_));refine ybj rfl ?_ ?_<;>(intro ht;rw [ht];first|replace ht := oet_ ht|replace ht := oef_ ht|skip))|(refine ych ?_;first|(refine ybw rfl ?_ ?_<;>intro ht)|(refine ybx rfl ?_ ?_<;>intro ht)))
  (refine ycn (ycp Tryz.func22 rfl (by kernel_rfl) rfl) (HN) rfl rfl rfl ?_ ?_; (· (exact to_)))
  repeat' (first|(refine ycf ?_;apply ybk;(·first|(first|exact tk_|(apply qv_eql_pnil<;>rfl)|(apply qv_nilCheck;rfl)));(·rfl);(·rfl))|refine t1_ ?_|(refine ta_ ?_;intro _)|((fail_if_success (refine ybi rfl ?_));refine ybj rfl ?_ ?_<;>(intro ht;rw [ht];first|replace ht := oet_ ht|replace ht := oef_ ht|skip))|(refine ych ?_;first|(refine ybw rfl ?_ ?_<;>intro ht)|(refine ybx rfl ?_ ?_<;>intro ht)))
  (refine ycn (ycp Tryz.func23 rfl (by kernel_rfl) rfl) (HR) rfl rfl rfl ?_ ?_; (· (exact to_)))
  iterate 12 (first|(refine ycf ?_;apply ybk;(·first|(exact tk_));(·rfl);(·rfl))|refine t1_ ?_|(refine ta_ ?_;intro _)|((fail_if_success (refine ybi rfl ?_));refine ybj rfl ?_ ?_<;>(intro ht;rw [ht];first|replace ht := oet_ ht|replace ht := oef_ ht|skip))|(refine ych ?_;first|(refine ybw rfl ?_ ?_<;>intro ht)|(refine ybx rfl ?_ ?_<;>intro ht)))
  rename_i b7 b10 bi
  refine yby ?_
  refine ybo ?_
  have hil := inF_len hvl
  have hiy := inF_by (del := del) yv
  refine cx_cut (X := Value) (fun y => [(0, .pointer (some ⟨bv, 0, none⟩)), (1, .slice adn nm.length capn), (7, .pointer (some ⟨b7, 0, none⟩)), (10, .pointer (some ⟨b10, 0, none⟩)), (12, y)]) (fun _ => h) (fun y => [rowB y (inF del val), Res.blk b10 (.cells zEnv 41 (0, 0)), Res.blk b7 (.cells (hdc q (.slice adp q.past.length capp)).toArray 36 (0, 0)), nmR bn N, usR bu U, tbR bt T]) (fun _ => True) ?_ ?_
  · cases del with
    | true =>
      repeat' (first|(refine ycf ?_;apply ybk;(·first|(exact tk_));(·rfl);(·rfl))|refine t1_ ?_|(refine ta_ ?_;intro _)|((fail_if_success (refine ybi rfl ?_));refine ybj rfl ?_ ?_<;>(intro ht;rw [ht];first|replace ht := oet_ ht|replace ht := oef_ ht|skip))|(refine ych ?_;first|(refine ybw rfl ?_ ?_<;>intro ht)|(refine ybx rfl ?_ ?_<;>intro ht)))
      refine nx_cut (.slice (some ⟨bi, 0, none⟩) 1 1) trivial ts_ (fun w' s' => ?_)
      exact s'.rowOf (k := 1) (m := 1) (cap := 1) (Nat.le_refl _) (by unfold maxLen; omega) rfl
    | false =>
      have hvl := hvl rfl
      repeat' (first|(refine ycf ?_;apply ybk;(·first|(exact tk_));(·rfl);(·rfl))|refine t1_ ?_|(refine ta_ ?_;intro _)|((fail_if_success (refine ybi rfl ?_));refine ybj rfl ?_ ?_<;>(intro ht;rw [ht];first|replace ht := oet_ ht|replace ht := oef_ ht|skip))|(refine ych ?_;first|(refine ybw rfl ?_ ?_<;>intro ht)|(refine ybx rfl ?_ ?_<;>intro ht)))
      refine rx_rowOf 1 1 1 (Nat.le_refl _) (by unfold maxLen; omega) rfl ?_
      refine rx_append_sc (sz := 1) 0 rfl rfl rfl hsv (bcs_one val) rfl (by omega) (by unfold maxLen; omega) (by omega) rfl rfl rfl ybf (fun _ => ybf) ?_
      intro v2 _
      repeat' (first|(refine ycf ?_;apply ybk;(·first|(exact tk_));(·rfl);(·rfl))|refine t1_ ?_|(refine ta_ ?_;intro _)|((fail_if_success (refine ybi rfl ?_));refine ybj rfl ?_ ?_<;>(intro ht;rw [ht];first|replace ht := oet_ ht|replace ht := oef_ ht|skip))|(refine ych ?_;first|(refine ybw rfl ?_ ?_<;>intro ht)|(refine ybx rfl ?_ ?_<;>intro ht)))
      refine nx_cut v2 trivial ts_ (fun w' s' => ?_)
      have s2 := (s'.perm (perm_at (k := 1) rfl)).tl
      have e : (inF false val).length = 1 + val.length := by simp [inF]; omega
      unfold rowB
      rw [e]
      exact s2
  intro vi _
  generalize inF del val = ins at *
  have hpd := padF_len hil
  have hsz := sizeF_bd (n := (ins.length : Nat)) (by omega) (by omega)
  refine yby ?_
  repeat' (first|(refine ycf ?_;apply ybk;(·first|(exact tk_));(·rfl);(·rfl))|refine t1_ ?_|(refine ta_ ?_;intro _)|((fail_if_success (refine ybi rfl ?_));refine ybj rfl ?_ ?_<;>(intro ht;rw [ht];first|replace ht := oet_ ht|replace ht := oef_ ht|skip))|(refine ych ?_;first|(refine ybw rfl ?_ ?_<;>intro ht)|(refine ybx rfl ?_ ?_<;>intro ht)))
  refine rx_call_lendx (u := fun y : Value => .tuple #[y, .int .i64 0]) (LL := fun y => [rowB y (padF ins)]) 0 (ycp Tryz.func24 rfl (by kernel_rfl) rfl) rfl (fun h' _ hsc w s => Pad_sp vi ins hil h' hsc w s) rfl rfl rfl ybf (fun _ => ybf) ?_
  intro vp
  refine rx_persistA (by intro z hz; simp only [doms, List.flatMap_cons, List.flatMap_nil, List.mem_append, Res.mp, List.mem_singleton] at hz ⊢; simp; rcases hz with hz | hz | hz; (· simp_all); (· simp_all); (· simp_all)) fun h1 hle1 hvp => ?_
  have hvp : Bs8 h1 vp (padF ins) := hvp
  obtain ⟨_, adq, capq, rfl, hcapq, _⟩ := id hvp
  have hv1 := hv.mono hle1
  have hsn1 := hsn.mono hle1
  have hsp1 := hsp.mono hle1
  repeat' (first|(refine ycf ?_;apply ybk;(·first|(exact tk_));(·rfl);(·rfl))|refine t1_ ?_|(refine ta_ ?_;intro _)|((fail_if_success (refine ybi rfl ?_));refine ybj rfl ?_ ?_<;>(intro ht;rw [ht];first|replace ht := oet_ ht|replace ht := oef_ ht|skip))|(refine ych ?_;first|(refine ybw rfl ?_ ?_<;>intro ht)|(refine ybx rfl ?_ ?_<;>intro ht)))
  (refine rx_call_m (ycp Tryz.func25 rfl (by kernel_rfl) rfl) (perm_at (k := 3) rfl) (Blind_sp bv key bn bu bt N _ nm hk hk32 hN hNl hnm hnl h1 hv1 hsn1) rfl rfl rfl ?_ ?_ ?_; (· (exact to_)); (· intro _ _ hle; (exact to_)); intro x px hle)
  have hb32 : (blindF key N nm).length = 32 := drawF_len _ _ _ _ (by omega)
  have hby : Bytes (blindF key N nm) := drawF_by _ _ _ _
  generalize hbk : blindF key N nm = bk at hb32 hby ⊢
  have hol : (bcs bk).length = 32 := by rw [bcs_len, hb32]
  clear px hle
  repeat' (first|(refine ycf ?_;apply ybk;(·first|(exact tk_));(·rfl);(·rfl))|(refine ybg 0 rfl rfl rfl (by show (bcs bk).toArray.size = 32;simpa using hol) (by show 0 + (bcs bk).toArray.size ≤ _;rw [List.size_toArray, hol];exact nble rfl) (List.all_eq_true.2 (bcs_one bk)) (ybh (by show (bcs bk).length = _;rw [hol];rfl)) rfl rfl ?_ ?_ ?_;(·(exact to_));(·(exact to_)))|refine t1_ ?_|(refine ta_ ?_;intro _)|((fail_if_success (refine ybi rfl ?_));refine ybj rfl ?_ ?_<;>(intro ht;rw [ht];first|replace ht := oet_ ht|replace ht := oef_ ht|skip))|(refine ych ?_;first|(refine ybw rfl ?_ ?_<;>intro ht)|(refine ybx rfl ?_ ?_<;>intro ht)))
  have hpl : q.past.length ≤ 1000000 := by have := hok.2.2.2.2; omega
  (refine yco (ycp Tryz.func26 rfl (by kernel_rfl) rfl) (bclone_sp _ q.past h1 hsp1 hpl) rfl rfl rfl ?_ ?_ ?_; (· (exact to_)); (· intro _ _ hle; (exact to_)); intro x px hle)
  rename_i pc _ _
  refine rx_rowsl 0 rfl fun adx capx hpx => ?_
  subst hpx
  repeat' (first|(refine ycf ?_;apply ybk;(·first|(first|exact tk_|(apply yad;(·rfl);(·exact yaz 1 rfl);(·exact hol))|(apply yax (cs := envc bk q (.slice adx q.past.length capx) (.slice none 0 0));(·rfl);(·exact fill_env hol))));(·rfl);(·rfl))|refine t1_ ?_|(refine ta_ ?_;intro _)|((fail_if_success (refine ybi rfl ?_));refine ybj rfl ?_ ?_<;>(intro ht;rw [ht];first|replace ht := oet_ ht|replace ht := oef_ ht|skip))|(refine ych ?_;first|(refine ybw rfl ?_ ?_<;>intro ht)|(refine ybx rfl ?_ ?_<;>intro ht)))
  repeat' (first|(refine ycf ?_;apply ybk;(·first|(first|exact tk_|(apply yad;(·rfl);(·exact yaz 0 rfl);(·exact envc_len hb32))));(·rfl);(·rfl))|(refine ybg 0 rfl rfl rfl (by show (envc bk q _ _).toArray.size = 38;simpa using envc_len hb32) (by show 0 + (envc bk q _ _).toArray.size ≤ _;rw [List.size_toArray, envc_len hb32];exact nble rfl) (List.all_eq_true.2 (envc_one rfl rfl)) (ybh (by show (envc bk q _ _).length = _;rw [envc_len hb32];rfl)) rfl rfl ?_ ?_ ?_;(·(exact to_));(·(exact to_)))|refine t1_ ?_|(refine ta_ ?_;intro _)|((fail_if_success (refine ybi rfl ?_));refine ybj rfl ?_ ?_<;>(intro ht;rw [ht];first|replace ht := oet_ ht|replace ht := oef_ ht|skip))|(refine ych ?_;first|(refine ybw rfl ?_ ?_<;>intro ht)|(refine ybx rfl ?_ ?_<;>intro ht)))
  refine rx_call_lendx (u := fun y : Nat × Value => .pointer (some ⟨y.1, 0, none⟩)) (LL := fun y => [outR y.1 y.2 false, rowB y.2 (boundF bk q)]) 1 (ycp Tryz.func27 rfl (by kernel_rfl) rfl) rfl (fun h' _ hsc w s => bound_sp bk q _ _ hb32 hok rfl h' hsc w s) rfl rfl rfl ybf (fun _ => ybf) ?_
  rintro ⟨bo, vo⟩
  dsimp only
  have hbl := boundF_len (q := q) hb32
  repeat' (first|(refine ycf ?_;apply ybk;(·first|(exact tk_));(·rfl);(·rfl))|refine t1_ ?_|(refine ta_ ?_;intro _)|((fail_if_success (refine ybi rfl ?_));refine ybj rfl ?_ ?_<;>(intro ht;rw [ht];first|replace ht := oet_ ht|replace ht := oef_ ht|skip))|(refine ych ?_;first|(refine ybw rfl ?_ ?_<;>intro ht)|(refine ybx rfl ?_ ?_<;>intro ht)))
  (refine rx_call_2 (ycp Tryz.func28 rfl (by kernel_rfl) rfl) (Done_sp bo vo (boundF bk q) (by rw [hbl]; have := hok.2.2.2.2; omega) h1) rfl rfl rfl ?_ ?_ ?_; (· (exact to_)); (· intro _ _ hle; (exact to_)); intro x px hle)
  refine rx_persistA (by intro z hz; simp only [doms, List.flatMap_cons, List.flatMap_nil, List.mem_append, Res.mp, List.mem_singleton] at hz ⊢; simp; rcases hz with hz | hz | hz; (· simp_all); (· simp_all); (· simp_all)) fun h2 hle2 hvw => ?_
  have hvw : Bs8 h2 x (boundF bk q) := hvw
  obtain ⟨_, adw, capw, rfl, hcapw, _⟩ := id hvw
  have hv2 := hv1.mono hle2
  have hvp2 := hvp.mono hle2
  repeat' (first|(refine ycf ?_;apply ybk;(·first|(exact tk_)|(apply yae;(·rfl);(·(exact yay 8 rfl rfl))));(·rfl);(·rfl))|refine t1_ ?_|(refine ta_ ?_;intro _)|((fail_if_success (refine ybi rfl ?_));refine ybj rfl ?_ ?_<;>(intro ht;rw [ht];first|replace ht := oet_ ht|replace ht := oef_ ht|skip))|(refine ych ?_;first|(refine ybw rfl ?_ ?_<;>intro ht)|(refine ybx rfl ?_ ?_<;>intro ht)))
  have hpp : (padF ins).length ≤ 5000 := by omega
  refine rx_call_l (ycp Tryz.func29 rfl (by kernel_rfl) rfl) (pick2 9 9 rfl rfl) (VSeal_sp bv key bn bu bt U T q.ep q.cl q.ct _ _ (boundF bk q) (padF ins) hk hk32 hU hT hok.sealk hnew hpp h2 hv2 hvw hvp2) rfl rfl rfl ybf (fun _ _ _ => ybf) ?_
  rintro ⟨h3, vs, tv⟩ htv hle3
  dsimp only at htv hle3 ⊢
  refine rx_rowsl 0 rfl fun ads caps hps => ?_
  subst hps
  repeat' (first|(refine ycf ?_;apply ybk;(·first|(first|exact tk_|(apply yad;(·rfl);(·exact yaz 5 rfl);(·exact envc_len hb32))));(·rfl);(·rfl))|(first|(refine ybg 5 rfl rfl rfl rfl (by show 0 + 37 + 1 ≤ (envc bk q _ _).toArray.size;rw [List.size_toArray, envc_len hb32];omega) rfl (spl_seal hb32) rfl rfl ?_ ?_ ?_;(·(exact to_));(·(exact to_)))|(refine ybg 10 rfl rfl rfl (by show (envc bk q _ _).toArray.size = 38;simpa using envc_len hb32) (by show 0 + (envc bk q _ _).toArray.size ≤ _;rw [List.size_toArray, envc_len hb32];exact nble rfl) (List.all_eq_true.2 (envc_one rfl rfl)) (ybh (by show (envc bk q _ _).length = _;rw [envc_len hb32];rfl)) rfl rfl ?_ ?_ ?_;(·(exact to_));(·(exact to_))))|refine t1_ ?_|(refine ta_ ?_;intro _)|((fail_if_success (refine ybi rfl ?_));refine ybj rfl ?_ ?_<;>(intro ht;rw [ht];first|replace ht := oet_ ht|replace ht := oef_ ht|skip))|(refine ych ?_;first|(refine ybw rfl ?_ ?_<;>intro ht)|(refine ybx rfl ?_ ?_<;>intro ht)))
  refine nx_ret2 rfl (rv_cells rfl (yaz 10 rfl) (envc_len hb32)) (rv_tmp rfl) (fun w' s' => ⟨(h3, .slice adx q.past.length capx, .slice ads (sealF key U (padF ins)).length caps, tv), rfl, ?_, htv⟩)
  exact s'.picks [6, 0, 6, 0, 0]
end Go.Proofs.YtgeepceieckooaaGreatDoor
end

section
namespace Go.Ck
open Go
section
variable {P : Program} {n : Nat} {F : List (Nat × Value)} {h : View} {L : List Res} {dst : Option Nat} {ty : Nat} {pos : String} {af : Array Edge} {gd : Option (Nat × Bool)}
theorem qv_copy_zero {T T2 e by' : Nat} {x y : Operand} {z : Value} {d a : Option Addr} {dLen dCap sCap : Nat} [tu : TyU P T (.slice e)] [tb : TyB P e z 1 by'] (hx : ev F x = some (.slice d dLen dCap)) (hy : ev F y = some (.slice a 0 sCap)) :
    QV P n F h L ⟨dst, .call ⟨.builtin .copy, #[x, y], #[T, T2]⟩, ty, pos, af, gd⟩ (.int .i64 0) := .mk fun ac w f s => by
  obtain ⟨inf, hi, _, hsize, _⟩ := tb.ex
  have hs1 : (P.info? e).map (·.size) = some 1 := by rw [hi]; simp [hsize]
  have hrun := run_copy_none (P := P) w T T2 ty e d a dLen dCap 0 sCap tu.u hs1 (by simp)
  simp [execOp, resolve, invoke, builtin, f.ev hx, f.ev hy, hrun, goInt]
end
end Go.Ck
namespace Go.Proofs.YtgeepceieckooaaGreatDoor
open Go Go.Ck
set_option maxRecDepth 100000
set_option maxHeartbeats 4000000
set_option linter.unusedVariables false
instance ckuPi : TyU Tryz.prog 89 (.slice 88) := ⟨Tryz.underlying89⟩
def envL (kk hv : List Int) (pv sv : Value) : List Value := bcs kk ++ (hv.map (Value.int .i64) ++ [pv, sv])
def padK (k : List Int) : List Int := k ++ List.replicate (32 - k.length) 0
theorem padK_len {k : List Int} (h : k.length ≤ 32) : (padK k).length = 32 := by simp [padK]; omega
theorem padK_full {k : List Int} (h : k.length = 32) : padK k = k := by simp [padK, h]
theorem envL_len {kk hv : List Int} {pv sv : Value} (h1 : kk.length = 32) (h2 : hv.length = 4) : (envL kk hv pv sv).length = 38 := by simp [envL, bcs_len, h1, h2]
theorem envL_env {kk : List Int} {hv p : List Int} {pv sv : Value} (h2 : hv.length = 4) : envL kk hv pv sv = envc kk (hdOf hv p) pv sv := by
  obtain ⟨a, b, c, d, rfl⟩ := list4 hv h2
  simp [envL, envc, hdc, hdOf]
theorem fix32 (s : RS) (n : Nat) : (fixC s n).1.length = n ∨ (fixC s n).1 = [] := by
  unfold fixC
  split
  · exact .inr rfl
  · split
    · exact .inr rfl
    · exact .inl (by simp; omega)
theorem spl_pre {l m z : List Value} (hl : l.length = z.length) : spl (z ++ m) 0 l = l ++ m := by
  simp [spl, hl]
def padH (xs : List Int) : List Int := xs ++ List.replicate (4 - xs.length) 0
theorem padH_len {xs : List Int} (h : xs.length ≤ 4) : (padH xs).length = 4 := by simp [padH]; omega
theorem padH_full {xs : List Int} (h : xs.length = 4) : padH xs = xs := by simp [padH, h]
theorem padH_set {xs : List Int} {x : Int} {k : Nat} (hk : xs.length = k) (h : k < 4) : (padH xs).set k x = padH (xs ++ [x]) := by
  subst hk
  simp only [padH, List.length_append, List.length_singleton]
  have e : 4 - xs.length = (4 - (xs.length + 1)) + 1 := by omega
  rw [e, List.replicate_succ, List.set_append_right _ _ (Nat.le_refl _), Nat.sub_self, List.set_cons_zero]
  simp
theorem spl_app' {l m vs : List Value} {k j : Nat} (hk : l.length = k) : spl (l ++ m) (k + j) vs = l ++ spl m j vs := by
  subst hk
  simp only [spl, List.take_append, List.drop_append, Nat.add_sub_cancel_left, List.append_assoc]
  rw [List.take_of_length_le (by omega), List.drop_eq_nil_of_le (by omega), List.nil_append, Nat.add_assoc, Nat.add_sub_cancel_left]
theorem spl_envL {kk hv : List Int} {pv sv : Value} {k o : Nat} {x : Int} (h1 : kk.length = 32) (ho : o = 32 + k) (hk : k < hv.length) : spl (envL kk hv pv sv) o [.int .i64 x] = envL kk (hv.set k x) pv sv := by
  subst ho
  have hb : (bcs kk).length = 32 := by rw [bcs_len, h1]
  unfold envL
  rw [spl_app' hb]
  congr 1
  have e : (hv.set k x).map (Value.int .i64) = (hv.map (Value.int .i64)).set k (.int .i64 x) := by rw [List.map_set]
  rw [e]
  have hl : k < (hv.map (Value.int .i64)).length := by simpa using hk
  generalize hv.map (Value.int .i64) = m at hl ⊢
  simp only [spl, List.length_singleton]
  rw [List.take_append_of_le_length (by omega), List.drop_append_of_le_length (by omega), List.set_eq_take_append_cons_drop, if_pos hl]
  simp
theorem spl_pv {kk hv : List Int} {p0 s0 pv : Value} (h1 : kk.length = 32) (h2 : hv.length = 4) : spl (envL kk hv p0 s0) (0 + 32 + 4) [pv] = envL kk hv pv s0 := by
  have hb : (bcs kk).length = 32 := by rw [bcs_len, h1]
  obtain ⟨a, b, c, d, rfl⟩ := list4 hv h2
  unfold envL
  rw [Nat.zero_add, spl_app' hb]
  rfl
theorem spl_sv {kk hv : List Int} {p0 s0 sv : Value} (h1 : kk.length = 32) (h2 : hv.length = 4) : spl (envL kk hv p0 s0) (0 + 37) [sv] = envL kk hv p0 sv := by
  have hb : (bcs kk).length = 32 := by rw [bcs_len, h1]
  obtain ⟨a, b, c, d, rfl⟩ := list4 hv h2
  unfold envL
  rw [Nat.zero_add, show 37 = 32 + 5 from rfl, spl_app' hb]
  rfl
def ptrs (be : Nat) : List Value := [.pointer (some ⟨be, 32 + 0, none⟩), .pointer (some ⟨be, 32 + 1, none⟩), .pointer (some ⟨be, 32 + 2, none⟩), .pointer (some ⟨be, 32 + 3, none⟩)]
theorem ptrs_at {be k : Nat} (h : k < 4) : (ptrs be)[k]? = some (.pointer (some ⟨be, 32 + k, none⟩)) := by
  rcases (by omega : k = 0 ∨ k = 1 ∨ k = 2 ∨ k = 3) with rfl | rfl | rfl | rfl<;>rfl
theorem ERead_sp (sv : Value) (l : List Int) (hb : Bytes l) (hl : l.length ≤ 900000) (h : View) (hs : Bs8 h sv l) (w : World) (s : St ⟨w, h, []⟩ h [] w) :
    Calls Tryz.prog 15 [sv].toArray w fun en w' => ∃ x : View × Value × Value, en = .returned (.tuple #[.agg (if rdOk l then (envc (rdK l).1 (rdQ l) x.2.1 x.2.2).toArray else zEnv), .int .i64 (if rdOk l then 0 else 2)]) ∧ St ⟨w, h, []⟩ x.1 [] w' ∧ (rdOk l → Bs8 x.1 x.2.1 (rdQ l).past ∧ Bs8 x.1 x.2.2 (rdZ l).1) := by
  obtain ⟨o1, o2, o3, o4⟩ := rd_oks hb (by omega)
  obtain ⟨_, ad, cap, rfl, hcap, _⟩ := id hs
  refine calls_enter Tryz.func15 rfl Tryz.ntmps15 rfl s ?_
  repeat' (first|refine tw_ ?_|(refine ta_ ?_;intro _)|((fail_if_success (refine ybi rfl ?_));refine ybj rfl ?_ ?_<;>(intro ht;rw [ht];first|replace ht := oet_ ht|replace ht := oef_ ht|skip))|(refine ych ?_;first|(refine ybw rfl ?_ ?_<;>intro ht)|(refine ybx rfl ?_ ?_<;>intro ht)))
  (refine yco (ycp Tryz.func42 rfl (by kernel_rfl) rfl) (Of_sp _ l (by omega) h hs) rfl rfl rfl ?_ ?_ ?_; (· (exact to_)); (· intro _ _ hle; (exact to_)); intro x px hle)
  obtain ⟨h1, bi, v1⟩ := x
  dsimp only at px hle ⊢
  repeat' (first|refine tw_ ?_|(refine ta_ ?_;intro _)|((fail_if_success (refine ybi rfl ?_));refine ybj rfl ?_ ?_<;>(intro ht;rw [ht];first|replace ht := oet_ ht|replace ht := oef_ ht|skip))|(refine ych ?_;first|(refine ybw rfl ?_ ?_<;>intro ht)|(refine ybx rfl ?_ ?_<;>intro ht)))
  rename_i b2 be
  have hle1 : Le h h1 := hle
  clear hle
  refine cx_perm (L' := [Res.blk be (.cells (envL (padK []) [0, 0, 0, 0] (.slice none 0 0) (.slice none 0 0)).toArray 41 (0, 0)), inR bi v1 0, Res.blk b2 (.cells zEnv 41 (0, 0))]) (.refl _) ?_
  refine cx_cut (X := View × Value) (fun y => [(2, .pointer (some ⟨b2, 0, none⟩)), (4, .pointer (some ⟨bi, 0, none⟩)), (5, .pointer (some ⟨be, 0, none⟩))]) (fun y => y.1) (fun y => [Res.blk be (.cells (envL (padK (rdK l).1) [0, 0, 0, 0] (.slice none 0 0) (.slice none 0 0)).toArray 41 (0, 0)), inR bi y.2 (rdK l).2.2, Res.blk b2 (.cells zEnv 41 (0, 0))]) (fun y => Le h1 y.1 ∧ Bs8 y.1 y.2 (rdK l).2.1) ?_ ?_
  · refine cx_region_draw [] rfl (by kernel_rfl) ?_
    repeat' (refine ycf ?_;(first|(first|(apply ybm;(·(first|(exact qv_slice_arr rfl)|exact tq_));(·rfl);(·rfl);(·(first|exact fun _ s => Hd.sub s (Le.refl _) (fun r hr => nomatch hr)|exact fun _ s => Hd.sub s hle (fun r hr => nomatch hr))))|refine ybl rfl rfl ?_|((fail_if_success (refine ybi rfl ?_));refine ybj rfl ?_ ?_<;>(intro ht;rw [ht];first|replace ht := oet_ ht|replace ht := oef_ ht|skip))|(refine tb_ ?_ ?_ ?_;(·(first|exact ybf|(refine .inl ?_;(first|exact fun _ s => Hd.sub s (Le.refl _) (fun r hr => nomatch hr)|exact fun _ s => Hd.sub s hle (fun r hr => nomatch hr)))|exact to_));(·intro _;(first|exact ybf|(refine .inl ?_;(first|exact fun _ s => Hd.sub s (Le.refl _) (fun r hr => nomatch hr)|exact fun _ s => Hd.sub s hle (fun r hr => nomatch hr)))|exact to_));intro _)|(first|(refine tqs_ ?_ ?_ ?_;(·(first|exact ybf|(refine .inl ?_;(first|exact fun _ s => Hd.sub s (Le.refl _) (fun r hr => nomatch hr)|exact fun _ s => Hd.sub s hle (fun r hr => nomatch hr)))|exact to_));(·(first|exact ybf|(refine .inl ?_;(first|exact fun _ s => Hd.sub s (Le.refl _) (fun r hr => nomatch hr)|exact fun _ s => Hd.sub s hle (fun r hr => nomatch hr)))|exact to_))))|(apply ybn;(·(first|(exact qv_slice_arr rfl)|exact tq_));(·rfl);(·rfl);(·rfl);(·(first|exact ybf|(refine .inl ?_;(first|exact fun _ s => Hd.sub s (Le.refl _) (fun r hr => nomatch hr)|exact fun _ s => Hd.sub s hle (fun r hr => nomatch hr)))|exact to_))))|refine ycg ?_))
    (refine rx_call_m (ycp Tryz.func43 rfl (by kernel_rfl) rfl) (perm_at (k := 1) rfl) (InFixed_sp bi v1 l 0 32 hb (by omega) (by omega) h1 px) rfl rfl rfl ?_ ?_ ?_;(·(first|exact ybf | (refine .inl ?_;(first|exact fun _ s => Hd.sub s (Le.refl _) (fun r hr => nomatch hr) | exact fun _ s => Hd.sub s hle (fun r hr => nomatch hr))) | exact to_));(·intro _ _ hle;(first|exact ybf | (refine .inl ?_;(first|exact fun _ s => Hd.sub s (Le.refl _) (fun r hr => nomatch hr) | exact fun _ s => Hd.sub s hle (fun r hr => nomatch hr))) | exact to_));intro x px hle)
    obtain ⟨h2, vk, v2⟩ := x
    obtain ⟨pk, pv2⟩ := px
    dsimp only at pk pv2 hle ⊢
    rcases fix32 (l, 0) 32 with hk | hk
    · obtain ⟨_, adk, capk, rfl, hcapk, _⟩ := id pk
      obtain ⟨bk, ok, rfl⟩ := pk.ad (by omega) (by omega)
      have hbl := bcs_len (fixC (l, 0) 32).1
      have hspl : spl (envL (padK []) [0, 0, 0, 0] (.slice none 0 0) (.slice none 0 0)) (0 + 0) (bcs (fixC (l, 0) 32).1) = envL (padK (fixC (l, 0) 32).1) [0, 0, 0, 0] (.slice none 0 0) (.slice none 0 0) := by
        rw [padK_full hk]
        exact spl_pre (by rw [hbl, hk]; rfl)
      refine rx_copy (news := bcs (fixC (l, 0) 32).1) 1 rfl rfl rfl pk.cells (by rw [hbl, hk]; rfl) (by show 0 + 0 + _ ≤ (envL (padK []) _ _ _).toArray.size; rw [List.size_toArray, envL_len rfl rfl, hbl, hk]; omega) (bcs_one _) hspl rfl rfl rfl ?_ ?_ ?_
      · (first|exact ybf | (refine .inl ?_;(first|exact fun _ s => Hd.sub s (Le.refl _) (fun r hr => nomatch hr) | exact fun _ s => Hd.sub s hle (fun r hr => nomatch hr))) | exact to_)
      · exact .inr (by kernel_rfl)
      repeat' (refine ycf ?_;(first|(first|(apply ybm;(·(first|(exact qv_slice_arr rfl)|exact tq_));(·rfl);(·rfl);(·(first|exact fun _ s => Hd.sub s (Le.refl _) (fun r hr => nomatch hr)|exact fun _ s => Hd.sub s hle (fun r hr => nomatch hr))))|refine ybl rfl rfl ?_|((fail_if_success (refine ybi rfl ?_));refine ybj rfl ?_ ?_<;>(intro ht;rw [ht];first|replace ht := oet_ ht|replace ht := oef_ ht|skip))|(refine tb_ ?_ ?_ ?_;(·(first|exact ybf|(refine .inl ?_;(first|exact fun _ s => Hd.sub s (Le.refl _) (fun r hr => nomatch hr)|exact fun _ s => Hd.sub s hle (fun r hr => nomatch hr)))|exact to_));(·intro _;(first|exact ybf|(refine .inl ?_;(first|exact fun _ s => Hd.sub s (Le.refl _) (fun r hr => nomatch hr)|exact fun _ s => Hd.sub s hle (fun r hr => nomatch hr)))|exact to_));intro _)|(first|(refine tqs_ ?_ ?_ ?_;(·(first|exact ybf|(refine .inl ?_;(first|exact fun _ s => Hd.sub s (Le.refl _) (fun r hr => nomatch hr)|exact fun _ s => Hd.sub s hle (fun r hr => nomatch hr)))|exact to_));(·(first|exact ybf|(refine .inl ?_;(first|exact fun _ s => Hd.sub s (Le.refl _) (fun r hr => nomatch hr)|exact fun _ s => Hd.sub s hle (fun r hr => nomatch hr)))|exact to_))))|(apply ybn;(·(first|(exact qv_slice_arr rfl)|exact tq_));(·rfl);(·rfl);(·rfl);(·(first|exact ybf|(refine .inl ?_;(first|exact fun _ s => Hd.sub s (Le.refl _) (fun r hr => nomatch hr)|exact fun _ s => Hd.sub s hle (fun r hr => nomatch hr)))|exact to_))))|refine ycg ?_))
      refine nx_cut (h2, v2) ⟨hle, pv2⟩ ts_ (fun _ s => ?_)
      exact s.perm (List.Perm.swap _ _ _)
    · rw [hk] at pk
      obtain ⟨_, adk, capk, rfl, hcapk, _⟩ := id pk
      repeat' (refine ycf ?_;(first|(first|(apply ybm;(·(first|(exact qv_copy_zero rfl rfl)|exact tq_));(·rfl);(·rfl);(·(first|exact fun _ s => Hd.sub s (Le.refl _) (fun r hr => nomatch hr)|exact fun _ s => Hd.sub s hle (fun r hr => nomatch hr))))|refine ybl rfl rfl ?_|((fail_if_success (refine ybi rfl ?_));refine ybj rfl ?_ ?_<;>(intro ht;rw [ht];first|replace ht := oet_ ht|replace ht := oef_ ht|skip))|(refine tb_ ?_ ?_ ?_;(·(first|exact ybf|(refine .inl ?_;(first|exact fun _ s => Hd.sub s (Le.refl _) (fun r hr => nomatch hr)|exact fun _ s => Hd.sub s hle (fun r hr => nomatch hr)))|exact to_));(·intro _;(first|exact ybf|(refine .inl ?_;(first|exact fun _ s => Hd.sub s (Le.refl _) (fun r hr => nomatch hr)|exact fun _ s => Hd.sub s hle (fun r hr => nomatch hr)))|exact to_));intro _)|(first|(refine tqs_ ?_ ?_ ?_;(·(first|exact ybf|(refine .inl ?_;(first|exact fun _ s => Hd.sub s (Le.refl _) (fun r hr => nomatch hr)|exact fun _ s => Hd.sub s hle (fun r hr => nomatch hr)))|exact to_));(·(first|exact ybf|(refine .inl ?_;(first|exact fun _ s => Hd.sub s (Le.refl _) (fun r hr => nomatch hr)|exact fun _ s => Hd.sub s hle (fun r hr => nomatch hr)))|exact to_))))|(apply ybn;(·(first|(exact qv_copy_zero rfl rfl)|exact tq_));(·rfl);(·rfl);(·rfl);(·(first|exact ybf|(refine .inl ?_;(first|exact fun _ s => Hd.sub s (Le.refl _) (fun r hr => nomatch hr)|exact fun _ s => Hd.sub s hle (fun r hr => nomatch hr)))|exact to_))))|refine ycg ?_))
      refine nx_cut (h2, v2) ⟨hle, pv2⟩ ts_ (fun _ s => ?_)
      show St _ h2 [Res.blk be (.cells (envL (padK (fixC (l, 0) 32).1) _ _ _).toArray _ _), _, _] _
      rw [hk]
      exact s.perm (List.Perm.swap _ _ _)
  rintro ⟨h2, v2⟩ ⟨hle2, pv2⟩
  dsimp only at hle2 pv2 ⊢
  have hk32 : (padK (rdK l).1).length = 32 := padK_len (by rcases fix32 (l, 0) 32 with hk | hk; (· show (fixC (l, 0) 32).1.length ≤ 32; omega); (· show (fixC (l, 0) 32).1.length ≤ 32; rw [hk]; simp))
  have hkk : (rdK l).1.length = 32 → padK (rdK l).1 = (rdK l).1 := padK_full
  generalize padK (rdK l).1 = kk at hk32 hkk ⊢
  refine yby ?_
  repeat' (first|refine tw_ ?_|(refine ta_ ?_;intro _)|((fail_if_success (refine ybi rfl ?_));refine ybj rfl ?_ ?_<;>(intro ht;rw [ht];first|replace ht := oet_ ht|replace ht := oef_ ht|skip))|(refine ych ?_;first|(refine ybw rfl ?_ ?_<;>intro ht)|(refine ybx rfl ?_ ?_<;>intro ht)))
  rename_i bp
  refine cx_loop (X := Nat × View × Value) (fun y => [(2, .pointer (some ⟨b2, 0, none⟩)), (4, .pointer (some ⟨bi, 0, none⟩)), (5, .pointer (some ⟨be, 0, none⟩)), (25, .slice (some ⟨bp, 0, none⟩) 4 4), (26, .int .i64 (4 : Nat)), (27, .int .i64 (y.1 : Nat))]) (fun y => y.2.1)
    (fun y => [Res.blk bp (.cells (ptrs be).toArray 88 (0, 0)), Res.blk be (.cells (envL kk (padH (rdN (rdK l).2 y.1).1) (.slice none 0 0) (.slice none 0 0)).toArray 41 (0, 0)), inR bi y.2.2 (rdN (rdK l).2 y.1).2.2, Res.blk b2 (.cells zEnv 41 (0, 0))])
    (fun y => y.1 ≤ 4 ∧ Le h2 y.2.1 ∧ Bs8 y.2.1 y.2.2 (rdN (rdK l).2 y.1).2.1) (fun y => 4 - y.1) (0, h2, v2) ⟨by omega, Le.refl _, pv2⟩ ts_ (fun _ s => s) ?_
  rintro ⟨k, h3, v3⟩ ⟨hk, hle3, pv3⟩
  dsimp only at hk hle3 pv3 ⊢
  by_cases hk4 : k < 4
  · obtain ⟨r1, r2⟩ := rdN_ok o1 k
    have hps : ∀ L' : List Res, L'[0]? = some (Res.blk bp (.cells (ptrs be).toArray 88 (0, 0))) → CellAt h3 L' bp (0 + (k : Int).toNat * 1) (.pointer (some ⟨be, 32 + k, none⟩)) := fun L' hL => by
      have := (yaz (h := h3) 0 hL).cell (ptrs_at (be := be) hk4)
      have e : 0 + (k : Int).toNat * 1 = 0 + k := by omega
      rw [e]; exact this
    repeat' (first|(refine ycf ?_;apply ybk;(·first|(exact tk_)|(apply yae;(·rfl);(·(exact hps _ rfl))));(·rfl);(·rfl))|refine t1_ ?_|(refine ta_ ?_;intro _)|((fail_if_success (refine ybi rfl ?_));refine ybj rfl ?_ ?_<;>(intro ht;rw [ht];first|replace ht := oet_ ht|replace ht := oef_ ht|skip))|(refine ych ?_;first|(refine ybw rfl ?_ ?_<;>intro ht)|(refine ybx rfl ?_ ?_<;>intro ht)))
    (refine rx_call_m (ycp Tryz.func44 rfl (by kernel_rfl) rfl) (perm_at (k := 2) rfl) (InNum_sp bi v3 (rdN (rdK l).2 k).2.1 (rdN (rdK l).2 k).2.2 4611686018427387904 r1.b (by omega) r1.l h3 pv3) rfl rfl rfl ?_ ?_ ?_;(·(first|exact ybf | (refine .inl ?_;(first|exact fun _ s => Hd.sub s (Le.refl _) (fun r hr => nomatch hr) | exact fun _ s => Hd.sub s hle (fun r hr => nomatch hr))) | exact to_));(·intro _ _ hle;(first|exact ybf | (refine .inl ?_;(first|exact fun _ s => Hd.sub s (Le.refl _) (fun r hr => nomatch hr) | exact fun _ s => Hd.sub s hle (fun r hr => nomatch hr))) | exact to_));intro x px hle)
    repeat' (first|(refine ycf ?_;apply ybk;(·first|(apply qv_nilCheck;rfl));(·rfl);(·rfl))|(refine ybg 2 rfl rfl rfl rfl (by show 32 + k + 1 ≤ (envL kk _ _ _).toArray.size;rw [List.size_toArray, envL_len hk32 (padH_len (by omega))];omega) rfl (spl_envL hk32 rfl (by rw [padH_len (by omega)];exact hk4)) rfl rfl ?_ ?_ ?_;(·(first|exact ybf|(refine .inl ?_;(first|exact fun _ s => Hd.sub s (Le.refl _) (fun r hr => nomatch hr)|exact fun _ s => Hd.sub s hle (fun r hr => nomatch hr)))|exact to_));(·(first|exact ybf|(refine .inl ?_;(first|exact fun _ s => Hd.sub s (Le.refl _) (fun r hr => nomatch hr)|exact fun _ s => Hd.sub s hle (fun r hr => nomatch hr)))|exact to_)))|refine t1_ ?_|(refine ta_ ?_;intro _)|((fail_if_success (refine ybi rfl ?_));refine ybj rfl ?_ ?_<;>(intro ht;rw [ht];first|replace ht := oet_ ht|replace ht := oef_ ht|skip))|(refine ych ?_;first|(refine ybw rfl ?_ ?_<;>intro ht)|(refine ybx rfl ?_ ?_<;>intro ht)))
    repeat' (first|(refine ycf ?_;apply ybk;(·first|(exact tk_));(·rfl);(·rfl))|refine t1_ ?_|(refine ta_ ?_;intro _)|((fail_if_success (refine ybi rfl ?_));refine ybj rfl ?_ ?_<;>(intro ht;rw [ht];first|replace ht := oet_ ht|replace ht := oef_ ht|skip))|(refine ych ?_;first|(refine ybw rfl ?_ ?_<;>intro ht)|(refine ybx rfl ?_ ?_<;>intro ht)))
    refine nx_round (k + 1, h3, x) ⟨by show k + 1 ≤ 4; omega, hle3, px⟩ (by show 4 - (k + 1) < 4 - k; omega) ts_ (fun _ s => ?_)
    have s2 := s.picks [1, 1, 0, 0]
    have e : padH (rdN (rdK l).2 (k + 1)).1 = (padH (rdN (rdK l).2 k).1).set k (numC (rdN (rdK l).2 k).2 8 4611686018427387904).1 := (padH_set r2 hk4).symm
    dsimp only
    rw [e]
    exact s2
  · have ek : k = 4 := by omega
    subst ek
    obtain ⟨r1, r2⟩ := rdN_ok o1 4
    rw [padH_full r2]
    change (rdH l).1.length = 4 at r2
    change Bs8 h3 v3 (rdH l).2.1 at pv3
    show CX _ _ _ _ _ _ [_, Res.blk be (.cells (envL kk (rdH l).1 _ _).toArray _ _), inR bi v3 (rdH l).2.2, _] _
    repeat' (first|(refine ycf ?_;apply ybk;(·first|(exact tk_));(·rfl);(·rfl))|refine t1_ ?_|(refine ta_ ?_;intro _)|((fail_if_success (refine ybi rfl ?_));refine ybj rfl ?_ ?_<;>(intro ht;rw [ht];first|replace ht := oet_ ht|replace ht := oef_ ht|skip))|(refine ych ?_;first|(refine ybw rfl ?_ ?_<;>intro ht)|(refine ybx rfl ?_ ?_<;>intro ht)))
    (refine rx_call_m (ycp Tryz.func45 rfl (by kernel_rfl) rfl) (perm_at (k := 2) rfl) (InBytes_sp bi v3 (rdH l).2.1 (rdH l).2.2 4096 o2.b (by omega) o2.l h3 pv3) rfl rfl rfl ?_ ?_ ?_;(·(first|exact ybf | (refine .inl ?_;(first|exact fun _ s => Hd.sub s (Le.refl _) (fun r hr => nomatch hr) | exact fun _ s => Hd.sub s hle (fun r hr => nomatch hr))) | exact to_));(·intro _ _ hle;(first|exact ybf | (refine .inl ?_;(first|exact fun _ s => Hd.sub s (Le.refl _) (fun r hr => nomatch hr) | exact fun _ s => Hd.sub s hle (fun r hr => nomatch hr))) | exact to_));intro x px hle)
    obtain ⟨h4, pv, v4⟩ := x
    obtain ⟨pp, pv4⟩ := px
    have hle4 : Le h3 h4 := hle
    clear hle
    dsimp only at pp pv4 ⊢
    obtain ⟨_, adp, capp, rfl, hcapp, _⟩ := id pp
    repeat' (first|(refine ybg 2 rfl rfl rfl rfl (by show 0 + 32 + 4 + 1 ≤ (envL kk _ _ _).toArray.size;rw [List.size_toArray, envL_len hk32 r2];omega) rfl (spl_pv hk32 r2) rfl rfl ?_ ?_ ?_;(·(first|exact ybf|(refine .inl ?_;(first|exact fun _ s => Hd.sub s (Le.refl _) (fun r hr => nomatch hr)|exact fun _ s => Hd.sub s hle (fun r hr => nomatch hr)))|exact to_));(·(first|exact ybf|(refine .inl ?_;(first|exact fun _ s => Hd.sub s (Le.refl _) (fun r hr => nomatch hr)|exact fun _ s => Hd.sub s hle (fun r hr => nomatch hr)))|exact to_)))|refine t1_ ?_|(refine ta_ ?_;intro _)|((fail_if_success (refine ybi rfl ?_));refine ybj rfl ?_ ?_<;>(intro ht;rw [ht];first|replace ht := oet_ ht|replace ht := oef_ ht|skip))|(refine ych ?_;first|(refine ybw rfl ?_ ?_<;>intro ht)|(refine ybx rfl ?_ ?_<;>intro ht)))
    (refine rx_call_m (ycp Tryz.func45 rfl (by kernel_rfl) rfl) (perm_at (k := 0) rfl) (InBytes_sp bi v4 (rdP l).2.1 (rdP l).2.2 8192 o3.b (by omega) o3.l h4 pv4) rfl rfl rfl ?_ ?_ ?_;(·(first|exact ybf | (refine .inl ?_;(first|exact fun _ s => Hd.sub s (Le.refl _) (fun r hr => nomatch hr) | exact fun _ s => Hd.sub s hle (fun r hr => nomatch hr))) | exact to_));(·intro _ _ hle;(first|exact ybf | (refine .inl ?_;(first|exact fun _ s => Hd.sub s (Le.refl _) (fun r hr => nomatch hr) | exact fun _ s => Hd.sub s hle (fun r hr => nomatch hr))) | exact to_));intro x px hle)
    obtain ⟨h5, sv, v5⟩ := x
    obtain ⟨ps, pv5⟩ := px
    have hle5 : Le h4 h5 := hle
    clear hle
    dsimp only at ps pv5 ⊢
    obtain ⟨_, ads, caps, rfl, hcaps, _⟩ := id ps
    repeat' (first|(refine ybg 2 rfl rfl rfl rfl (by show 0 + 37 + 1 ≤ (envL kk _ _ _).toArray.size;rw [List.size_toArray, envL_len hk32 r2];omega) rfl (spl_sv hk32 r2) rfl rfl ?_ ?_ ?_;(·(first|exact ybf|(refine .inl ?_;(first|exact fun _ s => Hd.sub s (Le.refl _) (fun r hr => nomatch hr)|exact fun _ s => Hd.sub s hle (fun r hr => nomatch hr)))|exact to_));(·(first|exact ybf|(refine .inl ?_;(first|exact fun _ s => Hd.sub s (Le.refl _) (fun r hr => nomatch hr)|exact fun _ s => Hd.sub s hle (fun r hr => nomatch hr)))|exact to_)))|refine t1_ ?_|(refine ta_ ?_;intro _)|((fail_if_success (refine ybi rfl ?_));refine ybj rfl ?_ ?_<;>(intro ht;rw [ht];first|replace ht := oet_ ht|replace ht := oef_ ht|skip))|(refine ych ?_;first|(refine ybw rfl ?_ ?_<;>intro ht)|(refine ybx rfl ?_ ?_<;>intro ht)))
    (refine rx_call_m (ycp Tryz.func46 rfl (by kernel_rfl) rfl) (perm_at (k := 0) rfl) (End_sp bi v5 (rdZ l).2.1 (rdZ l).2.2 h5 pv5) rfl rfl rfl ?_ ?_ ?_;(·(first|exact ybf | (refine .inl ?_;(first|exact fun _ s => Hd.sub s (Le.refl _) (fun r hr => nomatch hr) | exact fun _ s => Hd.sub s hle (fun r hr => nomatch hr))) | exact to_));(·intro _ _ hle;(first|exact ybf | (refine .inl ?_;(first|exact fun _ s => Hd.sub s (Le.refl _) (fun r hr => nomatch hr) | exact fun _ s => Hd.sub s hle (fun r hr => nomatch hr))) | exact to_));intro x px hle)
    change Bs8 h4 (.slice adp (rdP l).1.length capp) (rdP l).1 at pp
    change Bs8 h5 (.slice ads (rdZ l).1.length caps) (rdZ l).1 at ps
    have pp5 := pp.mono hle5
    have hq : (rdQ l).past = (rdP l).1 := rfl
    have R1 := eright_sp kk (rdQ l) (.slice adp (rdP l).1.length capp) (.slice ads (rdZ l).1.length caps) (rdZ l).1 hk32 h5 pp5 ps
    have hee : envL kk (rdH l).1 (.slice adp (rdP l).1.length capp) (.slice ads (rdZ l).1.length caps) = envc kk (rdQ l) (.slice adp (rdP l).1.length capp) (.slice ads (rdZ l).1.length caps) := envL_env r2
    refine rx_perm (L' := [inR bi v5 (rdZ l).2.2, Res.blk bp (.cells (ptrs be).toArray 88 (0, 0)), Res.blk be (.cells (envL kk (rdH l).1 (.slice adp (rdP l).1.length capp) (.slice ads (rdZ l).1.length caps)).toArray 41 (0, 0)), Res.blk b2 (.cells zEnv 41 (0, 0))]) (.refl _) ?_
    rw [hee]
    have hen : endC ((rdZ l).2.1, (rdZ l).2.2) = endC (rdZ l).2 := rfl
    rw [hen]
    by_cases hE : endC (rdZ l).2 = 0
    · rw [hE]
      repeat' (first|(refine ycf ?_;apply ybk;(·first|(first|exact tk_|(apply yad;(·rfl);(·exact yaz 2 rfl);(·exact envc_len hk32))));(·rfl);(·rfl))|refine t1_ ?_|(refine ta_ ?_;intro _)|((fail_if_success (refine ybi rfl ?_));refine ybj rfl ?_ ?_<;>(intro ht;rw [ht];first|replace ht := oet_ ht|replace ht := oef_ ht|skip))|(refine ych ?_;first|(refine ybw rfl ?_ ?_<;>intro ht)|(refine ybx rfl ?_ ?_<;>intro ht)))
      (refine ycn (ycp Tryz.func36 rfl (by kernel_rfl) rfl) (R1) rfl rfl rfl ?_ ?_;(·(first|exact ybf | (refine .inl ?_;(first|exact fun _ s => Hd.sub s (Le.refl _) (fun r hr => nomatch hr) | exact fun _ s => Hd.sub s hle (fun r hr => nomatch hr))) | exact to_)))
      by_cases hR : (rdQ l).ok ∧ 16 ≤ (rdZ l).1.length ∧ (rdZ l).1.length ≤ 8192
      · have hok : rdOk l := ⟨hE, hR⟩
        have hK := hkk (rdOk_key hb (by omega) hok)
        rw [decide_eq_true hR, if_pos hok, ← hK]
        repeat' (first|(refine ycf ?_;apply ybk;(·first|(first|exact tk_|(apply yad;(·rfl);(·exact yaz 2 rfl);(·exact envc_len hk32))));(·rfl);(·rfl))|(refine ybg 3 rfl rfl rfl (by show (envc kk (rdQ l) _ _).toArray.size = 38;simpa using envc_len hk32) (by show 0 + (envc kk (rdQ l) _ _).toArray.size ≤ _;rw [List.size_toArray, envc_len hk32];exact nble rfl) (List.all_eq_true.2 (envc_one rfl rfl)) (ybh (by show (envc kk (rdQ l) _ _).length = _;rw [envc_len hk32];rfl)) rfl rfl ?_ ?_ ?_;(·(first|exact ybf|(refine .inl ?_;(first|exact fun _ s => Hd.sub s (Le.refl _) (fun r hr => nomatch hr)|exact fun _ s => Hd.sub s hle (fun r hr => nomatch hr)))|exact to_));(·(first|exact ybf|(refine .inl ?_;(first|exact fun _ s => Hd.sub s (Le.refl _) (fun r hr => nomatch hr)|exact fun _ s => Hd.sub s hle (fun r hr => nomatch hr)))|exact to_)))|refine t1_ ?_|(refine ta_ ?_;intro _)|((fail_if_success (refine ybi rfl ?_));refine ybj rfl ?_ ?_<;>(intro ht;rw [ht];first|replace ht := oet_ ht|replace ht := oef_ ht|skip))|(refine ych ?_;first|(refine ybw rfl ?_ ?_<;>intro ht)|(refine ybx rfl ?_ ?_<;>intro ht)))
        refine nx_ret2 rfl (rv_cells rfl (yaz 3 rfl) (envc_len hk32)) (rv_tmp rfl) (fun w' s' => ⟨(h5, .slice adp (rdP l).1.length capp, .slice ads (rdZ l).1.length caps), ?_, s'.nil, fun _ => ⟨pp5, ps⟩⟩)
        rw [if_pos hok]
        rfl
      · have hok : ¬ rdOk l := fun q => hR q.2
        rw [decide_eq_false hR, if_neg hok]
        repeat' (first|(refine ycf ?_;apply ybk;(·first|(first|exact tk_|(apply yad;(·rfl);(·exact yaz 2 rfl);(·exact envc_len hk32))));(·rfl);(·rfl))|(refine ybg 3 rfl rfl rfl rfl (nble rfl) rfl (ybh (z := zEnv.toList) rfl) rfl rfl ?_ ?_ ?_;(·(first|exact ybf|(refine .inl ?_;(first|exact fun _ s => Hd.sub s (Le.refl _) (fun r hr => nomatch hr)|exact fun _ s => Hd.sub s hle (fun r hr => nomatch hr)))|exact to_));(·(first|exact ybf|(refine .inl ?_;(first|exact fun _ s => Hd.sub s (Le.refl _) (fun r hr => nomatch hr)|exact fun _ s => Hd.sub s hle (fun r hr => nomatch hr)))|exact to_)))|refine t1_ ?_|(refine ta_ ?_;intro _)|((fail_if_success (refine ybi rfl ?_));refine ybj rfl ?_ ?_<;>(intro ht;rw [ht];first|replace ht := oet_ ht|replace ht := oef_ ht|skip))|(refine ych ?_;first|(refine ybw rfl ?_ ?_<;>intro ht)|(refine ybx rfl ?_ ?_<;>intro ht)))
        exact nx_ret2 rfl (rv_cells rfl (yaz 3 rfl) rfl) (rv_tmp rfl) (fun w' s' => ⟨(h5, .slice none 0 0, .slice none 0 0), by rw [if_neg hok]; rfl, s'.nil, fun q => absurd q hok⟩)
    · have hok : ¬ rdOk l := fun q => hE q.1
      rw [if_neg hok]
      repeat' (first|(refine ycf ?_;apply ybk;(·first|(exact tk_));(·rfl);(·rfl))|(refine ybg 3 rfl rfl rfl rfl (nble rfl) rfl (ybh (z := zEnv.toList) rfl) rfl rfl ?_ ?_ ?_;(·(first|exact ybf|(refine .inl ?_;(first|exact fun _ s => Hd.sub s (Le.refl _) (fun r hr => nomatch hr)|exact fun _ s => Hd.sub s hle (fun r hr => nomatch hr)))|exact to_));(·(first|exact ybf|(refine .inl ?_;(first|exact fun _ s => Hd.sub s (Le.refl _) (fun r hr => nomatch hr)|exact fun _ s => Hd.sub s hle (fun r hr => nomatch hr)))|exact to_)))|refine t1_ ?_|(refine ta_ ?_;intro _)|((fail_if_success (refine ybi rfl ?_));refine ybj rfl ?_ ?_<;>(intro ht;rw [ht];first|replace ht := oet_ ht|replace ht := oef_ ht|skip))|(refine ych ?_;first|(refine ybw rfl ?_ ?_<;>intro ht)|(refine ybx rfl ?_ ?_<;>intro ht)))
      exact nx_ret2 rfl (rv_cells rfl (yaz 3 rfl) rfl) (rv_tmp rfl) (fun w' s' => ⟨(h5, .slice none 0 0, .slice none 0 0), by rw [if_neg hok]; rfl, s'.nil, fun q => absurd q hok⟩)
end Go.Proofs.YtgeepceieckooaaGreatDoor
end
