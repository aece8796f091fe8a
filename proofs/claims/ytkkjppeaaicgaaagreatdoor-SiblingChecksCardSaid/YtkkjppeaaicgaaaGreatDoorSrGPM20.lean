/-
  Part 20 of a proof: ShF.
  Conditions: each theorem states its own.
-/
import Derived.Test.YtkkjppeaaicgaaaGreatDoorSrGPM19
section
namespace Go.Proofs.YtkkjppeaaicgaaaGreatDoor
open Go Go.Ck
set_option maxRecDepth 100000
set_option maxHeartbeats 40000000
set_option linter.unusedVariables false
theorem bstr_bcs {l : List Int} (hb : Bytes l) : ((bstr l).data.map fun b => Value.int .u8 b.toNat).toList = bcs l := by
  unfold bstr bcs
  simp only [Array.toList_map, List.map_map]
  refine List.map_congr_left fun x hx => ?_
  have := hb x hx
  show Value.int .u8 ((UInt8.ofNat x.toNat).toNat : Int) = _
  congr 1
  simp
  omega
abbrev srB (v : Value) (l : List Int) : Res := Res.srow 5 v l.length (bcs l)
theorem constants_sp (h : View) (w : World) (s : St ⟨w, h, []⟩ h [] w) :
    Calls Tryz.prog 77 [].toArray w fun e w' => e = .returned (.tuple #[.agg (up32 shK).toArray, .agg (up32 shH).toArray]) ∧ St ⟨w, h, []⟩ h [] w' := by
  refine calls_enter Tryz.func77 rfl Tryz.ntmps77 rfl s ?_
  repeat' (first|refine tw_ ?_|(refine ta_ ?_;intro _)|((fail_if_success (refine ybi rfl ?_));refine ybj rfl ?_ ?_<;>(intro ht;rw [ht];first|replace ht := oet_ ht|replace ht := oef_ ht|skip))|(refine ych ?_;first|(refine ybw rfl ?_ ?_<;>intro ht)|(refine ybx rfl ?_ ?_<;>intro ht)))
  rename_i b0 b1
  refine ycf ?_
  apply ybk
  · apply qv_build_arr (cs := up32 shK)
    · rfl
    · kernel_rfl
  · rfl
  · rfl
  have hK : shK.length = 64 := rfl
  have hH : shH.length = 8 := rfl
  generalize shK = K at hK ⊢
  repeat' (first|(refine ycf ?_;apply ybk;(·first|(first|(apply qv_build_arr (cs := up32 shH);(·rfl);(·kernel_rfl))|(apply yad;(·rfl);(·exact yaz 0 rfl);(·exact w_sz hK))|(apply yad;(·rfl);(·exact yaz 1 rfl);(·exact w_sz hK))|(apply yad;(·rfl);(·exact yaz 0 rfl);(·exact w_sz hH))));(·rfl);(·rfl))|(first|(refine ybg 0 rfl rfl rfl (w_sz hK) (w_fit hK (by rfl)) (w_one K) (ybh (w_all hK (by rfl))) rfl rfl ?_ ?_ ?_;(·(exact to_));(·(exact to_)))|(refine ybg 2 rfl rfl rfl (w_sz hK) (w_fit hK (by rfl)) (w_one K) (ybh (w_all hK (by rfl))) rfl rfl ?_ ?_ ?_;(·(exact to_));(·(exact to_)))|(refine ybg 3 rfl rfl rfl (w_sz hK) (w_fit hK (by rfl)) (w_one K) (ybh (w_all hK (by rfl))) rfl rfl ?_ ?_ ?_;(·(exact to_));(·(exact to_))))|refine t1_ ?_|(refine ta_ ?_;intro _)|((fail_if_success (refine ybi rfl ?_));refine ybj rfl ?_ ?_<;>(intro ht;rw [ht];first|replace ht := oet_ ht|replace ht := oef_ ht|skip))|(refine ych ?_;first|(refine ybw rfl ?_ ?_<;>intro ht)|(refine ybx rfl ?_ ?_<;>intro ht)))
  rename_i bK bH
  refine cx_region_draw [Res.blk bH (.cells (up32 shH).toArray 102 (0, 0)), Res.blk bK (.cells (up32 K).toArray 116 (0, 0))] rfl (by kernel_rfl) ?_
  repeat' (refine ycf ?_;(first|(first|(apply ybm;(·(first|(first|(apply yad;(·rfl);(·exact yaz 1 rfl);(·exact w_sz hK))|(apply yad;(·rfl);(·exact yaz 0 rfl);(·exact w_sz hH)))|exact tq_));(·rfl);(·rfl);(·(exact fun _ s => Hd.sub s (Le.refl h) (fun r hr => List.mem_append_left [_, _] hr))))|refine ybl rfl rfl ?_|((fail_if_success (refine ybi rfl ?_));refine ybj rfl ?_ ?_<;>(intro ht;rw [ht];first|replace ht := oet_ ht|replace ht := oef_ ht|skip))|(refine tb_ ?_ ?_ ?_;(·(first|exact ybf|(refine .inl ?_;(exact fun _ s => Hd.sub s (Le.refl h) (fun r hr => List.mem_append_left [_, _] hr)))|exact to_));(·intro _;(first|exact ybf|(refine .inl ?_;(exact fun _ s => Hd.sub s (Le.refl h) (fun r hr => List.mem_append_left [_, _] hr)))|exact to_));intro _)|(first|(first|(refine ybg 3 rfl rfl rfl (w_sz hK) (w_fit hK (by rfl)) (w_one K) (ybh (w_all hK (by rfl))) rfl rfl ?_ ?_ ?_;(·(first|exact ybf|(refine .inl ?_;(exact fun _ s => Hd.sub s (Le.refl h) (fun r hr => List.mem_append_left [_, _] hr)))|exact to_));(·(first|exact ybf|(refine .inl ?_;(exact fun _ s => Hd.sub s (Le.refl h) (fun r hr => List.mem_append_left [_, _] hr)))|exact to_)))|(refine ybg 2 rfl rfl rfl (w_sz hH) (w_fit hH (by rfl)) (w_one shH) (ybh (w_all hH (by rfl))) rfl rfl ?_ ?_ ?_;(·(first|exact ybf|(refine .inl ?_;(exact fun _ s => Hd.sub s (Le.refl h) (fun r hr => List.mem_append_left [_, _] hr)))|exact to_));(·(first|exact ybf|(refine .inl ?_;(exact fun _ s => Hd.sub s (Le.refl h) (fun r hr => List.mem_append_left [_, _] hr)))|exact to_))))|(refine tqs_ ?_ ?_ ?_;(·(first|exact ybf|(refine .inl ?_;(exact fun _ s => Hd.sub s (Le.refl h) (fun r hr => List.mem_append_left [_, _] hr)))|exact to_));(·(first|exact ybf|(refine .inl ?_;(exact fun _ s => Hd.sub s (Le.refl h) (fun r hr => List.mem_append_left [_, _] hr)))|exact to_))))|(apply ybn;(·(first|(first|(apply yad;(·rfl);(·exact yaz 1 rfl);(·exact w_sz hK))|(apply yad;(·rfl);(·exact yaz 0 rfl);(·exact w_sz hH)))|exact tq_));(·rfl);(·rfl);(·rfl);(·(first|exact ybf|(refine .inl ?_;(exact fun _ s => Hd.sub s (Le.refl h) (fun r hr => List.mem_append_left [_, _] hr)))|exact to_))))|refine ycg ?_))
  repeat' (first|(refine ycf ?_;apply ybk;(·first|(first|(apply yad;(·rfl);(·exact yaz 1 rfl);(·exact w_sz hK))|(apply yad;(·rfl);(·exact yaz 0 rfl);(·exact w_sz hH))));(·rfl);(·rfl))|(first|(refine ybg 3 rfl rfl rfl (w_sz hK) (w_fit hK (by rfl)) (w_one K) (ybh (w_all hK (by rfl))) rfl rfl ?_ ?_ ?_;(·(exact to_));(·(exact to_)))|(refine ybg 2 rfl rfl rfl (w_sz hH) (w_fit hH (by rfl)) (w_one shH) (ybh (w_all hH (by rfl))) rfl rfl ?_ ?_ ?_;(·(exact to_));(·(exact to_))))|refine t1_ ?_|(refine ta_ ?_;intro _)|((fail_if_success (refine ybi rfl ?_));refine ybj rfl ?_ ?_<;>(intro ht;rw [ht];first|replace ht := oet_ ht|replace ht := oef_ ht|skip))|(refine ych ?_;first|(refine ybw rfl ?_ ?_<;>intro ht)|(refine ybx rfl ?_ ?_<;>intro ht)))
  exact nx_ret2 rfl (rv_cells rfl (yaz 3 rfl) (w_sz hK)) (rv_cells rfl (yaz 2 rfl) (w_sz hH)) (fun w' s' => ⟨rfl, s'.nil⟩)
theorem rSum_sp (b : List Int) (hb : Bytes b) (hl : b.length ≤ 900000) (h : View) (w : World) (s : St ⟨w, h, []⟩ h [] w) :
    Calls Tryz.prog 50 [.string (bstr b)].toArray w fun e w' => e = .returned (.string (bstr (shaF b))) ∧ St ⟨w, h, []⟩ h [] w' := by
  refine calls_enter Tryz.func50 rfl Tryz.ntmps50 rfl s ?_
  repeat' (first|(refine ycf ?_;apply ybk;(·first|(first|(apply yad;(·rfl);(·exact yaz 1 rfl);(·exact w_sz hK))|(apply yad;(·rfl);(·exact yaz 0 rfl);(·exact w_sz hH))));(·rfl);(·rfl))|(first|(refine ybg 3 rfl rfl rfl (w_sz hK) (w_fit hK (by rfl)) (w_one K) (ybh (w_all hK (by rfl))) rfl rfl ?_ ?_ ?_;(·(exact to_));(·(exact to_)))|(refine ybg 2 rfl rfl rfl (w_sz hH) (w_fit hH (by rfl)) (w_one shH) (ybh (w_all hH (by rfl))) rfl rfl ?_ ?_ ?_;(·(exact to_));(·(exact to_))))|refine t1_ ?_|(refine ta_ ?_;intro _)|((fail_if_success (refine ybi rfl ?_));refine ybj rfl ?_ ?_<;>(intro ht;rw [ht];first|replace ht := oet_ ht|replace ht := oef_ ht|skip))|(refine ych ?_;first|(refine ybw rfl ?_ ?_<;>intro ht)|(refine ybx rfl ?_ ?_<;>intro ht)))
  (refine ycn (ycp Tryz.func77 rfl (by kernel_rfl) rfl) (constants_sp h) rfl rfl rfl ?_ ?_; (· (exact to_)))
  have hK : shK.length = 64 := rfl
  have hH : shH.length = 8 := rfl
  obtain ⟨K, eK⟩ : ∃ K, K = shK := ⟨_, rfl⟩
  rw [← eK] at hK ⊢
  repeat' (first|(refine ycf ?_;apply ybk;(·first|(first|(apply yad;(·rfl);(·exact yaz 1 rfl);(·exact w_sz hK))|(apply yad;(·rfl);(·exact yaz 0 rfl);(·exact w_sz hH))));(·rfl);(·rfl))|(first|(refine ybg 1 rfl rfl rfl (w_sz hK) (w_fit hK (by rfl)) (w_one K) (ybh (w_all hK (by rfl))) rfl rfl ?_ ?_ ?_;(·(exact to_));(·(exact to_)))|(refine ybg 0 rfl rfl rfl (w_sz hK) (w_fit hK (by rfl)) (w_one K) (ybh (w_all hK (by rfl))) rfl rfl ?_ ?_ ?_;(·(exact to_));(·(exact to_))))|refine t1_ ?_|(refine ta_ ?_;intro _)|((fail_if_success (refine ybi rfl ?_));refine ybj rfl ?_ ?_<;>(intro ht;rw [ht];first|replace ht := oet_ ht|replace ht := oef_ ht|skip))|(refine ych ?_;first|(refine ybw rfl ?_ ?_<;>intro ht)|(refine ybx rfl ?_ ?_<;>intro ht)))
  rename_i bK bH
  refine rx_bytes_s rfl (bstr_bcs hb) (by rw [bstr_size]; unfold maxLen; omega) rfl rfl rfl ybf (fun _ => ybf) ?_
  intro v0
  rw [bcs_len]
  repeat' (first|(refine ycf ?_;apply ybk;(·first|(first|(apply yad;(·rfl);(·exact yaz 1 rfl);(·exact w_sz hK))|(apply yad;(·rfl);(·exact yaz 0 rfl);(·exact w_sz hH))));(·rfl);(·rfl))|(first|(refine ybg 1 rfl rfl rfl (w_sz hK) (w_fit hK (by rfl)) (w_one K) (ybh (w_all hK (by rfl))) rfl rfl ?_ ?_ ?_;(·(exact to_));(·(exact to_)))|(refine ybg 0 rfl rfl rfl (w_sz hK) (w_fit hK (by rfl)) (w_one K) (ybh (w_all hK (by rfl))) rfl rfl ?_ ?_ ?_;(·(exact to_));(·(exact to_))))|refine t1_ ?_|(refine ta_ ?_;intro _)|((fail_if_success (refine ybi rfl ?_));refine ybj rfl ?_ ?_<;>(intro ht;rw [ht];first|replace ht := oet_ ht|replace ht := oef_ ht|skip))|(refine ych ?_;first|(refine ybw rfl ?_ ?_<;>intro ht)|(refine ybx rfl ?_ ?_<;>intro ht)))
  refine rx_append_b 1 rfl rfl rfl (src_cells (yaz 0 rfl) rfl) (.inl rfl) (bcs_one [128]) rfl (by unfold maxLen; omega) (by omega) rfl rfl rfl ybf (fun _ => ybf) ?_
  intro v1
  repeat' (first|(refine ycf ?_;apply ybk;(·first|(first|(apply yad;(·rfl);(·exact yaz 1 rfl);(·exact w_sz hK))|(apply yad;(·rfl);(·exact yaz 0 rfl);(·exact w_sz hH))));(·rfl);(·rfl))|(first|(refine ybg 1 rfl rfl rfl (w_sz hK) (w_fit hK (by rfl)) (w_one K) (ybh (w_all hK (by rfl))) rfl rfl ?_ ?_ ?_;(·(exact to_));(·(exact to_)))|(refine ybg 0 rfl rfl rfl (w_sz hK) (w_fit hK (by rfl)) (w_one K) (ybh (w_all hK (by rfl))) rfl rfl ?_ ?_ ?_;(·(exact to_));(·(exact to_))))|refine t1_ ?_|(refine ta_ ?_;intro _)|((fail_if_success (refine ybi rfl ?_));refine ybj rfl ?_ ?_<;>(intro ht;rw [ht];first|replace ht := oet_ ht|replace ht := oef_ ht|skip))|(refine ych ?_;first|(refine ybw rfl ?_ ?_<;>intro ht)|(refine ybx rfl ?_ ?_<;>intro ht)))
  refine cx_loop (X := Nat × Value) (fun y => [(0, .string (bstr b)), (3, .pointer (some ⟨bK, 0, none⟩)), (4, .pointer (some ⟨bH, 0, none⟩)), (5, y.2)]) (fun _ => h) (fun y => [srB y.2 (b ++ [128] ++ List.replicate y.1 0), Res.blk bH (.cells (up32 shH).toArray 102 (0, 0)), Res.blk bK (.cells (up32 K).toArray 116 (0, 0))])
    (fun y => y.1 ≤ padZ b.length) (fun y => padZ b.length - y.1) (0, v1) (Nat.zero_le _) ts_ (fun _ s => ?_) ?_
  · dsimp only
    rw [List.replicate_zero, List.append_nil]
    unfold srB
    rw [List.length_append, bcs_app]
    exact s.tl
  rintro ⟨k, v⟩ hk
  replace hk : k ≤ padZ b.length := hk
  dsimp only
  have hpz : padZ b.length < 64 := by unfold padZ; omega
  have hpm : (b.length + 1 + padZ b.length) % 64 = 56 := by unfold padZ; omega
  have hln : (b ++ [128] ++ List.replicate k (0 : Int)).length = b.length + 1 + k := by simp; omega
  by_cases hkz : k < padZ b.length
  · have hrem : (((b ++ [128] ++ List.replicate k (0 : Int)).length : Nat) : Int).tmod 64 = (((b.length + 1 + k) % 64 : Nat) : Int) := by rw [hln]; rfl
    have hne : (b.length + 1 + k) % 64 ≠ 56 := by unfold padZ at hkz; omega
    refine cx_srowsl 0 rfl ?_
    rintro ad1 cap1 rfl
    repeat' (first|(refine ycf ?_;apply ybk;(·first|(first|(refine qv_remr rfl rfl (by decide) hrem)|exact tk_));(·rfl);(·rfl))|(first|(refine ybg 1 rfl rfl rfl (w_sz hK) (w_fit hK (by rfl)) (w_one K) (ybh (w_all hK (by rfl))) rfl rfl ?_ ?_ ?_;(·(exact to_));(·(exact to_)))|(refine ybg 0 rfl rfl rfl (w_sz hK) (w_fit hK (by rfl)) (w_one K) (ybh (w_all hK (by rfl))) rfl rfl ?_ ?_ ?_;(·(exact to_));(·(exact to_))))|refine t1_ ?_|(refine ta_ ?_;intro _)|((fail_if_success (refine ybi rfl ?_));refine ybj rfl ?_ ?_<;>(intro ht;rw [ht];first|replace ht := oet_ ht|replace ht := oef_ ht|skip))|(refine ych ?_;first|(refine ybw rfl ?_ ?_<;>intro ht)|(refine ybx rfl ?_ ?_<;>intro ht)))
    refine rx_append_b 1 rfl rfl rfl (src_cells (yaz 0 rfl) rfl) (.inl rfl) (bcs_one [0]) rfl (by unfold maxLen; omega) (by omega) rfl rfl rfl ybf (fun _ => ybf) ?_
    intro v2
    repeat' (first|(first|(refine ybg 1 rfl rfl rfl (w_sz hK) (w_fit hK (by rfl)) (w_one K) (ybh (w_all hK (by rfl))) rfl rfl ?_ ?_ ?_;(·(exact to_));(·(exact to_)))|(refine ybg 0 rfl rfl rfl (w_sz hK) (w_fit hK (by rfl)) (w_one K) (ybh (w_all hK (by rfl))) rfl rfl ?_ ?_ ?_;(·(exact to_));(·(exact to_))))|refine t1_ ?_|(refine ta_ ?_;intro _)|((fail_if_success (refine ybi rfl ?_));refine ybj rfl ?_ ?_<;>(intro ht;rw [ht];first|replace ht := oet_ ht|replace ht := oef_ ht|skip))|(refine ych ?_;first|(refine ybw rfl ?_ ?_<;>intro ht)|(refine ybx rfl ?_ ?_<;>intro ht)))
    refine nx_round (k + 1, v2) (by show k + 1 ≤ _; omega) (by show padZ b.length - (k + 1) < padZ b.length - k; omega) ts_ (fun _ s => ?_)
    dsimp only
    rw [List.replicate_succ', ← List.append_assoc]
    unfold srB
    rw [List.length_append, bcs_app]
    exact s.tl
  · have ek : k = padZ b.length := by omega
    subst ek
    have hrem : (((b ++ [128] ++ List.replicate (padZ b.length) (0 : Int)).length : Nat) : Int).tmod 64 = 56 := by
      rw [hln, show (((b.length + 1 + padZ b.length : Nat) : Int)).tmod 64 = (((b.length + 1 + padZ b.length) % 64 : Nat) : Int) from rfl, hpm]
      rfl
    have hw1 : IntKind.u64.wrap (b.length : Int) = (b.length : Int) := wrap_u64 (by omega) (by omega)
    have hw2 : IntKind.u64.wrap ((b.length : Int) * 8) = 8 * (b.length : Int) := by
      rw [Int.mul_comm]
      exact wrap_u64 (by omega) (by omega)
    have hp8 := num8_len (8 * (b.length : Int))
    refine cx_srowsl 0 rfl ?_
    rintro ad1 cap1 rfl
    repeat' (first|(refine ycf ?_;apply ybk;(·first|(first|(refine qv_remr rfl rfl (by decide) hrem)|(refine qv_len_bstr rfl)|(refine qv_convert_int' rfl hw1)|(refine qv_mul' rfl rfl hw2)|exact tk_));(·rfl);(·rfl))|(first|(refine ybg 1 rfl rfl rfl (w_sz hK) (w_fit hK (by rfl)) (w_one K) (ybh (w_all hK (by rfl))) rfl rfl ?_ ?_ ?_;(·(exact to_));(·(exact to_)))|(refine ybg 0 rfl rfl rfl (w_sz hK) (w_fit hK (by rfl)) (w_one K) (ybh (w_all hK (by rfl))) rfl rfl ?_ ?_ ?_;(·(exact to_));(·(exact to_))))|refine t1_ ?_|(refine ta_ ?_;intro _)|((fail_if_success (refine ybi rfl ?_));refine ybj rfl ?_ ?_<;>(intro ht;rw [ht];first|replace ht := oet_ ht|replace ht := oef_ ht|skip))|(refine ych ?_;first|(refine ybw rfl ?_ ?_<;>intro ht)|(refine ybx rfl ?_ ?_<;>intro ht)))
    (refine ycn (ycp Tryz.func76 rfl (by kernel_rfl) rfl) (Put_sp (8 * (b.length : Int)) 8 ⟨by omega, by omega⟩ (by omega) h) rfl rfl rfl ?_ ?_; (· (exact to_)))
    refine rx_append_b (news := bcs (num8 (8 * (b.length : Int)))) 0 rfl rfl rfl (src_str (m := 8) (by rw [bstr_size]; exact hp8) (bstr_bcs (putLow_bytes' 8 _))) (.inr rfl) (bcs_one _) rfl (by unfold maxLen; omega) (by omega) rfl rfl rfl ybf (fun _ => ybf) ?_
    intro v3
    refine rx_persist_s rfl fun h1 hle1 hsp => ?_
    have hpl2 := padF_len b
    have hP : Bs8 h1 v3 (padF b) := by
      unfold Bs8
      have e : (padF b).length = (b ++ [128] ++ List.replicate (padZ b.length) (0 : Int)).length + 8 := by rw [hpl2.2, hln]
      rw [e, show bcs (padF b) = bcs (b ++ [128] ++ List.replicate (padZ b.length) (0 : Int)) ++ bcs (num8 (8 * (b.length : Int))) by unfold padF; rw [bcs_app]]
      exact hsp
    have hpb : Bytes (padF b) := padF_bytes hb
    have e0 : blocksF (padF b) 0 = shH := rfl
    generalize hpF : padF b = p at hP hpl2 hpb e0 ⊢
    obtain ⟨_, adp, capp, rfl, hcapp, _⟩ := id hP
    repeat' (first|(first|(refine ybg 1 rfl rfl rfl (w_sz hK) (w_fit hK (by rfl)) (w_one K) (ybh (w_all hK (by rfl))) rfl rfl ?_ ?_ ?_;(·(exact to_));(·(exact to_)))|(refine ybg 0 rfl rfl rfl (w_sz hK) (w_fit hK (by rfl)) (w_one K) (ybh (w_all hK (by rfl))) rfl rfl ?_ ?_ ?_;(·(exact to_));(·(exact to_))))|refine t1_ ?_|(refine ta_ ?_;intro _)|((fail_if_success (refine ybi rfl ?_));refine ybj rfl ?_ ?_<;>(intro ht;rw [ht];first|replace ht := oet_ ht|replace ht := oef_ ht|skip))|(refine ych ?_;first|(refine ybw rfl ?_ ?_<;>intro ht)|(refine ybx rfl ?_ ?_<;>intro ht)))
    refine cx_loop (X := Nat) (fun y => [(3, .pointer (some ⟨bK, 0, none⟩)), (4, .pointer (some ⟨bH, 0, none⟩)), (5, .slice adp p.length capp), (6, .int .i64 (64 * y : Nat))]) (fun _ => h1)
      (fun y => [Res.blk bH (.cells (up32 (blocksF p y)).toArray 102 (0, 0)), Res.blk bK (.cells (up32 K).toArray 116 (0, 0))])
      (fun y => 64 * y ≤ p.length) (fun y => p.length - 64 * y) 0 (by omega) ts_ (fun _ s => ?_) ?_
    · rw [e0]
      exact s
    intro k hk
    have hbl := blocksF_len p k
    by_cases hkl : 64 * k < p.length
    ·
      repeat' (first|(refine ycf ?_;apply ybk;(·first|(exact tk_));(·rfl);(·rfl))|(first|(refine ybg 1 rfl rfl rfl (w_sz hK) (w_fit hK (by rfl)) (w_one K) (ybh (w_all hK (by rfl))) rfl rfl ?_ ?_ ?_;(·(exact to_));(·(exact to_)))|(refine ybg 0 rfl rfl rfl (w_sz hK) (w_fit hK (by rfl)) (w_one K) (ybh (w_all hK (by rfl))) rfl rfl ?_ ?_ ?_;(·(exact to_));(·(exact to_))))|refine t1_ ?_|(refine ta_ ?_;intro _)|((fail_if_success (refine ybi rfl ?_));refine ybj rfl ?_ ?_<;>(intro ht;rw [ht];first|replace ht := oet_ ht|replace ht := oef_ ht|skip))|(refine ych ?_;first|(refine ybw rfl ?_ ?_<;>intro ht)|(refine ybx rfl ?_ ?_<;>intro ht)))
      rename_i b7
      obtain ⟨B, hB⟩ : ∃ B, B = (p.drop (64 * k)).take 64 := ⟨_, rfl⟩
      have hBl : B.length = 64 := by rw [hB]; simp; omega
      have hBat : ∀ t, t < 16 → (p.drop (64 * k + 4 * t)).take 4 = (B.drop (4 * t)).take 4 := fun t ht => by
        rw [hB, List.drop_take, List.drop_drop, List.take_take, Nat.min_eq_left (by omega)]
      refine cx_loop (X := Nat) (fun t => [(3, .pointer (some ⟨bK, 0, none⟩)), (4, .pointer (some ⟨bH, 0, none⟩)), (5, .slice adp p.length capp), (6, .int .i64 (64 * k : Nat)), (7, .pointer (some ⟨b7, 0, none⟩)), (8, .int .i64 (t : Nat))]) (fun _ => h1)
        (fun t => [Res.blk b7 (.cells (up32 (pad32 64 (wsF B t))).toArray 116 (0, 0)), Res.blk bH (.cells (up32 (blocksF p k)).toArray 102 (0, 0)), Res.blk bK (.cells (up32 K).toArray 116 (0, 0))])
        (fun t => t ≤ 16) (fun t => 16 - t) 0 (Nat.zero_le _) ts_ (fun _ s => s) ?_
      intro t ht
      have hwl := wsF_len B t
      by_cases ht16 : t < 16
      · have hm : IntKind.i64.wrap (4 * (t : Int)) = ((4 * t : Nat) : Int) := by rw [IntKind.wrap_i64]; omega
        have e4 : 64 * k + 4 * t + 4 - (64 * k + 4 * t) = 4 := by omega
        have hmid : Bs8 h1 (.slice (cutF adp capp (64 * k + 4 * t) 1) (64 * k + 4 * t + 4 - (64 * k + 4 * t)) (capp - (64 * k + 4 * t))) ((B.drop (4 * t)).take 4) := by
          have := bs_mid hP (i := 64 * k + 4 * t) (j := 64 * k + 4 * t + 4) (by omega) (by omega)
          rw [e4] at this ⊢
          rw [← hBat t ht16]
          exact this
        have hby : Bytes ((B.drop (4 * t)).take 4) := by
          rw [← hBat t ht16]
          exact bytes_take (bytes_drop hpb _) 4
        have W := Word_sp ((B.drop (4 * t)).take 4) hby (by simp; omega) h1
        have hwr : IntKind.u32.wrap (valB ((B.drop (4 * t)).take 4)) = ((hi32 ((B.drop (4 * t)).take 4)).toNat : Int) := wrapw rfl rfl _
        have hst : (pad32 64 (wsF B t)).set t (hi32 ((B.drop (4 * t)).take 4)) = pad32 64 (wsF B (t + 1)) := by
          rw [pad32_set hwl (by omega)]
          show _ = pad32 64 (wsF B t ++ [_])
          rw [if_pos ht16]
        have hpl : (pad32 64 (wsF B t)).length = 64 := pad32_len (by omega)
        repeat' (first|(refine ycf ?_;apply ybk;(·first|(first|exact tk_|(refine qv_mul' rfl rfl hm)|(refine qv_slice_ij (64 * k + 4 * t) (64 * k + 4 * t + 4) rfl rfl rfl (by omega) (by omega) (by omega) (by omega))|exact qv_str_bs rfl hmid|(refine qv_convert_int' rfl hwr)));(·rfl);(·rfl))|(refine ybg 0 rfl rfl rfl rfl (fit_w (n := 64) (i := t) hpl (by omega) (by omega)) rfl ((spl_w (i := t) (by omega) (by omega)).trans (congrArg up32 hst)) rfl rfl ?_ ?_ ?_;(·(exact to_));(·(exact to_)))|refine t1_ ?_|(refine ta_ ?_;intro _)|((fail_if_success (refine ybi rfl ?_));refine ybj rfl ?_ ?_<;>(intro ht;rw [ht];first|replace ht := oet_ ht|replace ht := oef_ ht|skip))|(refine ych ?_;first|(refine ybw rfl ?_ ?_<;>intro ht)|(refine ybx rfl ?_ ?_<;>intro ht)))
        (refine ycn (ycp Tryz.func78 rfl (by kernel_rfl) rfl) (W) rfl rfl rfl ?_ ?_; (· (exact to_)))
        repeat' (first|(refine ycf ?_;apply ybk;(·first|(first|exact tk_|(refine qv_mul' rfl rfl hm)|(refine qv_slice_ij (64 * k + 4 * t) (64 * k + 4 * t + 4) rfl rfl rfl (by omega) (by omega) (by omega) (by omega))|exact qv_str_bs rfl hmid|(refine qv_convert_int' rfl hwr)));(·rfl);(·rfl))|(refine ybg 0 rfl rfl rfl rfl (fit_w (n := 64) (i := t) hpl (by omega) (by omega)) rfl ((spl_w (i := t) (by omega) (by omega)).trans (congrArg up32 hst)) rfl rfl ?_ ?_ ?_;(·(exact to_));(·(exact to_)))|refine t1_ ?_|(refine ta_ ?_;intro _)|((fail_if_success (refine ybi rfl ?_));refine ybj rfl ?_ ?_<;>(intro ht;rw [ht];first|replace ht := oet_ ht|replace ht := oef_ ht|skip))|(refine ych ?_;first|(refine ybw rfl ?_ ?_<;>intro ht)|(refine ybx rfl ?_ ?_<;>intro ht)))
        exact nx_round (t + 1) (by show t + 1 ≤ 16; omega) (by show 16 - (t + 1) < 16 - t; omega) ts_ (fun _ s => s)
      · have et : t = 16 := by omega
        subst et
        repeat' (first|(refine ycf ?_;apply ybk;(·first|(exact tk_));(·rfl);(·rfl))|refine t1_ ?_|(refine ta_ ?_;intro _)|((fail_if_success (refine ybi rfl ?_));refine ybj rfl ?_ ?_<;>(intro ht;rw [ht];first|replace ht := oet_ ht|replace ht := oef_ ht|skip))|(refine ych ?_;first|(refine ybw rfl ?_ ?_<;>intro ht)|(refine ybx rfl ?_ ?_<;>intro ht)))
        refine cx_loop (X := Nat) (fun t => [(3, .pointer (some ⟨bK, 0, none⟩)), (4, .pointer (some ⟨bH, 0, none⟩)), (5, .slice adp p.length capp), (6, .int .i64 (64 * k : Nat)), (7, .pointer (some ⟨b7, 0, none⟩)), (9, .int .i64 (16 + t : Nat))]) (fun _ => h1)
          (fun t => [Res.blk b7 (.cells (up32 (pad32 64 (wsF B (16 + t)))).toArray 116 (0, 0)), Res.blk bH (.cells (up32 (blocksF p k)).toArray 102 (0, 0)), Res.blk bK (.cells (up32 K).toArray 116 (0, 0))])
          (fun t => t ≤ 48) (fun t => 48 - t) 0 (Nat.zero_le _) ts_ (fun _ s => s) ?_
        intro t ht
        have hwl := wsF_len B (16 + t)
        by_cases ht48 : t < 48
        · have hst : (pad32 64 (wsF B (16 + t))).set (16 + t) (nextW (wsF B (16 + t))) = pad32 64 (wsF B (16 + (t + 1))) := by
            rw [pad32_set hwl (by omega), show 16 + (t + 1) = 16 + t + 1 by omega, wsF_next B (by omega)]
          have hpl : (pad32 64 (wsF B (16 + t))).length = 64 := pad32_len (by omega)
          have hnx : nextW (wsF B (16 + t)) = movedF ((wsF B (16 + t)).getD (16 + t - 2) 0) 17 19 10 + (wsF B (16 + t)).getD (16 + t - 7) 0 + movedF ((wsF B (16 + t)).getD (16 + t - 15) 0) 7 18 3 + (wsF B (16 + t)).getD (16 + t - 16) 0 := by
            unfold nextW
            rw [hwl]
          rw [hnx] at hst
          have c2 := pad32_at (n := 64) (l := wsF B (16 + t)) (k := 16 + t - 2) (by omega)
          have c7 := pad32_at (n := 64) (l := wsF B (16 + t)) (k := 16 + t - 7) (by omega)
          have c15 := pad32_at (n := 64) (l := wsF B (16 + t)) (k := 16 + t - 15) (by omega)
          have c16 := pad32_at (n := 64) (l := wsF B (16 + t)) (k := 16 + t - 16) (by omega)
          generalize (wsF B (16 + t)).getD (16 + t - 2) 0 = x2 at c2 hst
          generalize (wsF B (16 + t)).getD (16 + t - 7) 0 = x7 at c7 hst
          generalize (wsF B (16 + t)).getD (16 + t - 15) 0 = x15 at c15 hst
          generalize (wsF B (16 + t)).getD (16 + t - 16) 0 = x16 at c16 hst
          have hcm : movedF x2 17 19 10 + x7 + movedF x15 7 18 3 + x16 = x16 + movedF x15 7 18 3 + x7 + movedF x2 17 19 10 := by
            ac_rfl
          rw [hcm] at hst
          repeat' (first|(refine ycf ?_;apply ybk;(·first|(first|exact tk_|(apply qv_addw<;>rfl)|(apply qv_xorw<;>rfl)|(apply qv_shrw (j := 3)<;>rfl)|(apply qv_shrw (j := 10)<;>rfl))|(apply yae;(·rfl);(·(first|exact cell_w (yaz 0 rfl) c2 (by omega)|exact cell_w (yaz 0 rfl) c7 (by omega)|exact cell_w (yaz 0 rfl) c15 (by omega)|exact cell_w (yaz 0 rfl) c16 (by omega)))));(·rfl);(·rfl))|(refine ybg 0 rfl rfl rfl rfl (fit_w (n := 64) (i := 16 + t) hpl (by omega) (by omega)) rfl ((spl_w (i := 16 + t) (by omega) (by omega)).trans (congrArg up32 hst)) rfl rfl ?_ ?_ ?_;(·(exact to_));(·(exact to_)))|refine t1_ ?_|(refine ta_ ?_;intro _)|((fail_if_success (refine ybi rfl ?_));refine ybj rfl ?_ ?_<;>(intro ht;rw [ht];first|replace ht := oet_ ht|replace ht := oef_ ht|skip))|(refine ych ?_;first|(refine ybw rfl ?_ ?_<;>intro ht)|(refine ybx rfl ?_ ?_<;>intro ht)))
          refine cx_region_draw' rfl (by kernel_rfl) ?_
          repeat' (refine ycf ?_;(first|(first|(apply ybm;(·(first|(first|exact tk_|(apply qv_addw<;>rfl)|(apply qv_xorw<;>rfl)|(apply qv_shrw (j := 3)<;>rfl)|(apply qv_shrw (j := 10)<;>rfl))|(apply yae;(·rfl);(·(first|exact cell_w (yaz 0 rfl) c2 (by omega)|exact cell_w (yaz 0 rfl) c7 (by omega)|exact cell_w (yaz 0 rfl) c15 (by omega)|exact cell_w (yaz 0 rfl) c16 (by omega))))|exact tq_));(·rfl);(·rfl);(·(exact th_)))|refine ybl rfl rfl ?_|((fail_if_success (refine ybi rfl ?_));refine ybj rfl ?_ ?_<;>(intro ht;rw [ht];first|replace ht := oet_ ht|replace ht := oef_ ht|skip))|(refine tb_ ?_ ?_ ?_;(·(exact to_));(·intro _;(exact to_));intro _)|(first|(refine ybg 0 rfl rfl rfl rfl (fit_w (n := 64) (i := 16 + t) hpl (by omega) (by omega)) rfl ((spl_w (i := 16 + t) (by omega) (by omega)).trans (congrArg up32 hst)) rfl rfl ?_ ?_ ?_;(·(exact to_));(·(exact to_)))|(refine tqs_ ?_ ?_ ?_;(·(exact to_));(·(exact to_))))|(apply ybn;(·(first|(first|exact tk_|(apply qv_addw<;>rfl)|(apply qv_xorw<;>rfl)|(apply qv_shrw (j := 3)<;>rfl)|(apply qv_shrw (j := 10)<;>rfl))|(apply yae;(·rfl);(·(first|exact cell_w (yaz 0 rfl) c2 (by omega)|exact cell_w (yaz 0 rfl) c7 (by omega)|exact cell_w (yaz 0 rfl) c15 (by omega)|exact cell_w (yaz 0 rfl) c16 (by omega))))|exact tq_));(·rfl);(·rfl);(·rfl);(·(exact to_))))|refine ycg ?_))
          repeat' (first|(refine ycf ?_;apply ybk;(·first|(first|exact tk_|(apply qv_addw<;>rfl)|(apply qv_xorw<;>rfl)|(apply qv_shrw (j := 3)<;>rfl)|(apply qv_shrw (j := 10)<;>rfl))|(apply yae;(·rfl);(·(first|exact cell_w (yaz 0 rfl) c2 (by omega)|exact cell_w (yaz 0 rfl) c7 (by omega)|exact cell_w (yaz 0 rfl) c15 (by omega)|exact cell_w (yaz 0 rfl) c16 (by omega)))));(·rfl);(·rfl))|(refine ybg 0 rfl rfl rfl rfl (fit_w (n := 64) (i := 16 + t) hpl (by omega) (by omega)) rfl ((spl_w (i := 16 + t) (by omega) (by omega)).trans (congrArg up32 hst)) rfl rfl ?_ ?_ ?_;(·(exact to_));(·(exact to_)))|refine t1_ ?_|(refine ta_ ?_;intro _)|((fail_if_success (refine ybi rfl ?_));refine ybj rfl ?_ ?_<;>(intro ht;rw [ht];first|replace ht := oet_ ht|replace ht := oef_ ht|skip))|(refine ych ?_;first|(refine ybw rfl ?_ ?_<;>intro ht)|(refine ybx rfl ?_ ?_<;>intro ht)))
          refine cx_region_draw' rfl (by kernel_rfl) ?_
          repeat' (refine ycf ?_;(first|(first|(apply ybm;(·(first|(first|exact tk_|(apply qv_addw<;>rfl)|(apply qv_xorw<;>rfl)|(apply qv_shrw (j := 3)<;>rfl)|(apply qv_shrw (j := 10)<;>rfl))|(apply yae;(·rfl);(·(first|exact cell_w (yaz 0 rfl) c2 (by omega)|exact cell_w (yaz 0 rfl) c7 (by omega)|exact cell_w (yaz 0 rfl) c15 (by omega)|exact cell_w (yaz 0 rfl) c16 (by omega))))|exact tq_));(·rfl);(·rfl);(·(exact th_)))|refine ybl rfl rfl ?_|((fail_if_success (refine ybi rfl ?_));refine ybj rfl ?_ ?_<;>(intro ht;rw [ht];first|replace ht := oet_ ht|replace ht := oef_ ht|skip))|(refine tb_ ?_ ?_ ?_;(·(exact to_));(·intro _;(exact to_));intro _)|(first|(refine ybg 0 rfl rfl rfl rfl (fit_w (n := 64) (i := 16 + t) hpl (by omega) (by omega)) rfl ((spl_w (i := 16 + t) (by omega) (by omega)).trans (congrArg up32 hst)) rfl rfl ?_ ?_ ?_;(·(exact to_));(·(exact to_)))|(refine tqs_ ?_ ?_ ?_;(·(exact to_));(·(exact to_))))|(apply ybn;(·(first|(first|exact tk_|(apply qv_addw<;>rfl)|(apply qv_xorw<;>rfl)|(apply qv_shrw (j := 3)<;>rfl)|(apply qv_shrw (j := 10)<;>rfl))|(apply yae;(·rfl);(·(first|exact cell_w (yaz 0 rfl) c2 (by omega)|exact cell_w (yaz 0 rfl) c7 (by omega)|exact cell_w (yaz 0 rfl) c15 (by omega)|exact cell_w (yaz 0 rfl) c16 (by omega))))|exact tq_));(·rfl);(·rfl);(·rfl);(·(exact to_))))|refine ycg ?_))
          (refine ycn (ycp Tryz.func79 rfl (by kernel_rfl) rfl) (rright_sp2 x15 7 (by omega) h1) rfl rfl rfl ?_ ?_; (· (exact to_)))
          repeat' (refine ycf ?_;(first|(first|(apply ybm;(·(first|(first|exact tk_|(apply qv_addw<;>rfl)|(apply qv_xorw<;>rfl)|(apply qv_shrw (j := 3)<;>rfl)|(apply qv_shrw (j := 10)<;>rfl))|(apply yae;(·rfl);(·(first|exact cell_w (yaz 0 rfl) c2 (by omega)|exact cell_w (yaz 0 rfl) c7 (by omega)|exact cell_w (yaz 0 rfl) c15 (by omega)|exact cell_w (yaz 0 rfl) c16 (by omega))))|exact tq_));(·rfl);(·rfl);(·(exact th_)))|refine ybl rfl rfl ?_|((fail_if_success (refine ybi rfl ?_));refine ybj rfl ?_ ?_<;>(intro ht;rw [ht];first|replace ht := oet_ ht|replace ht := oef_ ht|skip))|(refine tb_ ?_ ?_ ?_;(·(exact to_));(·intro _;(exact to_));intro _)|(first|(refine ybg 0 rfl rfl rfl rfl (fit_w (n := 64) (i := 16 + t) hpl (by omega) (by omega)) rfl ((spl_w (i := 16 + t) (by omega) (by omega)).trans (congrArg up32 hst)) rfl rfl ?_ ?_ ?_;(·(exact to_));(·(exact to_)))|(refine tqs_ ?_ ?_ ?_;(·(exact to_));(·(exact to_))))|(apply ybn;(·(first|(first|exact tk_|(apply qv_addw<;>rfl)|(apply qv_xorw<;>rfl)|(apply qv_shrw (j := 3)<;>rfl)|(apply qv_shrw (j := 10)<;>rfl))|(apply yae;(·rfl);(·(first|exact cell_w (yaz 0 rfl) c2 (by omega)|exact cell_w (yaz 0 rfl) c7 (by omega)|exact cell_w (yaz 0 rfl) c15 (by omega)|exact cell_w (yaz 0 rfl) c16 (by omega))))|exact tq_));(·rfl);(·rfl);(·rfl);(·(exact to_))))|refine ycg ?_))
          (refine ycn (ycp Tryz.func79 rfl (by kernel_rfl) rfl) (rright_sp2 x15 18 (by omega) h1) rfl rfl rfl ?_ ?_; (· (exact to_)))
          repeat' (refine ycf ?_;(first|(first|(apply ybm;(·(first|(first|exact tk_|(apply qv_addw<;>rfl)|(apply qv_xorw<;>rfl)|(apply qv_shrw (j := 3)<;>rfl)|(apply qv_shrw (j := 10)<;>rfl))|(apply yae;(·rfl);(·(first|exact cell_w (yaz 0 rfl) c2 (by omega)|exact cell_w (yaz 0 rfl) c7 (by omega)|exact cell_w (yaz 0 rfl) c15 (by omega)|exact cell_w (yaz 0 rfl) c16 (by omega))))|exact tq_));(·rfl);(·rfl);(·(exact th_)))|refine ybl rfl rfl ?_|((fail_if_success (refine ybi rfl ?_));refine ybj rfl ?_ ?_<;>(intro ht;rw [ht];first|replace ht := oet_ ht|replace ht := oef_ ht|skip))|(refine tb_ ?_ ?_ ?_;(·(exact to_));(·intro _;(exact to_));intro _)|(first|(refine ybg 0 rfl rfl rfl rfl (fit_w (n := 64) (i := 16 + t) hpl (by omega) (by omega)) rfl ((spl_w (i := 16 + t) (by omega) (by omega)).trans (congrArg up32 hst)) rfl rfl ?_ ?_ ?_;(·(exact to_));(·(exact to_)))|(refine tqs_ ?_ ?_ ?_;(·(exact to_));(·(exact to_))))|(apply ybn;(·(first|(first|exact tk_|(apply qv_addw<;>rfl)|(apply qv_xorw<;>rfl)|(apply qv_shrw (j := 3)<;>rfl)|(apply qv_shrw (j := 10)<;>rfl))|(apply yae;(·rfl);(·(first|exact cell_w (yaz 0 rfl) c2 (by omega)|exact cell_w (yaz 0 rfl) c7 (by omega)|exact cell_w (yaz 0 rfl) c15 (by omega)|exact cell_w (yaz 0 rfl) c16 (by omega))))|exact tq_));(·rfl);(·rfl);(·rfl);(·(exact to_))))|refine ycg ?_))
          (refine ycn (ycp Tryz.func79 rfl (by kernel_rfl) rfl) (rright_sp2 x2 17 (by omega) h1) rfl rfl rfl ?_ ?_; (· (exact to_)))
          repeat' (refine ycf ?_;(first|(first|(apply ybm;(·(first|(first|exact tk_|(apply qv_addw<;>rfl)|(apply qv_xorw<;>rfl)|(apply qv_shrw (j := 3)<;>rfl)|(apply qv_shrw (j := 10)<;>rfl))|(apply yae;(·rfl);(·(first|exact cell_w (yaz 0 rfl) c2 (by omega)|exact cell_w (yaz 0 rfl) c7 (by omega)|exact cell_w (yaz 0 rfl) c15 (by omega)|exact cell_w (yaz 0 rfl) c16 (by omega))))|exact tq_));(·rfl);(·rfl);(·(exact th_)))|refine ybl rfl rfl ?_|((fail_if_success (refine ybi rfl ?_));refine ybj rfl ?_ ?_<;>(intro ht;rw [ht];first|replace ht := oet_ ht|replace ht := oef_ ht|skip))|(refine tb_ ?_ ?_ ?_;(·(exact to_));(·intro _;(exact to_));intro _)|(first|(refine ybg 0 rfl rfl rfl rfl (fit_w (n := 64) (i := 16 + t) hpl (by omega) (by omega)) rfl ((spl_w (i := 16 + t) (by omega) (by omega)).trans (congrArg up32 hst)) rfl rfl ?_ ?_ ?_;(·(exact to_));(·(exact to_)))|(refine tqs_ ?_ ?_ ?_;(·(exact to_));(·(exact to_))))|(apply ybn;(·(first|(first|exact tk_|(apply qv_addw<;>rfl)|(apply qv_xorw<;>rfl)|(apply qv_shrw (j := 3)<;>rfl)|(apply qv_shrw (j := 10)<;>rfl))|(apply yae;(·rfl);(·(first|exact cell_w (yaz 0 rfl) c2 (by omega)|exact cell_w (yaz 0 rfl) c7 (by omega)|exact cell_w (yaz 0 rfl) c15 (by omega)|exact cell_w (yaz 0 rfl) c16 (by omega))))|exact tq_));(·rfl);(·rfl);(·rfl);(·(exact to_))))|refine ycg ?_))
          (refine ycn (ycp Tryz.func79 rfl (by kernel_rfl) rfl) (rright_sp2 x2 19 (by omega) h1) rfl rfl rfl ?_ ?_; (· (exact to_)))
          repeat' (refine ycf ?_;(first|(first|(apply ybm;(·(first|(first|exact tk_|(apply qv_addw<;>rfl)|(apply qv_xorw<;>rfl)|(apply qv_shrw (j := 3)<;>rfl)|(apply qv_shrw (j := 10)<;>rfl))|(apply yae;(·rfl);(·(first|exact cell_w (yaz 0 rfl) c2 (by omega)|exact cell_w (yaz 0 rfl) c7 (by omega)|exact cell_w (yaz 0 rfl) c15 (by omega)|exact cell_w (yaz 0 rfl) c16 (by omega))))|exact tq_));(·rfl);(·rfl);(·(exact th_)))|refine ybl rfl rfl ?_|((fail_if_success (refine ybi rfl ?_));refine ybj rfl ?_ ?_<;>(intro ht;rw [ht];first|replace ht := oet_ ht|replace ht := oef_ ht|skip))|(refine tb_ ?_ ?_ ?_;(·(exact to_));(·intro _;(exact to_));intro _)|(first|(refine ybg 0 rfl rfl rfl rfl (fit_w (n := 64) (i := 16 + t) hpl (by omega) (by omega)) rfl ((spl_w (i := 16 + t) (by omega) (by omega)).trans (congrArg up32 hst)) rfl rfl ?_ ?_ ?_;(·(exact to_));(·(exact to_)))|(refine tqs_ ?_ ?_ ?_;(·(exact to_));(·(exact to_))))|(apply ybn;(·(first|(first|exact tk_|(apply qv_addw<;>rfl)|(apply qv_xorw<;>rfl)|(apply qv_shrw (j := 3)<;>rfl)|(apply qv_shrw (j := 10)<;>rfl))|(apply yae;(·rfl);(·(first|exact cell_w (yaz 0 rfl) c2 (by omega)|exact cell_w (yaz 0 rfl) c7 (by omega)|exact cell_w (yaz 0 rfl) c15 (by omega)|exact cell_w (yaz 0 rfl) c16 (by omega))))|exact tq_));(·rfl);(·rfl);(·rfl);(·(exact to_))))|refine ycg ?_))
          repeat' (first|(refine ycf ?_;apply ybk;(·first|(exact tk_));(·rfl);(·rfl))|refine t1_ ?_|(refine ta_ ?_;intro _)|((fail_if_success (refine ybi rfl ?_));refine ybj rfl ?_ ?_<;>(intro ht;rw [ht];first|replace ht := oet_ ht|replace ht := oef_ ht|skip))|(refine ych ?_;first|(refine ybw rfl ?_ ?_<;>intro ht)|(refine ybx rfl ?_ ?_<;>intro ht)))
          exact nx_round (t + 1) (by show t + 1 ≤ 48; omega) (by show 48 - (t + 1) < 48 - t; omega) ts_ (fun _ s => s)
        · have et : t = 48 := by omega
          subst et
          have e64 : pad32 64 (wsF B (16 + 48)) = wsF B 64 := pad32_full (wsF_len B 64)
          rw [e64]
          have hl64 := wsF_len B 64
          have hbn : blocksF p (k + 1) = List.zipWith (· + ·) (blocksF p k) (roundsF (blocksF p k) (wsF B 64) 64) := by rw [hB]; rfl
          generalize wsF B 64 = ws at hl64 hbn ⊢
          generalize blocksF p k = hv at hbl hbn ⊢
          repeat' (first|(refine ycf ?_;apply ybk;(·first|(first|exact tk_|(apply yad;(·rfl);(·exact yaz 1 rfl);(·exact w_sz hbl))));(·rfl);(·rfl))|(refine ybg 0 rfl rfl rfl (w_sz hbl) (w_fit hbl (by rfl)) (w_one hv) (ybh (w_all hbl (by rfl))) rfl rfl ?_ ?_ ?_;(·(exact to_));(·(exact to_)))|refine t1_ ?_|(refine ta_ ?_;intro _)|((fail_if_success (refine ybi rfl ?_));refine ybj rfl ?_ ?_<;>(intro ht;rw [ht];first|replace ht := oet_ ht|replace ht := oef_ ht|skip))|(refine ych ?_;first|(refine ybw rfl ?_ ?_<;>intro ht)|(refine ybx rfl ?_ ?_<;>intro ht)))
          rename_i b12
          refine cx_loop (X := Nat) (fun t => [(3, .pointer (some ⟨bK, 0, none⟩)), (4, .pointer (some ⟨bH, 0, none⟩)), (5, .slice adp p.length capp), (6, .int .i64 (64 * k : Nat)), (7, .pointer (some ⟨b7, 0, none⟩)), (12, .pointer (some ⟨b12, 0, none⟩)), (13, .int .i64 (t : Nat))]) (fun _ => h1)
            (fun t => [Res.blk b12 (.cells (up32 (roundsF hv ws t)).toArray 102 (0, 0)), Res.blk b7 (.cells (up32 ws).toArray 116 (0, 0)), Res.blk bH (.cells (up32 hv).toArray 102 (0, 0)), Res.blk bK (.cells (up32 K).toArray 116 (0, 0))])
            (fun t => t ≤ 64) (fun t => 64 - t) 0 (Nat.zero_le _) ts_ (fun _ s => s) ?_
          intro t ht
          have hrl := roundsF_len (ws := ws) hbl t
          by_cases ht64 : t < 64
          · have hKc : K[t]? = some (shK.getD t 0) := by rw [eK]; exact getD_at (by rw [shK_len]; exact ht64)
            have hWc : ws[t]? = some (ws.getD t 0) := getD_at (by omega)
            have hR : roundsF hv ws (t + 1) = mixStep (roundsF hv ws t) (shK.getD t 0) (ws.getD t 0) := rfl
            obtain ⟨a0, a1, a2, a3, a4, a5, a6, a7, er⟩ := list8 hrl
            rw [er] at hR ⊢
            generalize shK.getD t 0 = kk at hKc hR
            generalize ws.getD t 0 = wk at hWc hR
            have hnl := mixStep_len [a0, a1, a2, a3, a4, a5, a6, a7] kk wk
            generalize hnx : mixStep [a0, a1, a2, a3, a4, a5, a6, a7] kk wk = nx at hnl hR
            repeat' (first|(refine ycf ?_;apply ybk;(·first|(first|exact tk_|(apply qv_addw<;>rfl)|(apply qv_andw<;>rfl)|(apply qv_xorw<;>rfl)|(apply qv_notw<;>rfl)|(apply qv_build_arr (cs := up32 nx);(·rfl);(·rw [← hnx];rfl)))|(apply yae;(·rfl);(·(first|exact cell_w (yaz 3 rfl) hKc (by omega)|exact cell_w (yaz 1 rfl) hWc (by omega)))));(·rfl);(·rfl))|(refine ybg 0 rfl rfl rfl (w_sz hnl) (w_fit hnl (by rfl)) (w_one nx) (ybh (w_all hnl (by rfl))) rfl rfl ?_ ?_ ?_;(·(exact to_));(·(exact to_)))|refine t1_ ?_|(refine ta_ ?_;intro _)|((fail_if_success (refine ybi rfl ?_));refine ybj rfl ?_ ?_<;>(intro ht;rw [ht];first|replace ht := oet_ ht|replace ht := oef_ ht|skip))|(refine ych ?_;first|(refine ybw rfl ?_ ?_<;>intro ht)|(refine ybx rfl ?_ ?_<;>intro ht)))
            refine cx_region_draw' rfl (by kernel_rfl) ?_
            repeat' (refine ycf ?_;(first|(first|(apply ybm;(·(first|(first|exact tk_|(apply qv_addw<;>rfl)|(apply qv_andw<;>rfl)|(apply qv_xorw<;>rfl)|(apply qv_notw<;>rfl)|(apply qv_build_arr (cs := up32 nx);(·rfl);(·rw [← hnx];rfl)))|(apply yae;(·rfl);(·(first|exact cell_w (yaz 3 rfl) hKc (by omega)|exact cell_w (yaz 1 rfl) hWc (by omega))))|exact tq_));(·rfl);(·rfl);(·(exact th_)))|refine ybl rfl rfl ?_|((fail_if_success (refine ybi rfl ?_));refine ybj rfl ?_ ?_<;>(intro ht;rw [ht];first|replace ht := oet_ ht|replace ht := oef_ ht|skip))|(refine tb_ ?_ ?_ ?_;(·(exact to_));(·intro _;(exact to_));intro _)|(first|(refine ybg 0 rfl rfl rfl (w_sz hnl) (w_fit hnl (by rfl)) (w_one nx) (ybh (w_all hnl (by rfl))) rfl rfl ?_ ?_ ?_;(·(exact to_));(·(exact to_)))|(refine tqs_ ?_ ?_ ?_;(·(exact to_));(·(exact to_))))|(apply ybn;(·(first|(first|exact tk_|(apply qv_addw<;>rfl)|(apply qv_andw<;>rfl)|(apply qv_xorw<;>rfl)|(apply qv_notw<;>rfl)|(apply qv_build_arr (cs := up32 nx);(·rfl);(·rw [← hnx];rfl)))|(apply yae;(·rfl);(·(first|exact cell_w (yaz 3 rfl) hKc (by omega)|exact cell_w (yaz 1 rfl) hWc (by omega))))|exact tq_));(·rfl);(·rfl);(·rfl);(·(exact to_))))|refine ycg ?_))
            repeat' (first|(refine ycf ?_;apply ybk;(·first|(first|exact tk_|(apply qv_addw<;>rfl)|(apply qv_andw<;>rfl)|(apply qv_xorw<;>rfl)|(apply qv_notw<;>rfl)|(apply qv_build_arr (cs := up32 nx);(·rfl);(·rw [← hnx];rfl)))|(apply yae;(·rfl);(·(first|exact cell_w (yaz 3 rfl) hKc (by omega)|exact cell_w (yaz 1 rfl) hWc (by omega)))));(·rfl);(·rfl))|(refine ybg 0 rfl rfl rfl (w_sz hnl) (w_fit hnl (by rfl)) (w_one nx) (ybh (w_all hnl (by rfl))) rfl rfl ?_ ?_ ?_;(·(exact to_));(·(exact to_)))|refine t1_ ?_|(refine ta_ ?_;intro _)|((fail_if_success (refine ybi rfl ?_));refine ybj rfl ?_ ?_<;>(intro ht;rw [ht];first|replace ht := oet_ ht|replace ht := oef_ ht|skip))|(refine ych ?_;first|(refine ybw rfl ?_ ?_<;>intro ht)|(refine ybx rfl ?_ ?_<;>intro ht)))
            refine cx_region_draw' rfl (by kernel_rfl) ?_
            repeat' (refine ycf ?_;(first|(first|(apply ybm;(·(first|(first|exact tk_|(apply qv_addw<;>rfl)|(apply qv_andw<;>rfl)|(apply qv_xorw<;>rfl)|(apply qv_notw<;>rfl)|(apply qv_build_arr (cs := up32 nx);(·rfl);(·rw [← hnx];rfl)))|(apply yae;(·rfl);(·(first|exact cell_w (yaz 3 rfl) hKc (by omega)|exact cell_w (yaz 1 rfl) hWc (by omega))))|exact tq_));(·rfl);(·rfl);(·(exact th_)))|refine ybl rfl rfl ?_|((fail_if_success (refine ybi rfl ?_));refine ybj rfl ?_ ?_<;>(intro ht;rw [ht];first|replace ht := oet_ ht|replace ht := oef_ ht|skip))|(refine tb_ ?_ ?_ ?_;(·(exact to_));(·intro _;(exact to_));intro _)|(first|(refine ybg 0 rfl rfl rfl (w_sz hnl) (w_fit hnl (by rfl)) (w_one nx) (ybh (w_all hnl (by rfl))) rfl rfl ?_ ?_ ?_;(·(exact to_));(·(exact to_)))|(refine tqs_ ?_ ?_ ?_;(·(exact to_));(·(exact to_))))|(apply ybn;(·(first|(first|exact tk_|(apply qv_addw<;>rfl)|(apply qv_andw<;>rfl)|(apply qv_xorw<;>rfl)|(apply qv_notw<;>rfl)|(apply qv_build_arr (cs := up32 nx);(·rfl);(·rw [← hnx];rfl)))|(apply yae;(·rfl);(·(first|exact cell_w (yaz 3 rfl) hKc (by omega)|exact cell_w (yaz 1 rfl) hWc (by omega))))|exact tq_));(·rfl);(·rfl);(·rfl);(·(exact to_))))|refine ycg ?_))
            (refine ycn (ycp Tryz.func79 rfl (by kernel_rfl) rfl) (rright_sp2 a4 6 (by omega) h1) rfl rfl rfl ?_ ?_; (· (exact to_)))
            repeat' (refine ycf ?_;(first|(first|(apply ybm;(·(first|(first|exact tk_|(apply qv_addw<;>rfl)|(apply qv_andw<;>rfl)|(apply qv_xorw<;>rfl)|(apply qv_notw<;>rfl)|(apply qv_build_arr (cs := up32 nx);(·rfl);(·rw [← hnx];rfl)))|(apply yae;(·rfl);(·(first|exact cell_w (yaz 3 rfl) hKc (by omega)|exact cell_w (yaz 1 rfl) hWc (by omega))))|exact tq_));(·rfl);(·rfl);(·(exact th_)))|refine ybl rfl rfl ?_|((fail_if_success (refine ybi rfl ?_));refine ybj rfl ?_ ?_<;>(intro ht;rw [ht];first|replace ht := oet_ ht|replace ht := oef_ ht|skip))|(refine tb_ ?_ ?_ ?_;(·(exact to_));(·intro _;(exact to_));intro _)|(first|(refine ybg 0 rfl rfl rfl (w_sz hnl) (w_fit hnl (by rfl)) (w_one nx) (ybh (w_all hnl (by rfl))) rfl rfl ?_ ?_ ?_;(·(exact to_));(·(exact to_)))|(refine tqs_ ?_ ?_ ?_;(·(exact to_));(·(exact to_))))|(apply ybn;(·(first|(first|exact tk_|(apply qv_addw<;>rfl)|(apply qv_andw<;>rfl)|(apply qv_xorw<;>rfl)|(apply qv_notw<;>rfl)|(apply qv_build_arr (cs := up32 nx);(·rfl);(·rw [← hnx];rfl)))|(apply yae;(·rfl);(·(first|exact cell_w (yaz 3 rfl) hKc (by omega)|exact cell_w (yaz 1 rfl) hWc (by omega))))|exact tq_));(·rfl);(·rfl);(·rfl);(·(exact to_))))|refine ycg ?_))
            (refine ycn (ycp Tryz.func79 rfl (by kernel_rfl) rfl) (rright_sp2 a4 11 (by omega) h1) rfl rfl rfl ?_ ?_; (· (exact to_)))
            repeat' (refine ycf ?_;(first|(first|(apply ybm;(·(first|(first|exact tk_|(apply qv_addw<;>rfl)|(apply qv_andw<;>rfl)|(apply qv_xorw<;>rfl)|(apply qv_notw<;>rfl)|(apply qv_build_arr (cs := up32 nx);(·rfl);(·rw [← hnx];rfl)))|(apply yae;(·rfl);(·(first|exact cell_w (yaz 3 rfl) hKc (by omega)|exact cell_w (yaz 1 rfl) hWc (by omega))))|exact tq_));(·rfl);(·rfl);(·(exact th_)))|refine ybl rfl rfl ?_|((fail_if_success (refine ybi rfl ?_));refine ybj rfl ?_ ?_<;>(intro ht;rw [ht];first|replace ht := oet_ ht|replace ht := oef_ ht|skip))|(refine tb_ ?_ ?_ ?_;(·(exact to_));(·intro _;(exact to_));intro _)|(first|(refine ybg 0 rfl rfl rfl (w_sz hnl) (w_fit hnl (by rfl)) (w_one nx) (ybh (w_all hnl (by rfl))) rfl rfl ?_ ?_ ?_;(·(exact to_));(·(exact to_)))|(refine tqs_ ?_ ?_ ?_;(·(exact to_));(·(exact to_))))|(apply ybn;(·(first|(first|exact tk_|(apply qv_addw<;>rfl)|(apply qv_andw<;>rfl)|(apply qv_xorw<;>rfl)|(apply qv_notw<;>rfl)|(apply qv_build_arr (cs := up32 nx);(·rfl);(·rw [← hnx];rfl)))|(apply yae;(·rfl);(·(first|exact cell_w (yaz 3 rfl) hKc (by omega)|exact cell_w (yaz 1 rfl) hWc (by omega))))|exact tq_));(·rfl);(·rfl);(·rfl);(·(exact to_))))|refine ycg ?_))
            (refine ycn (ycp Tryz.func79 rfl (by kernel_rfl) rfl) (rright_sp2 a4 25 (by omega) h1) rfl rfl rfl ?_ ?_; (· (exact to_)))
            repeat' (refine ycf ?_;(first|(first|(apply ybm;(·(first|(first|exact tk_|(apply qv_addw<;>rfl)|(apply qv_andw<;>rfl)|(apply qv_xorw<;>rfl)|(apply qv_notw<;>rfl)|(apply qv_build_arr (cs := up32 nx);(·rfl);(·rw [← hnx];rfl)))|(apply yae;(·rfl);(·(first|exact cell_w (yaz 3 rfl) hKc (by omega)|exact cell_w (yaz 1 rfl) hWc (by omega))))|exact tq_));(·rfl);(·rfl);(·(exact th_)))|refine ybl rfl rfl ?_|((fail_if_success (refine ybi rfl ?_));refine ybj rfl ?_ ?_<;>(intro ht;rw [ht];first|replace ht := oet_ ht|replace ht := oef_ ht|skip))|(refine tb_ ?_ ?_ ?_;(·(exact to_));(·intro _;(exact to_));intro _)|(first|(refine ybg 0 rfl rfl rfl (w_sz hnl) (w_fit hnl (by rfl)) (w_one nx) (ybh (w_all hnl (by rfl))) rfl rfl ?_ ?_ ?_;(·(exact to_));(·(exact to_)))|(refine tqs_ ?_ ?_ ?_;(·(exact to_));(·(exact to_))))|(apply ybn;(·(first|(first|exact tk_|(apply qv_addw<;>rfl)|(apply qv_andw<;>rfl)|(apply qv_xorw<;>rfl)|(apply qv_notw<;>rfl)|(apply qv_build_arr (cs := up32 nx);(·rfl);(·rw [← hnx];rfl)))|(apply yae;(·rfl);(·(first|exact cell_w (yaz 3 rfl) hKc (by omega)|exact cell_w (yaz 1 rfl) hWc (by omega))))|exact tq_));(·rfl);(·rfl);(·rfl);(·(exact to_))))|refine ycg ?_))
            repeat' (first|(refine ycf ?_;apply ybk;(·first|(first|exact tk_|(apply qv_addw<;>rfl)|(apply qv_andw<;>rfl)|(apply qv_xorw<;>rfl)|(apply qv_notw<;>rfl)|(apply qv_build_arr (cs := up32 nx);(·rfl);(·rw [← hnx];rfl)))|(apply yae;(·rfl);(·(first|exact cell_w (yaz 3 rfl) hKc (by omega)|exact cell_w (yaz 1 rfl) hWc (by omega)))));(·rfl);(·rfl))|(refine ybg 0 rfl rfl rfl (w_sz hnl) (w_fit hnl (by rfl)) (w_one nx) (ybh (w_all hnl (by rfl))) rfl rfl ?_ ?_ ?_;(·(exact to_));(·(exact to_)))|refine t1_ ?_|(refine ta_ ?_;intro _)|((fail_if_success (refine ybi rfl ?_));refine ybj rfl ?_ ?_<;>(intro ht;rw [ht];first|replace ht := oet_ ht|replace ht := oef_ ht|skip))|(refine ych ?_;first|(refine ybw rfl ?_ ?_<;>intro ht)|(refine ybx rfl ?_ ?_<;>intro ht)))
            refine cx_region_draw' rfl (by kernel_rfl) ?_
            repeat' (refine ycf ?_;(first|(first|(apply ybm;(·(first|(first|exact tk_|(apply qv_addw<;>rfl)|(apply qv_andw<;>rfl)|(apply qv_xorw<;>rfl)|(apply qv_notw<;>rfl)|(apply qv_build_arr (cs := up32 nx);(·rfl);(·rw [← hnx];rfl)))|(apply yae;(·rfl);(·(first|exact cell_w (yaz 3 rfl) hKc (by omega)|exact cell_w (yaz 1 rfl) hWc (by omega))))|exact tq_));(·rfl);(·rfl);(·(exact th_)))|refine ybl rfl rfl ?_|((fail_if_success (refine ybi rfl ?_));refine ybj rfl ?_ ?_<;>(intro ht;rw [ht];first|replace ht := oet_ ht|replace ht := oef_ ht|skip))|(refine tb_ ?_ ?_ ?_;(·(exact to_));(·intro _;(exact to_));intro _)|(first|(refine ybg 0 rfl rfl rfl (w_sz hnl) (w_fit hnl (by rfl)) (w_one nx) (ybh (w_all hnl (by rfl))) rfl rfl ?_ ?_ ?_;(·(exact to_));(·(exact to_)))|(refine tqs_ ?_ ?_ ?_;(·(exact to_));(·(exact to_))))|(apply ybn;(·(first|(first|exact tk_|(apply qv_addw<;>rfl)|(apply qv_andw<;>rfl)|(apply qv_xorw<;>rfl)|(apply qv_notw<;>rfl)|(apply qv_build_arr (cs := up32 nx);(·rfl);(·rw [← hnx];rfl)))|(apply yae;(·rfl);(·(first|exact cell_w (yaz 3 rfl) hKc (by omega)|exact cell_w (yaz 1 rfl) hWc (by omega))))|exact tq_));(·rfl);(·rfl);(·rfl);(·(exact to_))))|refine ycg ?_))
            (refine ycn (ycp Tryz.func79 rfl (by kernel_rfl) rfl) (rright_sp2 a0 2 (by omega) h1) rfl rfl rfl ?_ ?_; (· (exact to_)))
            repeat' (refine ycf ?_;(first|(first|(apply ybm;(·(first|(first|exact tk_|(apply qv_addw<;>rfl)|(apply qv_andw<;>rfl)|(apply qv_xorw<;>rfl)|(apply qv_notw<;>rfl)|(apply qv_build_arr (cs := up32 nx);(·rfl);(·rw [← hnx];rfl)))|(apply yae;(·rfl);(·(first|exact cell_w (yaz 3 rfl) hKc (by omega)|exact cell_w (yaz 1 rfl) hWc (by omega))))|exact tq_));(·rfl);(·rfl);(·(exact th_)))|refine ybl rfl rfl ?_|((fail_if_success (refine ybi rfl ?_));refine ybj rfl ?_ ?_<;>(intro ht;rw [ht];first|replace ht := oet_ ht|replace ht := oef_ ht|skip))|(refine tb_ ?_ ?_ ?_;(·(exact to_));(·intro _;(exact to_));intro _)|(first|(refine ybg 0 rfl rfl rfl (w_sz hnl) (w_fit hnl (by rfl)) (w_one nx) (ybh (w_all hnl (by rfl))) rfl rfl ?_ ?_ ?_;(·(exact to_));(·(exact to_)))|(refine tqs_ ?_ ?_ ?_;(·(exact to_));(·(exact to_))))|(apply ybn;(·(first|(first|exact tk_|(apply qv_addw<;>rfl)|(apply qv_andw<;>rfl)|(apply qv_xorw<;>rfl)|(apply qv_notw<;>rfl)|(apply qv_build_arr (cs := up32 nx);(·rfl);(·rw [← hnx];rfl)))|(apply yae;(·rfl);(·(first|exact cell_w (yaz 3 rfl) hKc (by omega)|exact cell_w (yaz 1 rfl) hWc (by omega))))|exact tq_));(·rfl);(·rfl);(·rfl);(·(exact to_))))|refine ycg ?_))
            (refine ycn (ycp Tryz.func79 rfl (by kernel_rfl) rfl) (rright_sp2 a0 13 (by omega) h1) rfl rfl rfl ?_ ?_; (· (exact to_)))
            repeat' (refine ycf ?_;(first|(first|(apply ybm;(·(first|(first|exact tk_|(apply qv_addw<;>rfl)|(apply qv_andw<;>rfl)|(apply qv_xorw<;>rfl)|(apply qv_notw<;>rfl)|(apply qv_build_arr (cs := up32 nx);(·rfl);(·rw [← hnx];rfl)))|(apply yae;(·rfl);(·(first|exact cell_w (yaz 3 rfl) hKc (by omega)|exact cell_w (yaz 1 rfl) hWc (by omega))))|exact tq_));(·rfl);(·rfl);(·(exact th_)))|refine ybl rfl rfl ?_|((fail_if_success (refine ybi rfl ?_));refine ybj rfl ?_ ?_<;>(intro ht;rw [ht];first|replace ht := oet_ ht|replace ht := oef_ ht|skip))|(refine tb_ ?_ ?_ ?_;(·(exact to_));(·intro _;(exact to_));intro _)|(first|(refine ybg 0 rfl rfl rfl (w_sz hnl) (w_fit hnl (by rfl)) (w_one nx) (ybh (w_all hnl (by rfl))) rfl rfl ?_ ?_ ?_;(·(exact to_));(·(exact to_)))|(refine tqs_ ?_ ?_ ?_;(·(exact to_));(·(exact to_))))|(apply ybn;(·(first|(first|exact tk_|(apply qv_addw<;>rfl)|(apply qv_andw<;>rfl)|(apply qv_xorw<;>rfl)|(apply qv_notw<;>rfl)|(apply qv_build_arr (cs := up32 nx);(·rfl);(·rw [← hnx];rfl)))|(apply yae;(·rfl);(·(first|exact cell_w (yaz 3 rfl) hKc (by omega)|exact cell_w (yaz 1 rfl) hWc (by omega))))|exact tq_));(·rfl);(·rfl);(·rfl);(·(exact to_))))|refine ycg ?_))
            (refine ycn (ycp Tryz.func79 rfl (by kernel_rfl) rfl) (rright_sp2 a0 22 (by omega) h1) rfl rfl rfl ?_ ?_; (· (exact to_)))
            repeat' (refine ycf ?_;(first|(first|(apply ybm;(·(first|(first|exact tk_|(apply qv_addw<;>rfl)|(apply qv_andw<;>rfl)|(apply qv_xorw<;>rfl)|(apply qv_notw<;>rfl)|(apply qv_build_arr (cs := up32 nx);(·rfl);(·rw [← hnx];rfl)))|(apply yae;(·rfl);(·(first|exact cell_w (yaz 3 rfl) hKc (by omega)|exact cell_w (yaz 1 rfl) hWc (by omega))))|exact tq_));(·rfl);(·rfl);(·(exact th_)))|refine ybl rfl rfl ?_|((fail_if_success (refine ybi rfl ?_));refine ybj rfl ?_ ?_<;>(intro ht;rw [ht];first|replace ht := oet_ ht|replace ht := oef_ ht|skip))|(refine tb_ ?_ ?_ ?_;(·(exact to_));(·intro _;(exact to_));intro _)|(first|(refine ybg 0 rfl rfl rfl (w_sz hnl) (w_fit hnl (by rfl)) (w_one nx) (ybh (w_all hnl (by rfl))) rfl rfl ?_ ?_ ?_;(·(exact to_));(·(exact to_)))|(refine tqs_ ?_ ?_ ?_;(·(exact to_));(·(exact to_))))|(apply ybn;(·(first|(first|exact tk_|(apply qv_addw<;>rfl)|(apply qv_andw<;>rfl)|(apply qv_xorw<;>rfl)|(apply qv_notw<;>rfl)|(apply qv_build_arr (cs := up32 nx);(·rfl);(·rw [← hnx];rfl)))|(apply yae;(·rfl);(·(first|exact cell_w (yaz 3 rfl) hKc (by omega)|exact cell_w (yaz 1 rfl) hWc (by omega))))|exact tq_));(·rfl);(·rfl);(·rfl);(·(exact to_))))|refine ycg ?_))
            repeat' (first|(refine ycf ?_;apply ybk;(·first|(first|exact tk_|(apply qv_addw<;>rfl)|(apply qv_andw<;>rfl)|(apply qv_xorw<;>rfl)|(apply qv_notw<;>rfl)|(apply qv_build_arr (cs := up32 nx);(·rfl);(·rw [← hnx];rfl)))|(apply yae;(·rfl);(·(first|exact cell_w (yaz 3 rfl) hKc (by omega)|exact cell_w (yaz 1 rfl) hWc (by omega)))));(·rfl);(·rfl))|(refine ybg 0 rfl rfl rfl (w_sz hnl) (w_fit hnl (by rfl)) (w_one nx) (ybh (w_all hnl (by rfl))) rfl rfl ?_ ?_ ?_;(·(exact to_));(·(exact to_)))|refine t1_ ?_|(refine ta_ ?_;intro _)|((fail_if_success (refine ybi rfl ?_));refine ybj rfl ?_ ?_<;>(intro ht;rw [ht];first|replace ht := oet_ ht|replace ht := oef_ ht|skip))|(refine ych ?_;first|(refine ybw rfl ?_ ?_<;>intro ht)|(refine ybx rfl ?_ ?_<;>intro ht)))
            refine nx_round (t + 1) (by show t + 1 ≤ 64; omega) (by show 64 - (t + 1) < 64 - t; omega) ts_ (fun _ s => ?_)
            rw [hR]
            exact s
          · have et : t = 64 := by omega
            subst et
            obtain ⟨rr, hrr⟩ : ∃ rr, rr = roundsF hv ws 64 := ⟨_, rfl⟩
            rw [← hrr] at hrl hbn ⊢
            repeat' (first|(refine ycf ?_;apply ybk;(·first|(exact tk_));(·rfl);(·rfl))|refine t1_ ?_|(refine ta_ ?_;intro _)|((fail_if_success (refine ybi rfl ?_));refine ybj rfl ?_ ?_<;>(intro ht;rw [ht];first|replace ht := oet_ ht|replace ht := oef_ ht|skip))|(refine ych ?_;first|(refine ybw rfl ?_ ?_<;>intro ht)|(refine ybx rfl ?_ ?_<;>intro ht)))
            refine cx_loop (X := Nat) (fun i => [(3, .pointer (some ⟨bK, 0, none⟩)), (4, .pointer (some ⟨bH, 0, none⟩)), (5, .slice adp p.length capp), (6, .int .i64 (64 * k : Nat)), (12, .pointer (some ⟨b12, 0, none⟩)), (18, .int .i64 (i : Nat))]) (fun _ => h1)
              (fun i => [Res.blk b12 (.cells (up32 rr).toArray 102 (0, 0)), Res.blk b7 (.cells (up32 ws).toArray 116 (0, 0)), Res.blk bH (.cells (up32 (addF hv rr i)).toArray 102 (0, 0)), Res.blk bK (.cells (up32 K).toArray 116 (0, 0))])
              (fun i => i ≤ 8) (fun i => 8 - i) 0 (Nat.zero_le _) ts_ (fun _ s => s) ?_
            intro i hi
            have hal := addF_len hbl hrl hi
            by_cases hi8 : i < 8
            · have c1 := addF_at hbl hrl hi8
              have c2 := getD_at (l := rr) (i := i) (by omega)
              have hst := addF_set hbl hrl hi8
              generalize hv.getD i 0 = x1 at c1 hst
              generalize rr.getD i 0 = x2 at c2 hst
              repeat' (first|(refine ycf ?_;apply ybk;(·first|(first|exact tk_|(apply qv_addw<;>rfl))|(apply yae;(·rfl);(·(first|exact cell_w (yaz 2 rfl) c1 (by omega)|exact cell_w (yaz 0 rfl) c2 (by omega)))));(·rfl);(·rfl))|(refine ybg 2 rfl rfl rfl rfl (fit_w (n := 8) (i := i) hal (by omega) (by omega)) rfl ((spl_w (i := i) (by omega) (by omega)).trans (congrArg up32 hst)) rfl rfl ?_ ?_ ?_;(·(exact to_));(·(exact to_)))|refine t1_ ?_|(refine ta_ ?_;intro _)|((fail_if_success (refine ybi rfl ?_));refine ybj rfl ?_ ?_<;>(intro ht;rw [ht];first|replace ht := oet_ ht|replace ht := oef_ ht|skip))|(refine ych ?_;first|(refine ybw rfl ?_ ?_<;>intro ht)|(refine ybx rfl ?_ ?_<;>intro ht)))
              refine cx_region_draw' rfl (by kernel_rfl) ?_
              repeat' (refine ycf ?_;(first|(first|(apply ybm;(·(first|(first|exact tk_|(apply qv_addw<;>rfl))|(apply yae;(·rfl);(·(first|exact cell_w (yaz 2 rfl) c1 (by omega)|exact cell_w (yaz 0 rfl) c2 (by omega))))|exact tq_));(·rfl);(·rfl);(·(exact th_)))|refine ybl rfl rfl ?_|((fail_if_success (refine ybi rfl ?_));refine ybj rfl ?_ ?_<;>(intro ht;rw [ht];first|replace ht := oet_ ht|replace ht := oef_ ht|skip))|(refine tb_ ?_ ?_ ?_;(·(exact to_));(·intro _;(exact to_));intro _)|(first|(refine ybg 2 rfl rfl rfl rfl (fit_w (n := 8) (i := i) hal (by omega) (by omega)) rfl ((spl_w (i := i) (by omega) (by omega)).trans (congrArg up32 hst)) rfl rfl ?_ ?_ ?_;(·(exact to_));(·(exact to_)))|(refine tqs_ ?_ ?_ ?_;(·(exact to_));(·(exact to_))))|(apply ybn;(·(first|(first|exact tk_|(apply qv_addw<;>rfl))|(apply yae;(·rfl);(·(first|exact cell_w (yaz 2 rfl) c1 (by omega)|exact cell_w (yaz 0 rfl) c2 (by omega))))|exact tq_));(·rfl);(·rfl);(·rfl);(·(exact to_))))|refine ycg ?_))
              repeat' (first|(refine ycf ?_;apply ybk;(·first|(first|exact tk_|(apply qv_addw<;>rfl)));(·rfl);(·rfl))|refine t1_ ?_|(refine ta_ ?_;intro _)|((fail_if_success (refine ybi rfl ?_));refine ybj rfl ?_ ?_<;>(intro ht;rw [ht];first|replace ht := oet_ ht|replace ht := oef_ ht|skip))|(refine ych ?_;first|(refine ybw rfl ?_ ?_<;>intro ht)|(refine ybx rfl ?_ ?_<;>intro ht)))
              exact nx_round (i + 1) (by show i + 1 ≤ 8; omega) (by show 8 - (i + 1) < 8 - i; omega) ts_ (fun _ s => s)
            · have ei : i = 8 := by omega
              subst ei
              rw [addF_full hbl hrl, ← hbn]
              have ha64 : ((64 * k : Nat) : Int) + 64 = ((64 * (k + 1) : Nat) : Int) := by omega
              repeat' (first|(refine ycf ?_;apply ybk;(·first|(exact tk_));(·rfl);(·rfl))|refine t1_ ?_|(refine ta_ ?_;intro _)|((fail_if_success (refine ybi rfl ?_));refine ybj rfl ?_ ?_<;>(intro ht;rw [ht];first|replace ht := oet_ ht|replace ht := oef_ ht|skip))|(refine ych ?_;first|(refine ybw rfl ?_ ?_<;>intro ht)|(refine ybx rfl ?_ ?_<;>intro ht)))
              refine nx_round (k + 1) (by show 64 * (k + 1) ≤ p.length; omega) (by show p.length - 64 * (k + 1) < p.length - 64 * k; omega) ?_ (fun _ s => (s.tl.tl))
              rw [← ha64]
              exact ts_
    · have ek : k = p.length / 64 := by omega
      subst ek
      have hsha : shaF b = (blocksF p (p.length / 64)).flatMap fun x => num4 x.toNat := by
        unfold shaF
        rw [hpF]
      rw [hsha]
      generalize hR : blocksF p (p.length / 64) = R at hbl ⊢
      repeat' (first|(refine ycf ?_;apply ybk;(·first|(exact tk_));(·rfl);(·rfl))|refine t1_ ?_|(refine ta_ ?_;intro _)|((fail_if_success (refine ybi rfl ?_));refine ybj rfl ?_ ?_<;>(intro ht;rw [ht];first|replace ht := oet_ ht|replace ht := oef_ ht|skip))|(refine ych ?_;first|(refine ybw rfl ?_ ?_<;>intro ht)|(refine ybx rfl ?_ ?_<;>intro ht)))
      refine cx_loop (X := Nat) (fun i => [(4, .pointer (some ⟨bH, 0, none⟩)), (19, .string (bstr ((R.take i).flatMap fun x => num4 x.toNat))), (20, .int .i64 (i : Nat))]) (fun _ => h1)
        (fun i => [Res.blk bH (.cells (up32 R).toArray 102 (0, 0)), Res.blk bK (.cells (up32 K).toArray 116 (0, 0))])
        (fun i => i ≤ 8) (fun i => 8 - i) 0 (Nat.zero_le _) ts_ (fun _ s => s) ?_
      intro i hi
      have hfl : ((R.take i).flatMap fun x => num4 x.toNat).length = 4 * i := by
        have : ∀ l : List W32, (l.flatMap fun x => num4 x.toNat).length = 4 * l.length := fun l => by
          induction l with
          | nil => rfl
          | cons a l ih => rw [List.flatMap_cons, List.length_append, num4_len, ih, List.length_cons]; omega
        rw [this, List.length_take]; omega
      by_cases hi8 : i < 8
      · have hgx := getD_at (l := R) (i := i) (by omega)
        have hfs : ((R.take (i + 1)).flatMap fun x => num4 x.toNat) = ((R.take i).flatMap fun x => num4 x.toNat) ++ num4 (R.getD i 0).toNat := by
          rw [flat_succ (by omega : i < R.length)]
          congr 3
          simp [List.getD_eq_getElem?_getD, hbl, hi8]
        generalize R.getD i 0 = xi at hgx hfs
        generalize ((R.take i).flatMap fun x => num4 (x.toNat : Int)) = out at hfl hfs ⊢
        have hx32 := xi.isLt
        have hcat : bstr out ++ bstr (num4 (xi.toNat : Int)) = bstr (out ++ num4 (xi.toNat : Int)) := bstr_app _ _
        have hsz : (bstr out).size + (bstr (num4 (xi.toNat : Int))).size < 1000000 := by rw [bstr_size, bstr_size, num4_len, hfl]; omega
        repeat' (first|(refine ycf ?_;apply ybk;(·first|(first|exact tk_|(refine qv_widen (m' := 64) rfl rfl rfl (by omega))|(refine qv_str_add rfl rfl hcat hsz))|(apply yae;(·rfl);(·(exact cell_w (yaz 0 rfl) hgx (by omega)))));(·rfl);(·rfl))|refine t1_ ?_|(refine ta_ ?_;intro _)|((fail_if_success (refine ybi rfl ?_));refine ybj rfl ?_ ?_<;>(intro ht;rw [ht];first|replace ht := oet_ ht|replace ht := oef_ ht|skip))|(refine ych ?_;first|(refine ybw rfl ?_ ?_<;>intro ht)|(refine ybx rfl ?_ ?_<;>intro ht)))
        (refine ycn (ycp Tryz.func76 rfl (by kernel_rfl) rfl) (Put_sp (xi.toNat : Int) 4 ⟨by omega, by omega⟩ (by omega) h1) rfl rfl rfl ?_ ?_; (· (exact to_)))
        repeat' (first|(refine ycf ?_;apply ybk;(·first|(first|exact tk_|(refine qv_widen (m' := 64) rfl rfl rfl (by omega))|(refine qv_str_add rfl rfl hcat hsz))|(apply yae;(·rfl);(·(exact cell_w (yaz 0 rfl) hgx (by omega)))));(·rfl);(·rfl))|refine t1_ ?_|(refine ta_ ?_;intro _)|((fail_if_success (refine ybi rfl ?_));refine ybj rfl ?_ ?_<;>(intro ht;rw [ht];first|replace ht := oet_ ht|replace ht := oef_ ht|skip))|(refine ych ?_;first|(refine ybw rfl ?_ ?_<;>intro ht)|(refine ybx rfl ?_ ?_<;>intro ht)))
        refine nx_round (i + 1) (by show i + 1 ≤ 8; omega) (by show 8 - (i + 1) < 8 - i; omega) ?_ (fun _ s => s)
        rw [hfs]
        exact ts_
      · have ei : i = 8 := by omega
        subst ei
        rw [List.take_of_length_le (by omega)]
        repeat' (first|(refine ycf ?_;apply ybk;(·first|(exact tk_)|(apply yae;(·rfl);(·(exact cell_w (yaz 0 rfl) hgx (by omega)))));(·rfl);(·rfl))|refine t1_ ?_|(refine ta_ ?_;intro _)|((fail_if_success (refine ybi rfl ?_));refine ybj rfl ?_ ?_<;>(intro ht;rw [ht];first|replace ht := oet_ ht|replace ht := oef_ ht|skip))|(refine ych ?_;first|(refine ybw rfl ?_ ?_<;>intro ht)|(refine ybx rfl ?_ ?_<;>intro ht)))
        exact nx_ret1 rfl (rv_tmp rfl) (fun w' s' => ⟨rfl, s'.nil.base⟩)
end Go.Proofs.YtkkjppeaaicgaaaGreatDoor
end
