/-
  Part 9 of a proof: ShE RkA VaG VaH VaI.
  Conditions: each theorem states its own.
-/
import Derived.Test.YtgeepceieckooaaDoorVrDPM8
section
namespace Go.Proofs.YtgeepceieckooaaDoor
open Go Go.Ck
set_option maxRecDepth 100000
set_option maxHeartbeats 4000000
set_option linter.unusedVariables false
def padZ (n : Nat) : Nat := (119 - n % 64) % 64
def padF (b : List Int) : List Int := b ++ [128] ++ List.replicate (padZ b.length) 0 ++ num8 (8 * b.length)
def blocksF (p : List Int) : Nat → List W32
  | 0 => shH
  | k + 1 => mixF (blocksF p k) ((p.drop (64 * k)).take 64)
def shaF (b : List Int) : List Int := (blocksF (padF b) ((padF b).length / 64)).flatMap fun x => num4 x.toNat
theorem blocksF_len (p : List Int) : ∀ k, (blocksF p k).length = 8
  | 0 => rfl
  | k + 1 => mixF_len _ (blocksF_len p k)
theorem padF_len (b : List Int) : (padF b).length % 64 = 0 ∧ (padF b).length = b.length + 1 + padZ b.length + 8 := by
  have : (padF b).length = b.length + 1 + padZ b.length + 8 := by simp [padF, num8_len]; omega
  refine ⟨?_, this⟩
  rw [this]
  unfold padZ
  omega
theorem padF_bytes {b : List Int} (hb : Bytes b) : Bytes (padF b) := fun x hx => by
  unfold padF at hx
  rcases List.mem_append.1 hx with hx | hx
  · rcases List.mem_append.1 hx with hx | hx
    · rcases List.mem_append.1 hx with hx | hx
      · exact hb x hx
      · rw [List.mem_singleton.1 hx]; decide
    · rw [(List.mem_replicate.1 hx).2]; decide
  · exact putLow_bytes' _ _ x hx
theorem flatB_bytes {parts : List (Value × List Int)} (h : ∀ p ∈ parts, Bytes p.2) : Bytes (flatB parts parts.length) := fun x hx => by
  unfold flatB at hx
  obtain ⟨p, hp, hx⟩ := List.mem_flatMap.1 hx
  exact h p (List.mem_of_mem_take hp) x hx
theorem shaSum_sp (sv : Value) (parts : List (Value × List Int)) (h : View) (hs : Sc h 1 sv parts.length (parts.map (·.1))) (hp : ∀ p ∈ parts, Bs8 h p.1 p.2) (hby : ∀ p ∈ parts, Bytes p.2) (hlen : (flatB parts parts.length).length ≤ 900000) (hpl : parts.length ≤ 1000000) (hg : ShG h) (w : World) (s : St ⟨w, h, []⟩ h [] w) :
    Calls Tryd.prog 48 [sv].toArray w fun e w' => e = .returned (.agg (bcs (shaF (flatB parts parts.length))).toArray) ∧ St ⟨w, h, []⟩ h [] w' := by
  refine calls_enter Tryd.func48 rfl Tryd.ntmps48 rfl s ?_
  repeat' (first|refine tw_ ?_|(refine ta_ ?_;intro _)|((fail_if_success (refine ybi rfl ?_));refine ybj rfl ?_ ?_<;>(intro ht;rw [ht];first|replace ht := oet_ ht|replace ht := oef_ ht|skip))|(refine ych ?_;first|(refine ybw rfl ?_ ?_<;>intro ht)|(refine ybx rfl ?_ ?_<;>intro ht)))
  (refine yco (ycp Tryd.func59 rfl (by kernel_rfl) rfl) (bConcat_sp sv parts h hs hp (by omega) hpl) rfl rfl rfl ?_ ?_ ?_; (· (exact to_)); (· intro _ _ hle; (exact to_)); intro x px hle)
  repeat' (first|refine tw_ ?_|(refine ta_ ?_;intro _)|((fail_if_success (refine ybi rfl ?_));refine ybj rfl ?_ ?_<;>(intro ht;rw [ht];first|replace ht := oet_ ht|replace ht := oef_ ht|skip))|(refine ych ?_;first|(refine ybw rfl ?_ ?_<;>intro ht)|(refine ybx rfl ?_ ?_<;>intro ht)))
  rename_i b2
  generalize hbb : flatB parts parts.length = b at hlen ⊢
  refine rx_rowsl 0 rfl ?_
  rintro ad cap rfl
  have hw : IntKind.u64.wrap (b.length : Int) = (b.length : Int) := wrap_u64 (by omega) (by omega)
  repeat' (first|(refine ycf ?_;apply ybk;(·first|(first|(refine qv_convert_int' rfl hw)));(·rfl);(·rfl))|refine t1_ ?_|(refine ta_ ?_;intro _)|((fail_if_success (refine ybi rfl ?_));refine ybj rfl ?_ ?_<;>(intro ht;rw [ht];first|replace ht := oet_ ht|replace ht := oef_ ht|skip))|(refine ych ?_;first|(refine ybw rfl ?_ ?_<;>intro ht)|(refine ybx rfl ?_ ?_<;>intro ht)))
  refine rx_append (sz := 1) 1 rfl rfl rfl (yaz 0 rfl) rfl (bcs_one [128]) rfl (by omega) (by unfold maxLen; omega) (by omega) rfl rfl rfl ybf (fun _ => ybf) ?_
  intro v1 _
  repeat' (first|refine tw_ ?_|(refine ta_ ?_;intro _)|((fail_if_success (refine ybi rfl ?_));refine ybj rfl ?_ ?_<;>(intro ht;rw [ht];first|replace ht := oet_ ht|replace ht := oef_ ht|skip))|(refine ych ?_;first|(refine ybw rfl ?_ ?_<;>intro ht)|(refine ybx rfl ?_ ?_<;>intro ht)))
  refine cx_loop (X := Nat × Value) (fun y => [(2, .pointer (some ⟨b2, 0, none⟩)), (3, y.2), (4, .int .u64 (b.length : Nat))]) (fun _ => h) (fun y => [rowB y.2 (b ++ [128] ++ List.replicate y.1 0), Res.blk b2 (.cells (bcs (List.replicate 32 0)).toArray 25 (0, 0))])
    (fun y => y.1 ≤ padZ b.length) (fun y => padZ b.length - y.1) (0, v1) (Nat.zero_le _) ts_ (fun _ s => ?_) ?_
  · dsimp only
    rw [List.replicate_zero, List.append_nil]
    unfold rowB
    rw [List.length_append, bcs_app]
    exact s.tl
  rintro ⟨k, v⟩ hk
  replace hk : k ≤ padZ b.length := hk
  dsimp only
  have hpz : padZ b.length < 64 := by unfold padZ; omega
  have hpm : (b.length + 1 + padZ b.length) % 64 = 56 := by unfold padZ; omega
  have hln : (b ++ [128] ++ List.replicate k (0 : Int)).length = b.length + 1 + k := by simp; omega
  by_cases hkz : k < padZ b.length
  · have hrem : (((b ++ [128] ++ List.replicate k (0 : Int)).length : Nat) : Int).tmod 64 = (((b.length + 1 + k) % 64 : Nat) : Int) := by rw [hln]; rfl
    have hne : (b.length + 1 + k) % 64 ≠ 56 := by unfold padZ at hkz; omega
    refine cx_rowsl 0 rfl ?_
    rintro ad1 cap1 rfl
    repeat' (first|(refine ycf ?_;apply ybk;(·first|(first|(refine qv_remr rfl rfl (by decide) hrem)|exact tk_));(·rfl);(·rfl))|refine t1_ ?_|(refine ta_ ?_;intro _)|((fail_if_success (refine ybi rfl ?_));refine ybj rfl ?_ ?_<;>(intro ht;rw [ht];first|replace ht := oet_ ht|replace ht := oef_ ht|skip))|(refine ych ?_;first|(refine ybw rfl ?_ ?_<;>intro ht)|(refine ybx rfl ?_ ?_<;>intro ht)))
    refine rx_append (sz := 1) 1 rfl rfl rfl (yaz 0 rfl) rfl (bcs_one [0]) rfl (by omega) (by unfold maxLen; omega) (by omega) rfl rfl rfl ybf (fun _ => ybf) ?_
    intro v2 _
    repeat' (first|refine tw_ ?_|(refine ta_ ?_;intro _)|((fail_if_success (refine ybi rfl ?_));refine ybj rfl ?_ ?_<;>(intro ht;rw [ht];first|replace ht := oet_ ht|replace ht := oef_ ht|skip))|(refine ych ?_;first|(refine ybw rfl ?_ ?_<;>intro ht)|(refine ybx rfl ?_ ?_<;>intro ht)))
    refine nx_round (k + 1, v2) (by show k + 1 ≤ _; omega) (by show padZ b.length - (k + 1) < padZ b.length - k; omega) ts_ (fun _ s => ?_)
    dsimp only
    rw [List.replicate_succ', ← List.append_assoc]
    unfold rowB
    rw [List.length_append, bcs_app]
    exact s.tl
  · have ek : k = padZ b.length := by omega
    subst ek
    have hrem : (((b ++ [128] ++ List.replicate (padZ b.length) (0 : Int)).length : Nat) : Int).tmod 64 = 56 := by
      rw [hln, show (((b.length + 1 + padZ b.length : Nat) : Int)).tmod 64 = (((b.length + 1 + padZ b.length) % 64 : Nat) : Int) from rfl, hpm]
      rfl
    refine cx_rowsl 0 rfl ?_
    rintro ad1 cap1 rfl
    repeat' (first|(refine ycf ?_;apply ybk;(·first|(first|(refine qv_remr rfl rfl (by decide) hrem)|exact tk_));(·rfl);(·rfl))|refine t1_ ?_|(refine ta_ ?_;intro _)|((fail_if_success (refine ybi rfl ?_));refine ybj rfl ?_ ?_<;>(intro ht;rw [ht];first|replace ht := oet_ ht|replace ht := oef_ ht|skip))|(refine ych ?_;first|(refine ybw rfl ?_ ?_<;>intro ht)|(refine ybx rfl ?_ ?_<;>intro ht)))
    have hsh : IntKind.u64.wrap ((b.length : Int) * 2 ^ 3) = 8 * (b.length : Int) := by
      have e : (2 : Int) ^ 3 = 8 := by decide
      rw [e, Int.mul_comm]
      exact wrap_u64 (by omega) (by omega)
    repeat' (first|(refine ycf ?_;apply ybk;(·first|(first|(refine qv_shl (j := 3) rfl rfl (by decide) hsh)));(·rfl);(·rfl))|refine t1_ ?_|(refine ta_ ?_;intro _)|((fail_if_success (refine ybi rfl ?_));refine ybj rfl ?_ ?_<;>(intro ht;rw [ht];first|replace ht := oet_ ht|replace ht := oef_ ht|skip))|(refine ych ?_;first|(refine ybw rfl ?_ ?_<;>intro ht)|(refine ybx rfl ?_ ?_<;>intro ht)))
    have hp8 := putLow_len 8 (8 * (b.length : Int))
    (refine yco (ycp Tryd.func40 rfl (by kernel_rfl) rfl) (PutHigh_sp (8 * (b.length : Int)) 8 ⟨by omega, by omega⟩ (by omega) (by omega) h) rfl rfl rfl ?_ ?_ ?_; (· (exact to_)); (· intro _ _ hle; (exact to_)); intro x px hle)
    refine rx_rowform 0 rfl (fun _ h1 _ => (by rw [List.length_reverse] at h1; omega)) ?_
    rintro g cap2 rfl
    repeat' (first|(refine ycf ?_;apply ybk;(·first|(first|(refine qv_shl (j := 3) rfl rfl (by decide) hsh)));(·rfl);(·rfl))|refine t1_ ?_|(refine ta_ ?_;intro _)|((fail_if_success (refine ybi rfl ?_));refine ybj rfl ?_ ?_<;>(intro ht;rw [ht];first|replace ht := oet_ ht|replace ht := oef_ ht|skip))|(refine ych ?_;first|(refine ybw rfl ?_ ?_<;>intro ht)|(refine ybx rfl ?_ ?_<;>intro ht)))
    refine rx_append (sz := 1) 1 rfl rfl rfl (row_cells 0 rfl) (by rw [bcs_len, Nat.mul_one]) (bcs_one _) rfl (by omega) (by unfold maxLen; rw [List.length_reverse]; omega) (by rw [List.length_reverse]; omega) rfl rfl rfl ybf (fun _ => ybf) ?_
    intro v2 _
    refine rx_perm (perm_at (k := 1) rfl) ?_
    refine rx_persist rfl fun h1 hle1 hsp => ?_
    have hP : Bs8 h1 v2 (padF b) := by
      unfold Bs8
      have e : (padF b).length = (b ++ [128] ++ List.replicate (padZ b.length) (0 : Int)).length + (putLow 8 (8 * (b.length : Int))).reverse.length := by unfold padF; rw [List.length_append]; rfl
      rw [e, show bcs (padF b) = bcs (b ++ [128] ++ List.replicate (padZ b.length) (0 : Int)) ++ bcs (putLow 8 (8 * (b.length : Int))).reverse by unfold padF; rw [bcs_app]; rfl]
      exact hsp
    have hg1 := hg.mono hle1
    obtain ⟨_, eS, fzS, hgS⟩ := id hg1
    have hcS : ∀ L, Cells h1 L ⟨0, 0, none⟩ (up32 shH) := fun L => cells_view (cs := (up32 shH).toArray) hgS
    have h8 : shH.length = 8 := rfl
    have hpl2 := padF_len b
    have hpb : Bytes (padF b) := padF_bytes (by rw [← hbb]; exact flatB_bytes hby)
    have e0 : blocksF (padF b) 0 = shH := rfl
    generalize hpF : padF b = p at hP hpl2 hpb e0 ⊢
    repeat' (first|(refine ycf ?_;apply ybk;(·first|(apply yad;(·rfl);(·exact hcS _);(·rfl)));(·rfl);(·rfl))|(refine ybg 0 rfl rfl rfl (w_sz h8) (w_fit h8 (by rfl)) (w_one shH) (ybh (w_all h8 (by rfl))) rfl rfl ?_ ?_ ?_;(·(exact to_));(·(exact to_)))|refine t1_ ?_|(refine ta_ ?_;intro _)|((fail_if_success (refine ybi rfl ?_));refine ybj rfl ?_ ?_<;>(intro ht;rw [ht];first|replace ht := oet_ ht|replace ht := oef_ ht|skip))|(refine ych ?_;first|(refine ybw rfl ?_ ?_<;>intro ht)|(refine ybx rfl ?_ ?_<;>intro ht)))
    rename_i b5
    obtain ⟨_, adp, capp, rfl, hcapp, _⟩ := id hP
    refine cx_loop (X := Nat × Option Addr × Nat) (fun y => [(2, .pointer (some ⟨b2, 0, none⟩)), (3, .slice y.2.1 (p.length - 64 * y.1) y.2.2), (5, .pointer (some ⟨b5, 0, none⟩))]) (fun _ => h1)
      (fun y => [Res.blk b5 (.cells (up32 (blocksF p y.1)).toArray 119 (0, 0)), Res.blk b2 (.cells (bcs (List.replicate 32 0)).toArray 25 (0, 0))])
      (fun y => 64 * y.1 ≤ p.length ∧ Bs8 h1 (.slice y.2.1 (p.length - 64 * y.1) y.2.2) (p.drop (64 * y.1))) (fun y => p.length - 64 * y.1) (0, adp, capp) ⟨by omega, by simpa using hP⟩ ts_ (fun _ s => ?_) ?_
    · dsimp only
      rw [e0]
      exact (s.perm (List.Perm.swap _ _ _)).tl
    rintro ⟨k, ad3, cap3⟩ ⟨hk, hv⟩
    dsimp only at hk hv ⊢
    have hbl := blocksF_len p k
    have hlen : (p.drop (64 * k)).length = p.length - 64 * k := by simp
    by_cases hkl : 64 * k < p.length
    · have hge : 64 ≤ p.length - 64 * k := by omega
      have hv2 : Bs8 h1 (.slice ad3 (p.drop (64 * k)).length cap3) (p.drop (64 * k)) := by rw [hlen]; exact hv
      have hT : Bs8 h1 (.slice ad3 64 cap3) ((p.drop (64 * k)).take 64) := by
        have e64 : ((p.drop (64 * k)).take 64).length = 64 := by simp; omega
        have := sc_take hv2 (j := 64) (by omega)
        unfold Bs8
        rw [e64]
        simpa [bcs] using this
      have hD : Bs8 h1 (.slice (cutF ad3 cap3 64 1) (p.length - 64 * (k + 1)) (cap3 - 64)) (p.drop (64 * (k + 1))) := by
        have := sc_drop hv2 (by decide) (j := 64) (by omega)
        have e1 : (p.drop (64 * (k + 1))).length = p.length - 64 * (k + 1) := by simp
        unfold Bs8
        rw [e1]
        have e2 : bcs (p.drop (64 * (k + 1))) = (bcs (p.drop (64 * k))).drop (64 * 1) := by simp [bcs, List.drop_drop]; congr 1
        rw [e2, show p.length - 64 * (k + 1) = (p.drop (64 * k)).length - 64 by rw [hlen]; omega]
        exact this
      have M := mix_sp (blocksF p k) _ _ hbl (bytes_take (bytes_drop hpb (64 * k)) 64) (by simp; omega) h1 hT hg1
      rw [show mixF (blocksF p k) ((p.drop (64 * k)).take 64) = blocksF p (k + 1) from rfl] at M
      have hbl2 := blocksF_len p (k + 1)
      generalize hnx : blocksF p (k + 1) = nx at M hbl2
      generalize blocksF p k = cu at M hbl
      have hcap3 : p.length - 64 * k ≤ cap3 := by
        obtain ⟨_, _, cc, e7, hc, _⟩ := id hv2
        injection e7 with _ _ e9
        omega
      repeat' (first|(refine ycf ?_;apply ybk;(·first|(first|exact tk_|(apply yad;(·rfl);(·exact yaz 0 rfl);(·exact w_sz hbl))|(apply qv_slice_to;(·rfl);(·rfl);(·omega);(·omega))|(refine qv_slice_from (i := 64) rfl rfl (by omega))));(·rfl);(·rfl))|(refine ybg 0 rfl rfl rfl (w_sz hbl2) (w_fit hbl2 (w_sz hbl)) (w_one nx) (ybh (w_all hbl2 (w_sz hbl))) rfl rfl ?_ ?_ ?_;(·(exact to_));(·(exact to_)))|refine t1_ ?_|(refine ta_ ?_;intro _)|((fail_if_success (refine ybi rfl ?_));refine ybj rfl ?_ ?_<;>(intro ht;rw [ht];first|replace ht := oet_ ht|replace ht := oef_ ht|skip))|(refine ych ?_;first|(refine ybw rfl ?_ ?_<;>intro ht)|(refine ybx rfl ?_ ?_<;>intro ht)))
      refine cx_region_draw' rfl (by kernel_rfl) ?_
      repeat' (refine ycf ?_;(first|(first|(apply ybm;(·(first|(first|exact tk_|(apply yad;(·rfl);(·exact yaz 0 rfl);(·exact w_sz hbl))|(apply qv_slice_to;(·rfl);(·rfl);(·omega);(·omega))|(refine qv_slice_from (i := 64) rfl rfl (by omega)))|exact tq_));(·rfl);(·rfl);(·(exact th_)))|refine ybl rfl rfl ?_|((fail_if_success (refine ybi rfl ?_));refine ybj rfl ?_ ?_<;>(intro ht;rw [ht];first|replace ht := oet_ ht|replace ht := oef_ ht|skip))|(refine tb_ ?_ ?_ ?_;(·(exact to_));(·intro _;(exact to_));intro _)|(first|(refine ybg 0 rfl rfl rfl (w_sz hbl2) (w_fit hbl2 (w_sz hbl)) (w_one nx) (ybh (w_all hbl2 (w_sz hbl))) rfl rfl ?_ ?_ ?_;(·(exact to_));(·(exact to_)))|(refine tqs_ ?_ ?_ ?_;(·(exact to_));(·(exact to_))))|(apply ybn;(·(first|(first|exact tk_|(apply yad;(·rfl);(·exact yaz 0 rfl);(·exact w_sz hbl))|(apply qv_slice_to;(·rfl);(·rfl);(·omega);(·omega))|(refine qv_slice_from (i := 64) rfl rfl (by omega)))|exact tq_));(·rfl);(·rfl);(·rfl);(·(exact to_))))|refine ycg ?_))
      (refine ycn (ycp Tryd.func60 rfl (by kernel_rfl) rfl) (M) rfl rfl rfl ?_ ?_; (· (exact to_)))
      repeat' (refine ycf ?_;(first|(first|(apply ybm;(·(first|(first|exact tk_|(apply yad;(·rfl);(·exact yaz 0 rfl);(·exact w_sz hbl))|(apply qv_slice_to;(·rfl);(·rfl);(·omega);(·omega))|(refine qv_slice_from (i := 64) rfl rfl (by omega)))|exact tq_));(·rfl);(·rfl);(·(exact th_)))|refine ybl rfl rfl ?_|((fail_if_success (refine ybi rfl ?_));refine ybj rfl ?_ ?_<;>(intro ht;rw [ht];first|replace ht := oet_ ht|replace ht := oef_ ht|skip))|(refine tb_ ?_ ?_ ?_;(·(exact to_));(·intro _;(exact to_));intro _)|(first|(refine ybg 0 rfl rfl rfl (w_sz hbl2) (w_fit hbl2 (w_sz hbl)) (w_one nx) (ybh (w_all hbl2 (w_sz hbl))) rfl rfl ?_ ?_ ?_;(·(exact to_));(·(exact to_)))|(refine tqs_ ?_ ?_ ?_;(·(exact to_));(·(exact to_))))|(apply ybn;(·(first|(first|exact tk_|(apply yad;(·rfl);(·exact yaz 0 rfl);(·exact w_sz hbl))|(apply qv_slice_to;(·rfl);(·rfl);(·omega);(·omega))|(refine qv_slice_from (i := 64) rfl rfl (by omega)))|exact tq_));(·rfl);(·rfl);(·rfl);(·(exact to_))))|refine ycg ?_))
      repeat' (first|(refine ycf ?_;apply ybk;(·first|(first|exact tk_|(apply yad;(·rfl);(·exact yaz 0 rfl);(·exact w_sz hbl))|(apply qv_slice_to;(·rfl);(·rfl);(·omega);(·omega))|(refine qv_slice_from (i := 64) rfl rfl (by omega))));(·rfl);(·rfl))|refine t1_ ?_|(refine ta_ ?_;intro _)|((fail_if_success (refine ybi rfl ?_));refine ybj rfl ?_ ?_<;>(intro ht;rw [ht];first|replace ht := oet_ ht|replace ht := oef_ ht|skip))|(refine ych ?_;first|(refine ybw rfl ?_ ?_<;>intro ht)|(refine ybx rfl ?_ ?_<;>intro ht)))
      refine nx_round (k + 1, cutF ad3 cap3 64 1, cap3 - 64) ⟨by show 64 * (k + 1) ≤ p.length; omega, hD⟩ (by show p.length - 64 * (k + 1) < p.length - 64 * k; omega) ?_ (fun _ s => by dsimp only; rw [hnx]; exact s)
      dsimp only
      rw [show p.length - 64 * (k + 1) = p.length - 64 * k - 64 by omega]
      exact ts_
    · have ek : k = p.length / 64 := by omega
      subst ek
      generalize hR : blocksF p (p.length / 64) = R at hbl ⊢
      repeat' (first|(refine ycf ?_;apply ybk;(·first|(first|exact tk_|(apply yad;(·rfl);(·exact yaz 0 rfl);(·exact w_sz hbl))));(·rfl);(·rfl))|refine t1_ ?_|(refine ta_ ?_;intro _)|((fail_if_success (refine ybi rfl ?_));refine ybj rfl ?_ ?_<;>(intro ht;rw [ht];first|replace ht := oet_ ht|replace ht := oef_ ht|skip))|(refine ych ?_;first|(refine ybw rfl ?_ ?_<;>intro ht)|(refine ybx rfl ?_ ?_<;>intro ht)))
      refine cx_row 5 1 ?_
      refine cx_loop (X := Nat × Value) (fun y => [(2, .pointer (some ⟨b2, 0, none⟩)), (6, y.2), (39, .agg (up32 R).toArray), (40, .int .i64 (y.1 : Nat))]) (fun _ => h1)
        (fun y => [rowB y.2 ((R.take y.1).flatMap fun x => num4 x.toNat), Res.blk b5 (.cells (up32 R).toArray 119 (0, 0)), Res.blk b2 (.cells (bcs (List.replicate 32 0)).toArray 25 (0, 0))])
        (fun y => y.1 ≤ 8) (fun y => 8 - y.1) (0, .slice none 0 0) (Nat.zero_le _) ts_ (fun _ s => s) ?_
      rintro ⟨i, vo⟩ hi
      replace hi : i ≤ 8 := hi
      dsimp only
      have hfl : ((R.take i).flatMap fun x => num4 x.toNat).length = 4 * i := by
        have : ∀ l : List W32, (l.flatMap fun x => num4 x.toNat).length = 4 * l.length := fun l => by
          induction l with
          | nil => rfl
          | cons a l ih => rw [List.flatMap_cons, List.length_append, num4_len, ih, List.length_cons]; omega
        rw [this, List.length_take]; omega
      by_cases hi8 : i < 8
      · have hgx := getD_at (l := R) (i := i) (by omega)
        have hfs : ((R.take (i + 1)).flatMap fun x => num4 x.toNat) = ((R.take i).flatMap fun x => num4 x.toNat) ++ num4 (R.getD i 0).toNat := by
          rw [flat_succ (by omega : i < R.length)]
          congr 3
          simp [List.getD_eq_getElem?_getD, hbl, hi8]
        generalize R.getD i 0 = xi at hgx hfs
        have hidx : (up32 R).toArray[((i : Int)).toNat * 1]? = some (v32 xi) := by
          rw [Nat.mul_one, Int.toNat_natCast, List.getElem?_toArray]
          exact up32_at hgx
        have hp4 := putLow_len 4 (xi.toNat : Int)
        have hx32 := xi.isLt
        repeat' (first|(refine ycf ?_;apply ybk;(·first|(first|exact tk_|(apply qv_index;(·rfl);(·rfl);(·omega);(·omega);(·exact hidx))|(refine qv_widen (m' := 64) rfl rfl rfl (by omega))));(·rfl);(·rfl))|refine t1_ ?_|(refine ta_ ?_;intro _)|((fail_if_success (refine ybi rfl ?_));refine ybj rfl ?_ ?_<;>(intro ht;rw [ht];first|replace ht := oet_ ht|replace ht := oef_ ht|skip))|(refine ych ?_;first|(refine ybw rfl ?_ ?_<;>intro ht)|(refine ybx rfl ?_ ?_<;>intro ht)))
        (refine yco (ycp Tryd.func40 rfl (by kernel_rfl) rfl) (PutHigh_sp (xi.toNat : Int) 4 ⟨by omega, by omega⟩ (by omega) (by omega) h1) rfl rfl rfl ?_ ?_ ?_; (· (exact to_)); (· intro _ _ hle; (exact to_)); intro x px hle)
        refine rx_rowform 0 rfl (fun _ h1 _ => (by rw [List.length_reverse] at h1; omega)) ?_
        rintro g4 cap4 rfl
        repeat' (first|refine tw_ ?_|(refine ta_ ?_;intro _)|((fail_if_success (refine ybi rfl ?_));refine ybj rfl ?_ ?_<;>(intro ht;rw [ht];first|replace ht := oet_ ht|replace ht := oef_ ht|skip))|(refine ych ?_;first|(refine ybw rfl ?_ ?_<;>intro ht)|(refine ybx rfl ?_ ?_<;>intro ht)))
        refine rx_append (sz := 1) 1 rfl rfl rfl (row_cells 0 rfl) (by rw [bcs_len, Nat.mul_one]) (bcs_one _) rfl (by omega) (by unfold maxLen; rw [List.length_reverse]; omega) (by rw [List.length_reverse]; omega) rfl rfl rfl ybf (fun _ => ybf) ?_
        intro v5 _
        repeat' (first|refine tw_ ?_|(refine ta_ ?_;intro _)|((fail_if_success (refine ybi rfl ?_));refine ybj rfl ?_ ?_<;>(intro ht;rw [ht];first|replace ht := oet_ ht|replace ht := oef_ ht|skip))|(refine ych ?_;first|(refine ybw rfl ?_ ?_<;>intro ht)|(refine ybx rfl ?_ ?_<;>intro ht)))
        refine nx_round (i + 1, v5) (by show i + 1 ≤ 8; omega) (by show 8 - (i + 1) < 8 - i; omega) ts_ (fun _ s => ?_)
        dsimp only
        rw [hfs]
        unfold rowB
        rw [List.length_append, bcs_app]
        exact s.tl
      · have ei : i = 8 := by omega
        subst ei
        rw [List.take_of_length_le (by omega)] at hfl ⊢
        repeat' (first|(refine ycf ?_;apply ybk;(·first|(exact tk_));(·rfl);(·rfl))|refine t1_ ?_|(refine ta_ ?_;intro _)|((fail_if_success (refine ybi rfl ?_));refine ybj rfl ?_ ?_<;>(intro ht;rw [ht];first|replace ht := oet_ ht|replace ht := oef_ ht|skip))|(refine ych ?_;first|(refine ybw rfl ?_ ?_<;>intro ht)|(refine ybx rfl ?_ ?_<;>intro ht)))
        refine rx_rowform 0 rfl (fun _ h1 _ => (by omega)) ?_
        rintro g6 cap6 rfl
        have hsha : shaF b = R.flatMap fun x => num4 x.toNat := by
          unfold shaF
          rw [hpF, hR]
        rw [hsha]
        generalize (R.flatMap fun x => num4 (x.toNat : Int)) = out at hfl ⊢
        have hol : (bcs out).length = 32 := by rw [bcs_len]; omega
        repeat' (first|(refine ycf ?_;apply ybk;(·first|(first|(refine qv_arrptr rfl (by omega))|(apply yad;(·rfl);(·exact row_cells 0 rfl);(·exact hol))));(·rfl);(·rfl))|(refine ybg 2 rfl rfl rfl (by show (bcs out).toArray.size = 32;simpa using hol) (by show 0 + (bcs out).toArray.size ≤ _;simp [bcs_len];omega) (List.all_eq_true.2 (bcs_one out)) (ybh (by show (bcs out).length = _;rw [hol];rfl)) rfl rfl ?_ ?_ ?_;(·(exact to_));(·(exact to_)))|refine t1_ ?_|(refine ta_ ?_;intro _)|((fail_if_success (refine ybi rfl ?_));refine ybj rfl ?_ ?_<;>(intro ht;rw [ht];first|replace ht := oet_ ht|replace ht := oef_ ht|skip))|(refine ych ?_;first|(refine ybw rfl ?_ ?_<;>intro ht)|(refine ybx rfl ?_ ?_<;>intro ht)))
        exact nx_ret1 rfl (rv_cells rfl (yaz 2 rfl) (by show (bcs out).toArray.toList.length = 32; simpa using hol)) (fun w' s' => ⟨rfl, s'.nil.base⟩)
end Go.Proofs.YtgeepceieckooaaDoor
end

section
namespace Go.Proofs.YtgeepceieckooaaDoor
open Go Go.Ck
set_option maxRecDepth 100000
set_option maxHeartbeats 4000000
set_option linter.unusedVariables false
theorem Mul64_sp (h : View) (w : World) (s : St ⟨w, h, []⟩ h [] w) :
    Calls Tryd.prog 85 [.int .u64 1, .int .u64 64].toArray w fun e w' => e = .returned (.tuple #[.int .u64 0, .int .u64 64]) ∧ St ⟨w, h, []⟩ h [] w' := by
  refine calls_enter Tryd.func85 rfl Tryd.ntmps85 rfl s ?_
  repeat' (first|(refine ycf ?_;apply ybk;(·first|(refine qv_binc rfl rfl (fun _ => rfl) (fun _ => rfl)));(·rfl);(·rfl))|refine t1_ ?_|(refine ta_ ?_;intro _)|((fail_if_success (refine ybi rfl ?_));refine ybj rfl ?_ ?_<;>(intro ht;rw [ht];first|replace ht := oet_ ht|replace ht := oef_ ht|skip))|(refine ych ?_;first|(refine ybw rfl ?_ ?_<;>intro ht)|(refine ybx rfl ?_ ?_<;>intro ht)))
  exact nx_ret2 rfl (rv_tmp rfl) (rv_tmp rfl) (fun w' s' => ⟨rfl, s'⟩)
theorem Mul_sp (h : View) (w : World) (s : St ⟨w, h, []⟩ h [] w) :
    Calls Tryd.prog 75 [.int .u64 1, .int .u64 64].toArray w fun e w' => e = .returned (.tuple #[.int .u64 0, .int .u64 64]) ∧ St ⟨w, h, []⟩ h [] w' := by
  refine calls_enter Tryd.func75 rfl Tryd.ntmps75 rfl s ?_
  repeat' (first|(refine ycf ?_;apply ybk;(·first|(refine qv_convert_int' rfl rfl));(·rfl);(·rfl))|refine t1_ ?_|(refine ta_ ?_;intro _)|((fail_if_success (refine ybi rfl ?_));refine ybj rfl ?_ ?_<;>(intro ht;rw [ht];first|replace ht := oet_ ht|replace ht := oef_ ht|skip))|(refine ych ?_;first|(refine ybw rfl ?_ ?_<;>intro ht)|(refine ybx rfl ?_ ?_<;>intro ht)))
  (refine ycn (ycp Tryd.func85 rfl (by kernel_rfl) rfl) (Mul64_sp h) rfl rfl rfl ?_ ?_; (· (exact to_)))
  repeat' (first|(refine ycf ?_;apply ybk;(·first|(refine qv_convert_int' rfl rfl));(·rfl);(·rfl))|refine t1_ ?_|(refine ta_ ?_;intro _)|((fail_if_success (refine ybi rfl ?_));refine ybj rfl ?_ ?_<;>(intro ht;rw [ht];first|replace ht := oet_ ht|replace ht := oef_ ht|skip))|(refine ych ?_;first|(refine ybw rfl ?_ ?_<;>intro ht)|(refine ybx rfl ?_ ?_<;>intro ht)))
  exact nx_ret2 rfl (rv_tmp rfl) (rv_tmp rfl) (fun w' s' => ⟨rfl, s'⟩)
theorem Repeat_sp (v : Value) (x : Int) (hx : 0 ≤ x ∧ x < 256) (h : View) (hb : Bs8 h v [x]) (w : World) (s : St ⟨w, h, []⟩ h [] w) :
    Calls Tryd.prog 61 [v, .int .i64 64].toArray w fun e w' => ∃ y : View × Value, e = .returned y.2 ∧ St ⟨w, h, []⟩ y.1 [] w' ∧ Bs8 y.1 y.2 (List.replicate 64 x) := by
  obtain ⟨_, ad, cap, rfl, hcap, _⟩ := id hb
  refine calls_enter Tryd.func61 rfl Tryd.ntmps61 rfl s ?_
  repeat' (first|(refine ycf ?_;apply ybk;(·first|(first|exact tk_|(refine qv_convert_int' rfl rfl)|(refine qv_binc rfl rfl (fun _ => rfl) (fun _ => rfl))));(·rfl);(·rfl))|refine t1_ ?_|(refine ta_ ?_;intro _)|((fail_if_success (refine ybi rfl ?_));refine ybj rfl ?_ ?_<;>(intro ht;rw [ht];first|replace ht := oet_ ht|replace ht := oef_ ht|skip))|(refine ych ?_;first|(refine ybw rfl ?_ ?_<;>intro ht)|(refine ybx rfl ?_ ?_<;>intro ht)))
  (refine ycn (ycp Tryd.func75 rfl (by kernel_rfl) rfl) (Mul_sp h) rfl rfl rfl ?_ ?_; (· (exact to_)))
  repeat' (first|(refine ycf ?_;apply ybk;(·first|(first|exact tk_|(refine qv_convert_int' rfl rfl)|(refine qv_binc rfl rfl (fun _ => rfl) (fun _ => rfl))));(·rfl);(·rfl))|refine t1_ ?_|(refine ta_ ?_;intro _)|((fail_if_success (refine ybi rfl ?_));refine ybj rfl ?_ ?_<;>(intro ht;rw [ht];first|replace ht := oet_ ht|replace ht := oef_ ht|skip))|(refine ych ?_;first|(refine ybw rfl ?_ ?_<;>intro ht)|(refine ybx rfl ?_ ?_<;>intro ht)))
  refine rx_noZero (T := 22) (ps := #[3]) (m := 64) Tryd.func76 (by kernel_rfl) (by kernel_rfl) (by kernel_rfl) (by kernel_rfl) rfl (by omega) rfl rfl rfl ybf (fun _ _ => ybf) ?_
  intro g cs hcs1 hcs2
  repeat' (first|(refine ycf ?_;apply ybk;(·first|(first|exact tk_|(refine qv_slice_max (i := 64) (m := 64) rfl rfl rfl (by omega) (by omega))));(·rfl);(·rfl))|refine t1_ ?_|(refine ta_ ?_;intro _)|((fail_if_success (refine ybi rfl ?_));refine ybj rfl ?_ ?_<;>(intro ht;rw [ht];first|replace ht := oet_ ht|replace ht := oef_ ht|skip))|(refine ych ?_;first|(refine ybw rfl ?_ ?_<;>intro ht)|(refine ybx rfl ?_ ?_<;>intro ht)))
  obtain ⟨bb, ob, rfl⟩ := hb.ad (by simp) (by omega)
  refine rx_copy (news := [.int .u8 x]) 0 rfl rfl rfl hb.cells rfl (by show 0 + 1 ≤ cs.size; omega) (fun u hu => by rw [List.mem_singleton.1 hu]; rfl) rfl rfl rfl rfl ybf ybf ?_
  have hc1 : (spl cs.toList 0 [.int .u8 x]).length = cs.size ∧ (spl cs.toList 0 [.int .u8 x]).take 1 = List.replicate 1 (.int .u8 x) := by
    constructor
    · rw [spl_len (by simp; omega)]; simp
    · simp [spl]
  repeat' (first|(refine ycf ?_;apply ybk;(·first|(exact tk_));(·rfl);(·rfl))|refine t1_ ?_|(refine ta_ ?_;intro _)|((fail_if_success (refine ybi rfl ?_));refine ybj rfl ?_ ?_<;>(intro ht;rw [ht];first|replace ht := oet_ ht|replace ht := oef_ ht|skip))|(refine ych ?_;first|(refine ybw rfl ?_ ?_<;>intro ht)|(refine ybx rfl ?_ ?_<;>intro ht)))
  refine cx_loop (X := Nat × List Value) (fun y => [(7, .int .i64 (64 : Nat)), (8, .int .i64 (64 : Nat)), (9, .slice (some ⟨g, 0, none⟩) 64 64), (10, .int .i64 (y.1 : Nat))]) (fun _ => h) (fun y => [Res.blk g (.cells y.2.toArray 5 (0, 0))])
    (fun y => 1 ≤ y.1 ∧ y.1 ≤ 64 ∧ y.2.length = cs.size ∧ y.2.take y.1 = List.replicate y.1 (.int .u8 x)) (fun y => 64 - y.1) (1, spl cs.toList 0 [.int .u8 x]) ⟨by omega, by omega, hc1⟩ ts_ (fun _ s => s) ?_
  rintro ⟨k, c⟩ ⟨hk1, hk64, hcl, hct⟩
  dsimp only at hk1 hk64 hcl hct ⊢
  by_cases hkl : k < 64
  · have hmn : (if ((64 : Nat) : Int) < (k : Int) then ((64 : Nat) : Int) else (k : Int)) = (k : Int) := by rw [if_neg (by omega)]
    generalize hm : min k (64 - k) = m
    have hcut : (Value.slice (some ⟨g, 0, none⟩) k 64) = .slice (some ⟨g, 0, none⟩) (k : Int).toNat 64 := by rw [Int.toNat_natCast]
    repeat' (first|(refine ycf ?_;apply ybk;(·first|(first|exact tk_|(refine qv_min' rfl rfl hmn)|(refine qv_slice_fromz (i := k) rfl rfl (by omega) (by omega))|(rw [hcut];apply qv_slice_to;(·rfl);(·rfl);(·omega);(·omega))|(apply qv_slice_to;(·rfl);(·rfl);(·omega);(·omega))));(·rfl);(·rfl))|refine t1_ ?_|(refine ta_ ?_;intro _)|((fail_if_success (refine ybi rfl ?_));refine ybj rfl ?_ ?_<;>(intro ht;rw [ht];first|replace ht := oet_ ht|replace ht := oef_ ht|skip))|(refine ych ?_;first|(refine ybw rfl ?_ ?_<;>intro ht)|(refine ybx rfl ?_ ?_<;>intro ht)))
    have hrl : (List.replicate m (Value.int .u8 x)).length = m := by simp
    have hsrc : Cells h [Res.blk g (.cells c.toArray 5 (0, 0))] ⟨g, 0, none⟩ (List.replicate m (Value.int .u8 x)) := by
      have h1 := (yaz (h := h) (L := [Res.blk g (.cells c.toArray 5 (0, 0))]) 0 rfl).take m
      have e : c.toArray.toList.take m = List.replicate m (Value.int .u8 x) := by
        have : c.take m = (c.take k).take m := by rw [List.take_take]; congr 1; omega
        show c.take m = _
        rw [this, hct, List.take_replicate]
        congr 1
        omega
      rw [e] at h1
      exact h1
    refine cx_region_draw [] rfl (by kernel_rfl) ?_
    repeat' (refine ycf ?_;(first|(first|(apply ybm;(·(first|(first|exact tk_|(refine qv_min' rfl rfl hmn)|(refine qv_slice_fromz (i := k) rfl rfl (by omega) (by omega))|(rw [hcut];apply qv_slice_to;(·rfl);(·rfl);(·omega);(·omega))|(apply qv_slice_to;(·rfl);(·rfl);(·omega);(·omega)))|exact tq_));(·rfl);(·rfl);(·(exact fun _ s => Hd.sub s (Le.refl _) (fun r hr => nomatch hr))))|refine ybl rfl rfl ?_|((fail_if_success (refine ybi rfl ?_));refine ybj rfl ?_ ?_<;>(intro ht;rw [ht];first|replace ht := oet_ ht|replace ht := oef_ ht|skip))|(refine tb_ ?_ ?_ ?_;(·(first|exact ybf|(refine .inl ?_;(exact fun _ s => Hd.sub s (Le.refl _) (fun r hr => nomatch hr)))|exact to_));(·intro _;(first|exact ybf|(refine .inl ?_;(exact fun _ s => Hd.sub s (Le.refl _) (fun r hr => nomatch hr)))|exact to_));intro _)|(first|(refine tqs_ ?_ ?_ ?_;(·(first|exact ybf|(refine .inl ?_;(exact fun _ s => Hd.sub s (Le.refl _) (fun r hr => nomatch hr)))|exact to_));(·(first|exact ybf|(refine .inl ?_;(exact fun _ s => Hd.sub s (Le.refl _) (fun r hr => nomatch hr)))|exact to_))))|(apply ybn;(·(first|(first|exact tk_|(refine qv_min' rfl rfl hmn)|(refine qv_slice_fromz (i := k) rfl rfl (by omega) (by omega))|(rw [hcut];apply qv_slice_to;(·rfl);(·rfl);(·omega);(·omega))|(apply qv_slice_to;(·rfl);(·rfl);(·omega);(·omega)))|exact tq_));(·rfl);(·rfl);(·rfl);(·(first|exact ybf|(refine .inl ?_;(exact fun _ s => Hd.sub s (Le.refl _) (fun r hr => nomatch hr)))|exact to_))))|refine ycg ?_))
    refine rx_copy (news := List.replicate m (.int .u8 x)) 0 rfl rfl rfl hsrc (by rw [hrl, Int.toNat_natCast]; omega) (by show k * 1 + _ ≤ c.toArray.size; rw [hrl, List.size_toArray]; omega) (fun u hu => by rw [(List.mem_replicate.1 hu).2]; rfl) rfl rfl rfl rfl ?_ ?_ ?_
    · (first|exact ybf | (refine .inl ?_;(exact fun _ s => Hd.sub s (Le.refl _) (fun r hr => nomatch hr))) | exact to_)
    · (first|exact ybf | (refine .inl ?_;(exact fun _ s => Hd.sub s (Le.refl _) (fun r hr => nomatch hr))) | exact to_)
    have hwa : IntKind.i64.wrap ((k : Int) + ((List.replicate m (Value.int .u8 x)).length : Nat)) = ((k + m : Nat) : Int) := by rw [hrl, IntKind.wrap_i64]<;>omega
    repeat' (refine ycf ?_;(first|(first|(apply ybm;(·(first|(first|(refine qv_addr rfl rfl hwa))|exact tq_));(·rfl);(·rfl);(·(exact fun _ s => Hd.sub s (Le.refl _) (fun r hr => nomatch hr))))|refine ybl rfl rfl ?_|((fail_if_success (refine ybi rfl ?_));refine ybj rfl ?_ ?_<;>(intro ht;rw [ht];first|replace ht := oet_ ht|replace ht := oef_ ht|skip))|(refine tb_ ?_ ?_ ?_;(·(first|exact ybf|(refine .inl ?_;(exact fun _ s => Hd.sub s (Le.refl _) (fun r hr => nomatch hr)))|exact to_));(·intro _;(first|exact ybf|(refine .inl ?_;(exact fun _ s => Hd.sub s (Le.refl _) (fun r hr => nomatch hr)))|exact to_));intro _)|(first|(refine tqs_ ?_ ?_ ?_;(·(first|exact ybf|(refine .inl ?_;(exact fun _ s => Hd.sub s (Le.refl _) (fun r hr => nomatch hr)))|exact to_));(·(first|exact ybf|(refine .inl ?_;(exact fun _ s => Hd.sub s (Le.refl _) (fun r hr => nomatch hr)))|exact to_))))|(apply ybn;(·(first|(first|(refine qv_addr rfl rfl hwa))|exact tq_));(·rfl);(·rfl);(·rfl);(·(first|exact ybf|(refine .inl ?_;(exact fun _ s => Hd.sub s (Le.refl _) (fun r hr => nomatch hr)))|exact to_))))|refine ycg ?_))
    repeat' (first|(refine ycf ?_;apply ybk;(·first|(exact tk_));(·rfl);(·rfl))|refine t1_ ?_|(refine ta_ ?_;intro _)|((fail_if_success (refine ybi rfl ?_));refine ybj rfl ?_ ?_<;>(intro ht;rw [ht];first|replace ht := oet_ ht|replace ht := oef_ ht|skip))|(refine ych ?_;first|(refine ybw rfl ?_ ?_<;>intro ht)|(refine ybx rfl ?_ ?_<;>intro ht)))
    refine nx_round (k + m, spl c (k * 1) (List.replicate m (.int .u8 x))) ⟨by show 1 ≤ k + m; omega, by show k + m ≤ 64; omega, ?_, ?_⟩ (by show 64 - (k + m) < 64 - k; omega) ts_ (fun _ s => s)
    · show (spl c (k * 1) (List.replicate m (.int .u8 x))).length = _
      rw [spl_len (by rw [hrl]; omega)]
      exact hcl
    · show (spl c (k * 1) (List.replicate m (.int .u8 x))).take (k + m) = _
      have hlk : (c.take k).length = k := by rw [List.length_take]; omega
      unfold spl
      rw [Nat.mul_one, hct, List.take_append_of_le_length (by simp), List.take_of_length_le (by simp), List.replicate_append_replicate]
  · have ek : k = 64 := by omega
    subst ek
    repeat' (first|(refine ycf ?_;apply ybk;(·first|(exact tk_));(·rfl);(·rfl))|refine t1_ ?_|(refine ta_ ?_;intro _)|((fail_if_success (refine ybi rfl ?_));refine ybj rfl ?_ ?_<;>(intro ht;rw [ht];first|replace ht := oet_ ht|replace ht := oef_ ht|skip))|(refine ych ?_;first|(refine ybw rfl ?_ ?_<;>intro ht)|(refine ybx rfl ?_ ?_<;>intro ht)))
    refine nx_ret1 rfl (rv_tmp rfl) (fun w' s' => ?_)
    have s1 := s'.persist rfl
    refine ⟨(addV h g (.cells c.toArray 5 (0, 0)), .slice (some ⟨g, 0, none⟩) 64 64), rfl, s1, ?_⟩
    refine ⟨by simp [bcs], _, _, by rw [List.length_replicate], by rw [List.length_replicate]; exact Nat.le_refl _, .inr ⟨g, 0, c.toArray, _, (0, 0), rfl, (by show addV h g _ g = _; unfold addV; rw [if_pos rfl]), fun j u hj => ?_⟩⟩
    have hb2 : bcs (List.replicate 64 x) = List.replicate 64 (.int .u8 x) := by simp [bcs]
    rw [hb2, ← hct, List.getElem?_take] at hj
    split at hj
    · rw [Nat.zero_add]; simpa using hj
    · cases hj
end Go.Proofs.YtgeepceieckooaaDoor
end

section
namespace Go.Proofs.YtgeepceieckooaaDoor
open Go Go.Ck
set_option maxRecDepth 100000
set_option maxHeartbeats 4000000
set_option linter.unusedVariables false
def cutV (l : List Int) : List Int := (byC (l, 0) 4000).1
def cutOk (l : List Int) : Bool := decide (padW (cutV l) = l)
theorem Cut_sp (v : Value) (l : List Int) (yb : Bytes l) (hl : l.length ≤ 900000) (h : View) (hb : Bs8 h v l) (w : World) (s : St ⟨w, h, []⟩ h [] w) :
    Calls Tryd.prog 36 [v].toArray w fun e w' => ∃ x : View × Value, e = .returned (.tuple #[x.2, .int .i64 (if cutOk l then 0 else 2)]) ∧ St ⟨w, h, []⟩ x.1 [] w' ∧ Bs8 x.1 x.2 (if cutOk l then cutV l else []) := by
  obtain ⟨_, ad, cap, rfl, hcap, _⟩ := id hb
  obtain ⟨_, yc, lc⟩ := RsOk.by (s := (l, 0)) (most := 4000) ⟨yb, by show l.length ≤ 1000000; omega⟩ (by omega)
  have hc4 : (cutV l).length ≤ 4000 := by unfold cutV; omega
  have hyc : Bytes (cutV l) := yc
  have hpl : (padW (cutV l)).length ≤ 900000 := by
    have := sizeF_bd (n := (cutV l).length) (by omega) (by omega)
    rw [padW_len hc4]
    omega
  refine calls_enter Tryd.func36 rfl Tryd.ntmps36 rfl s ?_
  repeat' (first|refine tw_ ?_|(refine ta_ ?_;intro _)|((fail_if_success (refine ybi rfl ?_));refine ybj rfl ?_ ?_<;>(intro ht;rw [ht];first|replace ht := oet_ ht|replace ht := oef_ ht|skip))|(refine ych ?_;first|(refine ybw rfl ?_ ?_<;>intro ht)|(refine ybx rfl ?_ ?_<;>intro ht)))
  (refine yco (ycp Tryd.func46 rfl (by kernel_rfl) rfl) (Of_sp _ l (by omega) h hb) rfl rfl rfl ?_ ?_ ?_; (· (exact to_)); (· intro _ _ hle; (exact to_)); intro x px hle)
  obtain ⟨h1, bi, v1⟩ := x
  dsimp only at px hle
  (refine rx_call_m (ycp Tryd.func47 rfl (by kernel_rfl) rfl) (perm_at (k := 0) rfl) (InBytes_sp bi v1 l 0 4000 yb (by omega) (by omega) h1 px) rfl rfl rfl ?_ ?_ ?_; (· (exact to_)); (· intro _ _ hle; (exact to_)); intro x px hle)
  obtain ⟨h2, vo, v2⟩ := x
  obtain ⟨ho, _⟩ := px
  dsimp only at ho
  have hle2 : Le h h2 := Le.trans ‹Le h h1› hle
  have hb2 := hb.mono hle2
  clear hle
  change Bs8 h2 vo (cutV l) at ho
  obtain ⟨_, ad2, cap2, rfl, _, _⟩ := id ho
  repeat' (first|refine tw_ ?_|(refine ta_ ?_;intro _)|((fail_if_success (refine ybi rfl ?_));refine ybj rfl ?_ ?_<;>(intro ht;rw [ht];first|replace ht := oet_ ht|replace ht := oef_ ht|skip))|(refine ych ?_;first|(refine ybw rfl ?_ ?_<;>intro ht)|(refine ybx rfl ?_ ?_<;>intro ht)))
  (refine yco (ycp Tryd.func14 rfl (by kernel_rfl) rfl) (Pad_sp _ (cutV l) hc4 h2 ho) rfl rfl rfl ?_ ?_ ?_; (· (exact to_)); (· intro _ _ hle; (exact to_)); intro x px hle)
  refine rx_persist rfl fun h3 hle3 hv3 => ?_
  clear hle
  have hb3 := hb2.mono hle3
  have ho3 := ho.mono hle3
  have hv3 : Bs8 h3 x (padW (cutV l)) := hv3
  obtain ⟨_, ad3, cap3, rfl, _, _⟩ := id hv3
  repeat' (first|refine tw_ ?_|(refine ta_ ?_;intro _)|((fail_if_success (refine ybi rfl ?_));refine ybj rfl ?_ ?_<;>(intro ht;rw [ht];first|replace ht := oet_ ht|replace ht := oef_ ht|skip))|(refine ych ?_;first|(refine ybw rfl ?_ ?_<;>intro ht)|(refine ybx rfl ?_ ?_<;>intro ht)))
  have S1 := bSame_sp _ _ (padW (cutV l)) l h3 hv3 hb3 (padW_by hyc) yb hpl hl
  (refine ycn (ycp Tryd.func45 rfl (by kernel_rfl) rfl) (S1) rfl rfl rfl ?_ ?_; (· (exact to_)))
  by_cases hok : padW (cutV l) = l
  · have e1 : cutOk l = true := by unfold cutOk; simpa using hok
    have e2 : decide (padW (cutV l) = l) = true := by simpa using hok
    rw [e1, e2]
    repeat' (first|refine tw_ ?_|(refine ta_ ?_;intro _)|((fail_if_success (refine ybi rfl ?_));refine ybj rfl ?_ ?_<;>(intro ht;rw [ht];first|replace ht := oet_ ht|replace ht := oef_ ht|skip))|(refine ych ?_;first|(refine ybw rfl ?_ ?_<;>intro ht)|(refine ybx rfl ?_ ?_<;>intro ht)))
    refine nx_ret2 rfl (rv_tmp rfl) (rv_tmp rfl) (fun w' s' => ⟨(h3, _), rfl, s'.nil, ?_⟩)
    exact ho3
  · have e1 : cutOk l = false := by unfold cutOk; simpa using hok
    have e2 : decide (padW (cutV l) = l) = false := by simpa using hok
    rw [e1, e2]
    repeat' (first|refine tw_ ?_|(refine ta_ ?_;intro _)|((fail_if_success (refine ybi rfl ?_));refine ybj rfl ?_ ?_<;>(intro ht;rw [ht];first|replace ht := oet_ ht|replace ht := oef_ ht|skip))|(refine ych ?_;first|(refine ybw rfl ?_ ?_<;>intro ht)|(refine ybx rfl ?_ ?_<;>intro ht)))
    refine nx_ret2 rfl (rv_tmp rfl) (rv_tmp rfl) (fun w' s' => ⟨(h3, .slice none 0 0), rfl, s'.nil, ?_⟩)
    exact Sc.nil _ _ _ _
end Go.Proofs.YtgeepceieckooaaDoor
end

section
namespace Go.Proofs.YtgeepceieckooaaDoor
open Go Go.Ck
set_option maxRecDepth 100000
set_option maxHeartbeats 4000000
set_option linter.unusedVariables false
instance tykUse : TyK Tryd.prog 81 [(3, 0), (3, 1)] := ⟨by kernel_rfl, by kernel_rfl, by kernel_rfl, by kernel_rfl⟩
instance tykSea : TyK Tryd.prog 83 [(81, 0), (3, 2), (9, 3), (9, 4)] := ⟨by kernel_rfl, by kernel_rfl, by kernel_rfl, by kernel_rfl⟩
abbrev UseK := Int × Int
abbrev SeaK := Int × Int × Int × ByteArray × ByteArray
def useA (a : UseK) : Array Value := #[.int .i64 a.1, .int .i64 a.2]
def seaA (a : SeaK) : Array Value := #[.int .i64 a.1, .int .i64 a.2.1, .int .i64 a.2.2.1, .string a.2.2.2.1, .string a.2.2.2.2]
theorem part1 {P : Program} {T : Nat} {cs : Array Value} {off : Nat} {v : Value} [ta : TyA P T false] (h : cs[off]? = some v) (w : World) : (part T cs off).run P w = .ok v w := by simp [part, ta.a, h]
theorem partA {P : Program} {T k : Nat} {cs : Array Value} {off : Nat} {xs : Array Value} [ta : TyA P T true] [ts : TyS P T k] (h : cs.extract off (off + k) = xs) (w : World) : (part T cs off).run P w = .ok (.agg xs) w := by simp [part, ta.a, ts.s, h]
theorem use_parts (a : UseK) : Parts Tryd.prog (useA a) [(3, 0), (3, 1)] [.int .i64 a.1, .int .i64 a.2] :=
  .cons (part1 rfl) (.cons (part1 rfl) .nil)
theorem sea_parts (a : SeaK) : Parts Tryd.prog (seaA a) [(81, 0), (3, 2), (9, 3), (9, 4)] [.agg (useA (a.1, a.2.1)), .int .i64 a.2.2.1, .string a.2.2.2.1, .string a.2.2.2.2] :=
  .cons (partA (k := 2) rfl) (.cons (part1 rfl) (.cons (part1 rfl) (.cons (part1 rfl) .nil)))
theorem use_eq (d : Nat) (a b : UseK) (w : World) : (Op.equalIn (d + 2) 81 (.agg (useA a)) (.agg (useA b))).run Tryd.prog w = .ok (decide (a = b)) w := by
  have := struct_eq (P := Tryd.prog) (T := 81) (d := d + 1) w (bs := [a.1 == b.1, a.2 == b.2]) rfl (use_parts a) (use_parts b) (by
    intro i t u v r h1 h2 h3 h4 w
    match i, h1, h2, h3, h4 with
    | 0, h1, h2, h3, h4 => cases h1; cases h2; cases h3; cases h4; exact run_equalIn_int w d _ _ _ _ _ (TyU.u (d := .int .i64))
    | 1, h1, h2, h3, h4 => cases h1; cases h2; cases h3; cases h4; exact run_equalIn_int w d _ _ _ _ _ (TyU.u (d := .int .i64)))
  rw [this]
  congr 1
  rw [Bool.eq_iff_iff]
  simp [Prod.ext_iff]
theorem sea_eq (d : Nat) (a b : SeaK) (w : World) : (Op.equalIn (d + 3) 83 (.agg (seaA a)) (.agg (seaA b))).run Tryd.prog w = .ok (decide (a = b)) w := by
  have := struct_eq (P := Tryd.prog) (T := 83) (d := d + 2) w (bs := [decide ((a.1, a.2.1) = (b.1, b.2.1)), a.2.2.1 == b.2.2.1, a.2.2.2.1.toList == b.2.2.2.1.toList, a.2.2.2.2.toList == b.2.2.2.2.toList]) rfl (sea_parts a) (sea_parts b) (by
    intro i t u v r h1 h2 h3 h4 w
    match i, h1, h2, h3, h4 with
    | 0, h1, h2, h3, h4 => cases h1; cases h2; cases h3; cases h4; exact use_eq d _ _ w
    | 1, h1, h2, h3, h4 => cases h1; cases h2; cases h3; cases h4; exact run_equalIn_int w (d + 1) _ _ _ _ _ (TyU.u (d := .int .i64))
    | 2, h1, h2, h3, h4 => cases h1; cases h2; cases h3; cases h4; exact run_equalIn_string w (d + 1) _ _ _ (TyU.u (d := .string))
    | 3, h1, h2, h3, h4 => cases h1; cases h2; cases h3; cases h4; exact run_equalIn_string w (d + 1) _ _ _ (TyU.u (d := .string)))
  rw [this]
  congr 1
  rw [← beq_toListBytes, ← beq_toListBytes, ba_beq, ba_beq, Bool.eq_iff_iff]
  simp [Prod.ext_iff, and_assoc]
theorem chk_int {P : Program} {T : Nat} {k : IntKind} [tu : TyU P T (.int k)] (b : Bool) (d : Nat) (i : Int) (w : World) : (Instr.checkKey b (d + 1) T (.int k i)).run P w = .ok () w := MapKept.run_checkKey (k := .int k i) tu.u rfl b d
theorem chk_str {P : Program} {T : Nat} [tu : TyU P T .string] (b : Bool) (d : Nat) (i : ByteArray) (w : World) : (Instr.checkKey b (d + 1) T (.string i)).run P w = .ok () w := MapKept.run_checkKey (k := .string i) tu.u trivial b d
theorem use_chk (b : Bool) (d : Nat) (a : UseK) (w : World) : (Instr.checkKey b (d + 2) 81 (.agg (useA a))).run Tryd.prog w = .ok () w :=
  struct_chk (P := Tryd.prog) (T := 81) (d := d + 1) w (use_parts a) (by
    intro i t u h1 h2 w
    match i, h1, h2 with
    | 0, h1, h2 => cases h1; cases h2; exact chk_int b d _ w
    | 1, h1, h2 => cases h1; cases h2; exact chk_int b d _ w)
theorem sea_chk (b : Bool) (d : Nat) (a : SeaK) (w : World) : (Instr.checkKey b (d + 3) 83 (.agg (seaA a))).run Tryd.prog w = .ok () w :=
  struct_chk (P := Tryd.prog) (T := 83) (d := d + 2) w (sea_parts a) (by
    intro i t u h1 h2 w
    match i, h1, h2 with
    | 0, h1, h2 => cases h1; cases h2; exact use_chk b d _ w
    | 1, h1, h2 => cases h1; cases h2; exact chk_int b (d + 1) _ w
    | 2, h1, h2 => cases h1; cases h2; exact chk_str b (d + 1) _ w
    | 3, h1, h2 => cases h1; cases h2; exact chk_str b (d + 1) _ w)
theorem use_kl : KeyLw Tryd.prog 81 (fun a : UseK => Value.agg (useA a)) :=
  struct_kl (fun a b w => use_eq 9998 a b w) (fun b a w => use_chk b 9998 a w) (fun a => by simp [Instr.sameBits, useA])
theorem sea_kl : KeyLw Tryd.prog 83 (fun a : SeaK => Value.agg (seaA a)) :=
  struct_kl (fun a b w => sea_eq 9997 a b w) (fun b a w => sea_chk b 9997 a w) (fun a => by simp [Instr.sameBits, seaA, ba_beq])
end Go.Proofs.YtgeepceieckooaaDoor
end

section
namespace Go.Proofs.YtgeepceieckooaaDoor
open Go Go.Ck
set_option maxRecDepth 100000
set_option maxHeartbeats 4000000
set_option linter.unusedVariables false
def nmL (N : List (List Int)) : List (ByteArray × Value) := N.zipIdx.map fun x => (bstr x.1, .int .i64 ((x.2 + 1 : Nat) : Int))
def addN (N : List (List Int)) (x : List Int) : List (List Int) := if x ∈ N then N else N ++ [x]
def Names (N : List (List Int)) : Prop := ∀ x ∈ N, Bytes x
theorem bstr_bc {l : List Int} (hb : Bytes l) : ((bstr l).data.map fun b => Value.int .u8 b.toNat).toList = bcs l := by
  unfold bstr bcs
  simp only [Array.toList_map, List.map_map]
  refine List.map_congr_left fun x hx => ?_
  have := hb x hx
  show Value.int .u8 ((UInt8.ofNat x.toNat).toNat : Int) = _
  congr 1
  simp
  omega
theorem bstr_inj {a b : List Int} (ha : Bytes a) (hb : Bytes b) (h : bstr a = bstr b) : a = b := by
  have h1 := bstr_bc ha
  have h2 := bstr_bc hb
  rw [h] at h1
  have h3 : bcs a = bcs b := h1.symm.trans h2
  have h4 := congrArg (List.map fun v => match v with | .int _ i => i | _ => 0) h3
  simpa [bcs, List.map_map, Function.comp_def] using h4
theorem nm_get {N : List (List Int)} (hN : Names N) {x : List Int} (hx : Bytes x) : ∀ k, mget (((N.zipIdx k).map fun x => (bstr x.1, Value.int .i64 ((x.2 + 1 : Nat) : Int)))) (bstr x) = if x ∈ N then some (.int .i64 ((k + N.idxOf x + 1 : Nat) : Int)) else none := by
  induction N with
  | nil => intro k; rfl
  | cons y N ih =>
    intro k
    simp only [List.zipIdx_cons, List.map_cons, mget]
    by_cases hxy : x = y
    · subst hxy
      rw [if_pos rfl, if_pos (List.mem_cons_self ..), List.idxOf_cons_self]
    · have hb : ¬ bstr x = bstr y := fun e => hxy (bstr_inj hx (hN y (List.mem_cons_self ..)) e)
      rw [if_neg hb, ih (fun z hz => hN z (List.mem_cons_of_mem _ hz)) (k + 1)]
      have hm : (x ∈ y :: N) ↔ x ∈ N := by simp [hxy]
      by_cases hxN : x ∈ N
      · have hb2 : (y == x) = false := by simpa using fun e => hxy (Eq.symm e)
        have he : List.idxOf x (y :: N) = List.idxOf x N + 1 := by rw [List.idxOf_cons, hb2]; rfl
        rw [if_pos hxN, if_pos (hm.2 hxN), he]
        congr 3
        omega
      · rw [if_neg hxN, if_neg (fun h => hxN (hm.1 h))]
theorem nmL_get {N : List (List Int)} (hN : Names N) {x : List Int} (hx : Bytes x) : mget (nmL N) (bstr x) = if x ∈ N then some (.int .i64 ((N.idxOf x + 1 : Nat) : Int)) else none := by
  have := nm_get hN hx 0
  rw [Nat.zero_add] at this
  exact this
theorem nmL_len (N : List (List Int)) : (nmL N).length = N.length := by simp [nmL]
theorem nmL_add {N : List (List Int)} (hN : Names N) {x : List Int} (hx : Bytes x) (hn : x ∉ N) : mput (nmL N) (bstr x) (.int .i64 ((N.length + 1 : Nat) : Int)) = nmL (addN N x) := by
  rw [mput_new (by rw [nmL_get hN hx, if_neg hn]), addN, if_neg hn]
  simp [nmL, List.zipIdx_append]
theorem addN_names {N : List (List Int)} (hN : Names N) {x : List Int} (hx : Bytes x) : Names (addN N x) := by
  unfold addN
  split
  · exact hN
  · intro y hy
    rcases List.mem_append.1 hy with hy | hy
    · exact hN y hy
    · rw [List.mem_singleton.1 hy]; exact hx
abbrev nmR (bn : Nat) (N : List (List Int)) : Res := Res.mp Value.string bn (nmL N)
def blindF (key : List Int) (N : List (List Int)) (x : List Int) : List Int := drawF key 0 (N.idxOf x + 1) 32
theorem Blind_sp (bv : Nat) (key : List Int) (bn bu bt : Nat) (N : List (List Int)) (v : Value) (nm : List Int) (hk : Bytes key) (hk32 : key.length = 32) (hN : Names N) (hNl : N.length < 900000) (hx : Bytes nm) (hxl : 1 ≤ nm.length ∧ nm.length ≤ 64) (h : View) (hv : Vb h bv true key bn bu bt) (hs : Bs8 h v nm) (w : World) (s : St ⟨w, h, doms [nmR bn N]⟩ h [nmR bn N] w) :
    Calls Tryd.prog 15 [.pointer (some ⟨bv, 0, none⟩), v].toArray w fun e w' => ∃ _ : Unit, e = .returned (.tuple #[.agg (bcs (blindF key N nm)).toArray, .int .i64 0]) ∧ St ⟨w, h, doms [nmR bn N]⟩ h [nmR bn (addN N nm)] w' ∧ True := by
  obtain ⟨_, ad, cap, rfl, hcap, _⟩ := id hs
  refine calls_enter Tryd.func15 rfl Tryd.ntmps15 rfl s ?_
  repeat' (first|(refine ycf ?_;apply ybk;(·first|(first|exact tk_|(apply qv_eql_pnil<;>rfl)|(apply qv_nilCheck;rfl))|(apply yae;(·rfl);(·(first|exact hv.at hk32 (.inl ⟨rfl, rfl⟩)|exact hv.at hk32 (.inr (.inl ⟨rfl, rfl⟩))))));(·rfl);(·rfl))|refine t1_ ?_|(refine ta_ ?_;intro _)|((fail_if_success (refine ybi rfl ?_));refine ybj rfl ?_ ?_<;>(intro ht;rw [ht];first|replace ht := oet_ ht|replace ht := oef_ ht|skip))|(refine ych ?_;first|(refine ybw rfl ?_ ?_<;>intro ht)|(refine ybx rfl ?_ ?_<;>intro ht)))
  rename_i b4
  have hget := nmL_get hN hx
  by_cases hm : nm ∈ N
  · have hil : N.idxOf nm < N.length := List.idxOf_lt_length_of_mem hm
    rw [if_pos hm] at hget
    have hg1 : (mget (nmL N) (bstr nm)).getD (.int .i64 0) = .int .i64 ((N.idxOf nm + 1 : Nat) : Int) := by rw [hget]; rfl
    have hg2 : (mget (nmL N) (bstr nm)).isSome = true := by rw [hget]; rfl
    refine cx_region_draw' rfl (by kernel_rfl) ?_
    repeat' (refine ycf ?_;(first|(first|(apply ybm;(·(first|(first|exact tk_|(apply qv_nilCheck;rfl)|(refine qv_str_bs rfl hs)|(refine qv_lookup_ok 1 string_kl rfl rfl rfl hg1 hg2))|(apply yae;(·rfl);(·(first|exact hv.at hk32 (.inl ⟨rfl, rfl⟩)|exact hv.at hk32 (.inr (.inl ⟨rfl, rfl⟩)))))|exact tq_));(·rfl);(·rfl);(·(exact th_)))|refine ybl rfl rfl ?_|((fail_if_success (refine ybi rfl ?_));refine ybj rfl ?_ ?_<;>(intro ht;rw [ht];first|replace ht := oet_ ht|replace ht := oef_ ht|skip))|(refine tb_ ?_ ?_ ?_;(·(exact to_));(·intro _;(exact to_));intro _)|(first|(refine tqs_ ?_ ?_ ?_;(·(exact to_));(·(exact to_))))|(apply ybn;(·(first|(first|exact tk_|(apply qv_nilCheck;rfl)|(refine qv_str_bs rfl hs)|(refine qv_lookup_ok 1 string_kl rfl rfl rfl hg1 hg2))|(apply yae;(·rfl);(·(first|exact hv.at hk32 (.inl ⟨rfl, rfl⟩)|exact hv.at hk32 (.inr (.inl ⟨rfl, rfl⟩)))))|exact tq_));(·rfl);(·rfl);(·rfl);(·(exact to_))))|refine ycg ?_))
    have ha : addN N nm = N := if_pos hm
    rw [ha]
    repeat' (first|(refine ycf ?_;apply ybk;(·first|(exact tk_)|(apply yae;(·rfl);(·(first|exact hv.at hk32 (.inl ⟨rfl, rfl⟩)|exact hv.at hk32 (.inr (.inl ⟨rfl, rfl⟩))))));(·rfl);(·rfl))|refine t1_ ?_|(refine ta_ ?_;intro _)|((fail_if_success (refine ybi rfl ?_));refine ybj rfl ?_ ?_<;>(intro ht;rw [ht];first|replace ht := oet_ ht|replace ht := oef_ ht|skip))|(refine ych ?_;first|(refine ybw rfl ?_ ?_<;>intro ht)|(refine ybx rfl ?_ ?_<;>intro ht)))
    (refine yco (ycp Tryd.func28 rfl (by kernel_rfl) rfl) (draw_sp bv true key bn bu bt 0 (N.idxOf nm + 1) 32 hk hk32 (by omega) (by omega) (by omega) h hv) rfl rfl rfl ?_ ?_ ?_; (· (exact to_)); (· intro _ _ hle; (exact to_)); intro x px hle)
    have hdl := drawF_len key 0 (N.idxOf nm + 1) 32 (by omega)
    have hol : (bcs (drawF key 0 (N.idxOf nm + 1) 32)).length = 32 := by rw [bcs_len, hdl]
    unfold blindF
    generalize drawF key 0 (N.idxOf nm + 1) 32 = out at hdl hol ⊢
    refine rx_rowform 0 rfl (fun _ h1 _ => (by omega)) ?_
    rintro g6 cap6 rfl
    repeat' (first|(refine ycf ?_;apply ybk;(·first|(first|(refine qv_arrptr rfl (by omega))|(apply yad;(·rfl);(·exact row_cells 0 rfl);(·exact hol)))|(apply yae;(·rfl);(·(first|exact hv.at hk32 (.inl ⟨rfl, rfl⟩)|exact hv.at hk32 (.inr (.inl ⟨rfl, rfl⟩))))));(·rfl);(·rfl))|(refine ybg 1 rfl rfl rfl (by show (bcs out).toArray.size = 32;simpa using hol) (by show 0 + (bcs out).toArray.size ≤ _;rw [List.size_toArray, hol];exact nble rfl) (List.all_eq_true.2 (bcs_one out)) (ybh (by show (bcs out).length = _;rw [hol];rfl)) rfl rfl ?_ ?_ ?_;(·(exact to_));(·(exact to_)))|refine t1_ ?_|(refine ta_ ?_;intro _)|((fail_if_success (refine ybi rfl ?_));refine ybj rfl ?_ ?_<;>(intro ht;rw [ht];first|replace ht := oet_ ht|replace ht := oef_ ht|skip))|(refine ych ?_;first|(refine ybw rfl ?_ ?_<;>intro ht)|(refine ybx rfl ?_ ?_<;>intro ht)))
    exact nx_ret2 rfl (rv_cells rfl (yaz 1 rfl) (by show (bcs out).toArray.toList.length = 32; simpa using hol)) (rv_tmp rfl) (fun w' s' => ⟨(), rfl, s'.tl.tl, trivial⟩)
  · have hget0 := hget
    rw [if_neg hm] at hget
    have hix : N.idxOf nm = N.length := List.idxOf_eq_length hm
    have hg1 : (mget (nmL N) (bstr nm)).getD (.int .i64 0) = .int .i64 0 := by rw [hget]; rfl
    have hg2 : (mget (nmL N) (bstr nm)).isSome = false := by rw [hget]; rfl
    have wl : IntKind.i64.wrap (((nmL N).length : Nat) + 1 : Int) = ((N.length + 1 : Nat) : Int) := by rw [nmL_len, IntKind.wrap_i64]<;>omega
    refine cx_region_draw' rfl (by kernel_rfl) ?_
    repeat' (refine ycf ?_;(first|(first|(apply ybm;(·(first|(first|exact tk_|(apply qv_nilCheck;rfl)|(refine qv_str_bs rfl hs)|(refine qv_lookup_ok 1 string_kl rfl rfl rfl hg1 hg2)|(refine qv_len_map 1 rfl rfl)|(refine qv_addr rfl rfl wl))|(apply yae;(·rfl);(·(first|exact hv.at hk32 (.inl ⟨rfl, rfl⟩)|exact hv.at hk32 (.inr (.inl ⟨rfl, rfl⟩)))))|exact tq_));(·rfl);(·rfl);(·(exact th_)))|refine ybl rfl rfl ?_|((fail_if_success (refine ybi rfl ?_));refine ybj rfl ?_ ?_<;>(intro ht;rw [ht];first|replace ht := oet_ ht|replace ht := oef_ ht|skip))|(refine tb_ ?_ ?_ ?_;(·(exact to_));(·intro _;(exact to_));intro _)|(first|(refine tqs_ ?_ ?_ ?_;(·(exact to_));(·(exact to_))))|(apply ybn;(·(first|(first|exact tk_|(apply qv_nilCheck;rfl)|(refine qv_str_bs rfl hs)|(refine qv_lookup_ok 1 string_kl rfl rfl rfl hg1 hg2)|(refine qv_len_map 1 rfl rfl)|(refine qv_addr rfl rfl wl))|(apply yae;(·rfl);(·(first|exact hv.at hk32 (.inl ⟨rfl, rfl⟩)|exact hv.at hk32 (.inr (.inl ⟨rfl, rfl⟩)))))|exact tq_));(·rfl);(·rfl);(·rfl);(·(exact to_))))|refine ycg ?_))
    repeat' (first|(refine ycf ?_;apply ybk;(·first|(first|exact tk_|(apply qv_nilCheck;rfl)|(refine qv_str_bs rfl hs)|(refine qv_lookup_ok 1 string_kl rfl rfl rfl hg1 hg2)|(refine qv_len_map 1 rfl rfl)|(refine qv_addr rfl rfl wl))|(apply yae;(·rfl);(·(first|exact hv.at hk32 (.inl ⟨rfl, rfl⟩)|exact hv.at hk32 (.inr (.inl ⟨rfl, rfl⟩))))));(·rfl);(·rfl))|refine t1_ ?_|(refine ta_ ?_;intro _)|((fail_if_success (refine ybi rfl ?_));refine ybj rfl ?_ ?_<;>(intro ht;rw [ht];first|replace ht := oet_ ht|replace ht := oef_ ht|skip))|(refine ych ?_;first|(refine ybw rfl ?_ ?_<;>intro ht)|(refine ybx rfl ?_ ?_<;>intro ht)))
    refine cx_region_draw' rfl (by kernel_rfl) ?_
    repeat' (refine ycf ?_;(first|(first|(apply ybm;(·(first|(first|exact tk_|(apply qv_nilCheck;rfl)|(refine qv_str_bs rfl hs)|(refine qv_lookup_ok 1 string_kl rfl rfl rfl hg1 hg2)|(refine qv_len_map 1 rfl rfl)|(refine qv_addr rfl rfl wl))|(apply yae;(·rfl);(·(first|exact hv.at hk32 (.inl ⟨rfl, rfl⟩)|exact hv.at hk32 (.inr (.inl ⟨rfl, rfl⟩)))))|exact tq_));(·rfl);(·rfl);(·(exact th_)))|refine ybl rfl rfl ?_|((fail_if_success (refine ybi rfl ?_));refine ybj rfl ?_ ?_<;>(intro ht;rw [ht];first|replace ht := oet_ ht|replace ht := oef_ ht|skip))|(refine tb_ ?_ ?_ ?_;(·(exact to_));(·intro _;(exact to_));intro _)|(first|(refine tqs_ ?_ ?_ ?_;(·(exact to_));(·(exact to_))))|(apply ybn;(·(first|(first|exact tk_|(apply qv_nilCheck;rfl)|(refine qv_str_bs rfl hs)|(refine qv_lookup_ok 1 string_kl rfl rfl rfl hg1 hg2)|(refine qv_len_map 1 rfl rfl)|(refine qv_addr rfl rfl wl))|(apply yae;(·rfl);(·(first|exact hv.at hk32 (.inl ⟨rfl, rfl⟩)|exact hv.at hk32 (.inr (.inl ⟨rfl, rfl⟩)))))|exact tq_));(·rfl);(·rfl);(·rfl);(·(exact to_))))|refine ycg ?_))
    refine rx_mapUpdate 1 string_kl rfl rfl rfl rfl rfl rfl ?_ ?_ ?_
    · (exact to_)
    · exact .inr (by kernel_rfl)
    have hmp : mput (nmL N) (bstr nm) (.int .i64 ((N.length + 1 : Nat) : Int)) = nmL (addN N nm) := nmL_add hN hx hm
    rw [hmp]
    generalize hN2 : addN N nm = N2
    show RX _ _ _ _ _ _ _ [_, nmR bn N2] _
    repeat' (refine ycf ?_;(first|(first|(apply ybm;(·(first|(first|exact tk_|(apply qv_nilCheck;rfl)|(refine qv_str_bs rfl hs)|(refine qv_lookup_ok 1 string_kl rfl rfl rfl hg1 hg2)|(refine qv_len_map 1 rfl rfl)|(refine qv_addr rfl rfl wl))|(apply yae;(·rfl);(·(first|exact hv.at hk32 (.inl ⟨rfl, rfl⟩)|exact hv.at hk32 (.inr (.inl ⟨rfl, rfl⟩)))))|exact tq_));(·rfl);(·rfl);(·(exact th_)))|refine ybl rfl rfl ?_|((fail_if_success (refine ybi rfl ?_));refine ybj rfl ?_ ?_<;>(intro ht;rw [ht];first|replace ht := oet_ ht|replace ht := oef_ ht|skip))|(refine tb_ ?_ ?_ ?_;(·(exact to_));(·intro _;(exact to_));intro _)|(first|(refine tqs_ ?_ ?_ ?_;(·(exact to_));(·(exact to_))))|(apply ybn;(·(first|(first|exact tk_|(apply qv_nilCheck;rfl)|(refine qv_str_bs rfl hs)|(refine qv_lookup_ok 1 string_kl rfl rfl rfl hg1 hg2)|(refine qv_len_map 1 rfl rfl)|(refine qv_addr rfl rfl wl))|(apply yae;(·rfl);(·(first|exact hv.at hk32 (.inl ⟨rfl, rfl⟩)|exact hv.at hk32 (.inr (.inl ⟨rfl, rfl⟩)))))|exact tq_));(·rfl);(·rfl);(·rfl);(·(exact to_))))|refine ycg ?_))
    repeat' (first|(refine ycf ?_;apply ybk;(·first|(exact tk_)|(apply yae;(·rfl);(·(first|exact hv.at hk32 (.inl ⟨rfl, rfl⟩)|exact hv.at hk32 (.inr (.inl ⟨rfl, rfl⟩))))));(·rfl);(·rfl))|refine t1_ ?_|(refine ta_ ?_;intro _)|((fail_if_success (refine ybi rfl ?_));refine ybj rfl ?_ ?_<;>(intro ht;rw [ht];first|replace ht := oet_ ht|replace ht := oef_ ht|skip))|(refine ych ?_;first|(refine ybw rfl ?_ ?_<;>intro ht)|(refine ybx rfl ?_ ?_<;>intro ht)))
    (refine yco (ycp Tryd.func28 rfl (by kernel_rfl) rfl) (draw_sp bv true key bn bu bt 0 (N.length + 1) 32 hk hk32 (by omega) (by omega) (by omega) h hv) rfl rfl rfl ?_ ?_ ?_; (· (exact to_)); (· intro _ _ hle; (exact to_)); intro x px hle)
    have hdl := drawF_len key 0 (N.length + 1) 32 (by omega)
    have hol : (bcs (drawF key 0 (N.length + 1) 32)).length = 32 := by rw [bcs_len, hdl]
    unfold blindF
    rw [hix]
    generalize drawF key 0 (N.length + 1) 32 = out at hdl hol ⊢
    refine rx_rowform 0 rfl (fun _ h1 _ => (by omega)) ?_
    rintro g6 cap6 rfl
    repeat' (first|(refine ycf ?_;apply ybk;(·first|(first|(refine qv_arrptr rfl (by omega))|(apply yad;(·rfl);(·exact row_cells 0 rfl);(·exact hol)))|(apply yae;(·rfl);(·(first|exact hv.at hk32 (.inl ⟨rfl, rfl⟩)|exact hv.at hk32 (.inr (.inl ⟨rfl, rfl⟩))))));(·rfl);(·rfl))|(refine ybg 1 rfl rfl rfl (by show (bcs out).toArray.size = 32;simpa using hol) (by show 0 + (bcs out).toArray.size ≤ _;rw [List.size_toArray, hol];exact nble rfl) (List.all_eq_true.2 (bcs_one out)) (ybh (by show (bcs out).length = _;rw [hol];rfl)) rfl rfl ?_ ?_ ?_;(·(exact to_));(·(exact to_)))|refine t1_ ?_|(refine ta_ ?_;intro _)|((fail_if_success (refine ybi rfl ?_));refine ybj rfl ?_ ?_<;>(intro ht;rw [ht];first|replace ht := oet_ ht|replace ht := oef_ ht|skip))|(refine ych ?_;first|(refine ybw rfl ?_ ?_<;>intro ht)|(refine ybx rfl ?_ ?_<;>intro ht)))
    exact nx_ret2 rfl (rv_cells rfl (yaz 1 rfl) (by show (bcs out).toArray.toList.length = 32; simpa using hol)) (rv_tmp rfl) (fun w' s' => ⟨(), rfl, s'.tl.tl, trivial⟩)
end Go.Proofs.YtgeepceieckooaaDoor
end
