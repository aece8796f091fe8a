/-
  Part 19 of a proof: ShE CkStr.
  Conditions: each theorem states its own.
-/
import Derived.Laws.IdiomStrings
import Derived.Test.YtkkjppeaaicgaaaGreatDoorSrGPM18
section
namespace Go.Proofs.YtkkjppeaaicgaaaGreatDoor
open Go Go.Ck
set_option maxRecDepth 100000
set_option maxHeartbeats 4000000
set_option linter.unusedVariables false
def padZ (n : Nat) : Nat := (119 - n % 64) % 64
def padF (b : List Int) : List Int := b ++ [128] ++ List.replicate (padZ b.length) 0 ++ num8 (8 * b.length)
def blocksF (p : List Int) : Nat → List W32
  | 0 => shH
  | k + 1 => mixF (blocksF p k) ((p.drop (64 * k)).take 64)
def shaF (b : List Int) : List Int := (blocksF (padF b) ((padF b).length / 64)).flatMap fun x => num4 x.toNat
theorem blocksF_len (p : List Int) : ∀ k, (blocksF p k).length = 8
  | 0 => rfl
  | k + 1 => mixF_len _ (blocksF_len p k)
theorem padF_len (b : List Int) : (padF b).length % 64 = 0 ∧ (padF b).length = b.length + 1 + padZ b.length + 8 := by
  have : (padF b).length = b.length + 1 + padZ b.length + 8 := by simp [padF, num8_len]; omega
  refine ⟨?_, this⟩
  rw [this]
  unfold padZ
  omega
theorem padF_bytes {b : List Int} (hb : Bytes b) : Bytes (padF b) := fun x hx => by
  unfold padF at hx
  rcases List.mem_append.1 hx with hx | hx
  · rcases List.mem_append.1 hx with hx | hx
    · rcases List.mem_append.1 hx with hx | hx
      · exact hb x hx
      · rw [List.mem_singleton.1 hx]; decide
    · rw [(List.mem_replicate.1 hx).2]; decide
  · exact putLow_bytes' _ _ x hx
theorem flatB_bytes {parts : List (Value × List Int)} (h : ∀ p ∈ parts, Bytes p.2) : Bytes (flatB parts parts.length) := fun x hx => by
  unfold flatB at hx
  obtain ⟨p, hp, hx⟩ := List.mem_flatMap.1 hx
  exact h p (List.mem_of_mem_take hp) x hx
theorem shaSum_sp (sv : Value) (parts : List (Value × List Int)) (h : View) (hs : Sc h 1 sv parts.length (parts.map (·.1))) (hp : ∀ p ∈ parts, Bs8 h p.1 p.2) (hby : ∀ p ∈ parts, Bytes p.2) (hlen : (flatB parts parts.length).length ≤ 900000) (hpl : parts.length ≤ 1000000) (hg : ShG h) (w : World) (s : St ⟨w, h, []⟩ h [] w) :
    Calls Tryz.prog 27 [sv].toArray w fun e w' => e = .returned (.agg (bcs (shaF (flatB parts parts.length))).toArray) ∧ St ⟨w, h, []⟩ h [] w' := by
  refine calls_enter Tryz.func27 rfl Tryz.ntmps27 rfl s ?_
  repeat' (first|refine tw_ ?_|(refine ta_ ?_;intro _)|((fail_if_success (refine ybi rfl ?_));refine ybj rfl ?_ ?_<;>(intro ht;rw [ht];first|replace ht := oet_ ht|replace ht := oef_ ht|skip))|(refine ych ?_;first|(refine ybw rfl ?_ ?_<;>intro ht)|(refine ybx rfl ?_ ?_<;>intro ht)))
  (refine yco (ycp Tryz.func58 rfl (by kernel_rfl) rfl) (bConcat_sp sv parts h hs hp (by omega) hpl) rfl rfl rfl ?_ ?_ ?_; (· (exact to_)); (· intro _ _ hle; (exact to_)); intro x px hle)
  repeat' (first|refine tw_ ?_|(refine ta_ ?_;intro _)|((fail_if_success (refine ybi rfl ?_));refine ybj rfl ?_ ?_<;>(intro ht;rw [ht];first|replace ht := oet_ ht|replace ht := oef_ ht|skip))|(refine ych ?_;first|(refine ybw rfl ?_ ?_<;>intro ht)|(refine ybx rfl ?_ ?_<;>intro ht)))
  rename_i b2
  generalize hbb : flatB parts parts.length = b at hlen ⊢
  refine rx_rowsl 0 rfl ?_
  rintro ad cap rfl
  have hw : IntKind.u64.wrap (b.length : Int) = (b.length : Int) := wrap_u64 (by omega) (by omega)
  repeat' (first|(refine ycf ?_;apply ybk;(·first|(first|(refine qv_convert_int' rfl hw)));(·rfl);(·rfl))|refine t1_ ?_|(refine ta_ ?_;intro _)|((fail_if_success (refine ybi rfl ?_));refine ybj rfl ?_ ?_<;>(intro ht;rw [ht];first|replace ht := oet_ ht|replace ht := oef_ ht|skip))|(refine ych ?_;first|(refine ybw rfl ?_ ?_<;>intro ht)|(refine ybx rfl ?_ ?_<;>intro ht)))
  refine rx_append (sz := 1) 1 rfl rfl rfl (yaz 0 rfl) rfl (bcs_one [128]) rfl (by omega) (by unfold maxLen; omega) (by omega) rfl rfl rfl ybf (fun _ => ybf) ?_
  intro v1 _
  repeat' (first|refine tw_ ?_|(refine ta_ ?_;intro _)|((fail_if_success (refine ybi rfl ?_));refine ybj rfl ?_ ?_<;>(intro ht;rw [ht];first|replace ht := oet_ ht|replace ht := oef_ ht|skip))|(refine ych ?_;first|(refine ybw rfl ?_ ?_<;>intro ht)|(refine ybx rfl ?_ ?_<;>intro ht)))
  refine cx_loop (X := Nat × Value) (fun y => [(2, .pointer (some ⟨b2, 0, none⟩)), (3, y.2), (4, .int .u64 (b.length : Nat))]) (fun _ => h) (fun y => [rowB y.2 (b ++ [128] ++ List.replicate y.1 0), Res.blk b2 (.cells (bcs (List.replicate 32 0)).toArray 31 (0, 0))])
    (fun y => y.1 ≤ padZ b.length) (fun y => padZ b.length - y.1) (0, v1) (Nat.zero_le _) ts_ (fun _ s => ?_) ?_
  · dsimp only
    rw [List.replicate_zero, List.append_nil]
    unfold rowB
    rw [List.length_append, bcs_app]
    exact s.tl
  rintro ⟨k, v⟩ hk
  replace hk : k ≤ padZ b.length := hk
  dsimp only
  have hpz : padZ b.length < 64 := by unfold padZ; omega
  have hpm : (b.length + 1 + padZ b.length) % 64 = 56 := by unfold padZ; omega
  have hln : (b ++ [128] ++ List.replicate k (0 : Int)).length = b.length + 1 + k := by simp; omega
  by_cases hkz : k < padZ b.length
  · have hrem : (((b ++ [128] ++ List.replicate k (0 : Int)).length : Nat) : Int).tmod 64 = (((b.length + 1 + k) % 64 : Nat) : Int) := by rw [hln]; rfl
    have hne : (b.length + 1 + k) % 64 ≠ 56 := by unfold padZ at hkz; omega
    refine cx_rowsl 0 rfl ?_
    rintro ad1 cap1 rfl
    repeat' (first|(refine ycf ?_;apply ybk;(·first|(first|(refine qv_remr rfl rfl (by decide) hrem)|exact tk_));(·rfl);(·rfl))|refine t1_ ?_|(refine ta_ ?_;intro _)|((fail_if_success (refine ybi rfl ?_));refine ybj rfl ?_ ?_<;>(intro ht;rw [ht];first|replace ht := oet_ ht|replace ht := oef_ ht|skip))|(refine ych ?_;first|(refine ybw rfl ?_ ?_<;>intro ht)|(refine ybx rfl ?_ ?_<;>intro ht)))
    refine rx_append (sz := 1) 1 rfl rfl rfl (yaz 0 rfl) rfl (bcs_one [0]) rfl (by omega) (by unfold maxLen; omega) (by omega) rfl rfl rfl ybf (fun _ => ybf) ?_
    intro v2 _
    repeat' (first|refine tw_ ?_|(refine ta_ ?_;intro _)|((fail_if_success (refine ybi rfl ?_));refine ybj rfl ?_ ?_<;>(intro ht;rw [ht];first|replace ht := oet_ ht|replace ht := oef_ ht|skip))|(refine ych ?_;first|(refine ybw rfl ?_ ?_<;>intro ht)|(refine ybx rfl ?_ ?_<;>intro ht)))
    refine nx_round (k + 1, v2) (by show k + 1 ≤ _; omega) (by show padZ b.length - (k + 1) < padZ b.length - k; omega) ts_ (fun _ s => ?_)
    dsimp only
    rw [List.replicate_succ', ← List.append_assoc]
    unfold rowB
    rw [List.length_append, bcs_app]
    exact s.tl
  · have ek : k = padZ b.length := by omega
    subst ek
    have hrem : (((b ++ [128] ++ List.replicate (padZ b.length) (0 : Int)).length : Nat) : Int).tmod 64 = 56 := by
      rw [hln, show (((b.length + 1 + padZ b.length : Nat) : Int)).tmod 64 = (((b.length + 1 + padZ b.length) % 64 : Nat) : Int) from rfl, hpm]
      rfl
    refine cx_rowsl 0 rfl ?_
    rintro ad1 cap1 rfl
    repeat' (first|(refine ycf ?_;apply ybk;(·first|(first|(refine qv_remr rfl rfl (by decide) hrem)|exact tk_));(·rfl);(·rfl))|refine t1_ ?_|(refine ta_ ?_;intro _)|((fail_if_success (refine ybi rfl ?_));refine ybj rfl ?_ ?_<;>(intro ht;rw [ht];first|replace ht := oet_ ht|replace ht := oef_ ht|skip))|(refine ych ?_;first|(refine ybw rfl ?_ ?_<;>intro ht)|(refine ybx rfl ?_ ?_<;>intro ht)))
    have hsh : IntKind.u64.wrap ((b.length : Int) * 2 ^ 3) = 8 * (b.length : Int) := by
      have e : (2 : Int) ^ 3 = 8 := by decide
      rw [e, Int.mul_comm]
      exact wrap_u64 (by omega) (by omega)
    repeat' (first|(refine ycf ?_;apply ybk;(·first|(first|(refine qv_shl (j := 3) rfl rfl (by decide) hsh)));(·rfl);(·rfl))|refine t1_ ?_|(refine ta_ ?_;intro _)|((fail_if_success (refine ybi rfl ?_));refine ybj rfl ?_ ?_<;>(intro ht;rw [ht];first|replace ht := oet_ ht|replace ht := oef_ ht|skip))|(refine ych ?_;first|(refine ybw rfl ?_ ?_<;>intro ht)|(refine ybx rfl ?_ ?_<;>intro ht)))
    have hp8 := putLow_len 8 (8 * (b.length : Int))
    (refine yco (ycp Tryz.func59 rfl (by kernel_rfl) rfl) (PutHigh_sp (8 * (b.length : Int)) 8 ⟨by omega, by omega⟩ (by omega) (by omega) h) rfl rfl rfl ?_ ?_ ?_; (· (exact to_)); (· intro _ _ hle; (exact to_)); intro x px hle)
    refine rx_rowform 0 rfl (fun _ h1 _ => (by rw [List.length_reverse] at h1; omega)) ?_
    rintro g cap2 rfl
    repeat' (first|(refine ycf ?_;apply ybk;(·first|(first|(refine qv_shl (j := 3) rfl rfl (by decide) hsh)));(·rfl);(·rfl))|refine t1_ ?_|(refine ta_ ?_;intro _)|((fail_if_success (refine ybi rfl ?_));refine ybj rfl ?_ ?_<;>(intro ht;rw [ht];first|replace ht := oet_ ht|replace ht := oef_ ht|skip))|(refine ych ?_;first|(refine ybw rfl ?_ ?_<;>intro ht)|(refine ybx rfl ?_ ?_<;>intro ht)))
    refine rx_append (sz := 1) 1 rfl rfl rfl (row_cells 0 rfl) (by rw [bcs_len, Nat.mul_one]) (bcs_one _) rfl (by omega) (by unfold maxLen; rw [List.length_reverse]; omega) (by rw [List.length_reverse]; omega) rfl rfl rfl ybf (fun _ => ybf) ?_
    intro v2 _
    refine rx_perm (perm_at (k := 1) rfl) ?_
    refine rx_persist rfl fun h1 hle1 hsp => ?_
    have hP : Bs8 h1 v2 (padF b) := by
      unfold Bs8
      have e : (padF b).length = (b ++ [128] ++ List.replicate (padZ b.length) (0 : Int)).length + (putLow 8 (8 * (b.length : Int))).reverse.length := by unfold padF; rw [List.length_append]; rfl
      rw [e, show bcs (padF b) = bcs (b ++ [128] ++ List.replicate (padZ b.length) (0 : Int)) ++ bcs (putLow 8 (8 * (b.length : Int))).reverse by unfold padF; rw [bcs_app]; rfl]
      exact hsp
    have hg1 := hg.mono hle1
    obtain ⟨_, eS, fzS, hgS⟩ := id hg1
    have hcS : ∀ L, Cells h1 L ⟨0, 0, none⟩ (up32 shH) := fun L => cells_view (cs := (up32 shH).toArray) hgS
    have h8 : shH.length = 8 := rfl
    have hpl2 := padF_len b
    have hpb : Bytes (padF b) := padF_bytes (by rw [← hbb]; exact flatB_bytes hby)
    have e0 : blocksF (padF b) 0 = shH := rfl
    generalize hpF : padF b = p at hP hpl2 hpb e0 ⊢
    repeat' (first|(refine ycf ?_;apply ybk;(·first|(apply yad;(·rfl);(·exact hcS _);(·rfl)));(·rfl);(·rfl))|(refine ybg 0 rfl rfl rfl (w_sz h8) (w_fit h8 (by rfl)) (w_one shH) (ybh (w_all h8 (by rfl))) rfl rfl ?_ ?_ ?_;(·(exact to_));(·(exact to_)))|refine t1_ ?_|(refine ta_ ?_;intro _)|((fail_if_success (refine ybi rfl ?_));refine ybj rfl ?_ ?_<;>(intro ht;rw [ht];first|replace ht := oet_ ht|replace ht := oef_ ht|skip))|(refine ych ?_;first|(refine ybw rfl ?_ ?_<;>intro ht)|(refine ybx rfl ?_ ?_<;>intro ht)))
    rename_i b5
    obtain ⟨_, adp, capp, rfl, hcapp, _⟩ := id hP
    refine cx_loop (X := Nat × Option Addr × Nat) (fun y => [(2, .pointer (some ⟨b2, 0, none⟩)), (3, .slice y.2.1 (p.length - 64 * y.1) y.2.2), (5, .pointer (some ⟨b5, 0, none⟩))]) (fun _ => h1)
      (fun y => [Res.blk b5 (.cells (up32 (blocksF p y.1)).toArray 102 (0, 0)), Res.blk b2 (.cells (bcs (List.replicate 32 0)).toArray 31 (0, 0))])
      (fun y => 64 * y.1 ≤ p.length ∧ Bs8 h1 (.slice y.2.1 (p.length - 64 * y.1) y.2.2) (p.drop (64 * y.1))) (fun y => p.length - 64 * y.1) (0, adp, capp) ⟨by omega, by simpa using hP⟩ ts_ (fun _ s => ?_) ?_
    · dsimp only
      rw [e0]
      exact (s.perm (List.Perm.swap _ _ _)).tl
    rintro ⟨k, ad3, cap3⟩ ⟨hk, hv⟩
    dsimp only at hk hv ⊢
    have hbl := blocksF_len p k
    have hlen : (p.drop (64 * k)).length = p.length - 64 * k := by simp
    by_cases hkl : 64 * k < p.length
    · have hge : 64 ≤ p.length - 64 * k := by omega
      have hv2 : Bs8 h1 (.slice ad3 (p.drop (64 * k)).length cap3) (p.drop (64 * k)) := by rw [hlen]; exact hv
      have hT : Bs8 h1 (.slice ad3 64 cap3) ((p.drop (64 * k)).take 64) := by
        have e64 : ((p.drop (64 * k)).take 64).length = 64 := by simp; omega
        have := sc_take hv2 (j := 64) (by omega)
        unfold Bs8
        rw [e64]
        simpa [bcs] using this
      have hD : Bs8 h1 (.slice (cutF ad3 cap3 64 1) (p.length - 64 * (k + 1)) (cap3 - 64)) (p.drop (64 * (k + 1))) := by
        have := sc_drop hv2 (by decide) (j := 64) (by omega)
        have e1 : (p.drop (64 * (k + 1))).length = p.length - 64 * (k + 1) := by simp
        unfold Bs8
        rw [e1]
        have e2 : bcs (p.drop (64 * (k + 1))) = (bcs (p.drop (64 * k))).drop (64 * 1) := by simp [bcs, List.drop_drop]; congr 1
        rw [e2, show p.length - 64 * (k + 1) = (p.drop (64 * k)).length - 64 by rw [hlen]; omega]
        exact this
      have M := mix_sp (blocksF p k) _ _ hbl (bytes_take (bytes_drop hpb (64 * k)) 64) (by simp; omega) h1 hT hg1
      rw [show mixF (blocksF p k) ((p.drop (64 * k)).take 64) = blocksF p (k + 1) from rfl] at M
      have hbl2 := blocksF_len p (k + 1)
      generalize hnx : blocksF p (k + 1) = nx at M hbl2
      generalize blocksF p k = cu at M hbl
      have hcap3 : p.length - 64 * k ≤ cap3 := by
        obtain ⟨_, _, cc, e7, hc, _⟩ := id hv2
        injection e7 with _ _ e9
        omega
      repeat' (first|(refine ycf ?_;apply ybk;(·first|(first|exact tk_|(apply yad;(·rfl);(·exact yaz 0 rfl);(·exact w_sz hbl))|(apply qv_slice_to;(·rfl);(·rfl);(·omega);(·omega))|(refine qv_slice_from (i := 64) rfl rfl (by omega))));(·rfl);(·rfl))|(refine ybg 0 rfl rfl rfl (w_sz hbl2) (w_fit hbl2 (w_sz hbl)) (w_one nx) (ybh (w_all hbl2 (w_sz hbl))) rfl rfl ?_ ?_ ?_;(·(exact to_));(·(exact to_)))|refine t1_ ?_|(refine ta_ ?_;intro _)|((fail_if_success (refine ybi rfl ?_));refine ybj rfl ?_ ?_<;>(intro ht;rw [ht];first|replace ht := oet_ ht|replace ht := oef_ ht|skip))|(refine ych ?_;first|(refine ybw rfl ?_ ?_<;>intro ht)|(refine ybx rfl ?_ ?_<;>intro ht)))
      refine cx_region_draw' rfl (by kernel_rfl) ?_
      repeat' (refine ycf ?_;(first|(first|(apply ybm;(·(first|(first|exact tk_|(apply yad;(·rfl);(·exact yaz 0 rfl);(·exact w_sz hbl))|(apply qv_slice_to;(·rfl);(·rfl);(·omega);(·omega))|(refine qv_slice_from (i := 64) rfl rfl (by omega)))|exact tq_));(·rfl);(·rfl);(·(exact th_)))|refine ybl rfl rfl ?_|((fail_if_success (refine ybi rfl ?_));refine ybj rfl ?_ ?_<;>(intro ht;rw [ht];first|replace ht := oet_ ht|replace ht := oef_ ht|skip))|(refine tb_ ?_ ?_ ?_;(·(exact to_));(·intro _;(exact to_));intro _)|(first|(refine ybg 0 rfl rfl rfl (w_sz hbl2) (w_fit hbl2 (w_sz hbl)) (w_one nx) (ybh (w_all hbl2 (w_sz hbl))) rfl rfl ?_ ?_ ?_;(·(exact to_));(·(exact to_)))|(refine tqs_ ?_ ?_ ?_;(·(exact to_));(·(exact to_))))|(apply ybn;(·(first|(first|exact tk_|(apply yad;(·rfl);(·exact yaz 0 rfl);(·exact w_sz hbl))|(apply qv_slice_to;(·rfl);(·rfl);(·omega);(·omega))|(refine qv_slice_from (i := 64) rfl rfl (by omega)))|exact tq_));(·rfl);(·rfl);(·rfl);(·(exact to_))))|refine ycg ?_))
      (refine ycn (ycp Tryz.func60 rfl (by kernel_rfl) rfl) (M) rfl rfl rfl ?_ ?_; (· (exact to_)))
      repeat' (refine ycf ?_;(first|(first|(apply ybm;(·(first|(first|exact tk_|(apply yad;(·rfl);(·exact yaz 0 rfl);(·exact w_sz hbl))|(apply qv_slice_to;(·rfl);(·rfl);(·omega);(·omega))|(refine qv_slice_from (i := 64) rfl rfl (by omega)))|exact tq_));(·rfl);(·rfl);(·(exact th_)))|refine ybl rfl rfl ?_|((fail_if_success (refine ybi rfl ?_));refine ybj rfl ?_ ?_<;>(intro ht;rw [ht];first|replace ht := oet_ ht|replace ht := oef_ ht|skip))|(refine tb_ ?_ ?_ ?_;(·(exact to_));(·intro _;(exact to_));intro _)|(first|(refine ybg 0 rfl rfl rfl (w_sz hbl2) (w_fit hbl2 (w_sz hbl)) (w_one nx) (ybh (w_all hbl2 (w_sz hbl))) rfl rfl ?_ ?_ ?_;(·(exact to_));(·(exact to_)))|(refine tqs_ ?_ ?_ ?_;(·(exact to_));(·(exact to_))))|(apply ybn;(·(first|(first|exact tk_|(apply yad;(·rfl);(·exact yaz 0 rfl);(·exact w_sz hbl))|(apply qv_slice_to;(·rfl);(·rfl);(·omega);(·omega))|(refine qv_slice_from (i := 64) rfl rfl (by omega)))|exact tq_));(·rfl);(·rfl);(·rfl);(·(exact to_))))|refine ycg ?_))
      repeat' (first|(refine ycf ?_;apply ybk;(·first|(first|exact tk_|(apply yad;(·rfl);(·exact yaz 0 rfl);(·exact w_sz hbl))|(apply qv_slice_to;(·rfl);(·rfl);(·omega);(·omega))|(refine qv_slice_from (i := 64) rfl rfl (by omega))));(·rfl);(·rfl))|refine t1_ ?_|(refine ta_ ?_;intro _)|((fail_if_success (refine ybi rfl ?_));refine ybj rfl ?_ ?_<;>(intro ht;rw [ht];first|replace ht := oet_ ht|replace ht := oef_ ht|skip))|(refine ych ?_;first|(refine ybw rfl ?_ ?_<;>intro ht)|(refine ybx rfl ?_ ?_<;>intro ht)))
      refine nx_round (k + 1, cutF ad3 cap3 64 1, cap3 - 64) ⟨by show 64 * (k + 1) ≤ p.length; omega, hD⟩ (by show p.length - 64 * (k + 1) < p.length - 64 * k; omega) ?_ (fun _ s => by dsimp only; rw [hnx]; exact s)
      dsimp only
      rw [show p.length - 64 * (k + 1) = p.length - 64 * k - 64 by omega]
      exact ts_
    · have ek : k = p.length / 64 := by omega
      subst ek
      generalize hR : blocksF p (p.length / 64) = R at hbl ⊢
      repeat' (first|(refine ycf ?_;apply ybk;(·first|(first|exact tk_|(apply yad;(·rfl);(·exact yaz 0 rfl);(·exact w_sz hbl))));(·rfl);(·rfl))|refine t1_ ?_|(refine ta_ ?_;intro _)|((fail_if_success (refine ybi rfl ?_));refine ybj rfl ?_ ?_<;>(intro ht;rw [ht];first|replace ht := oet_ ht|replace ht := oef_ ht|skip))|(refine ych ?_;first|(refine ybw rfl ?_ ?_<;>intro ht)|(refine ybx rfl ?_ ?_<;>intro ht)))
      refine cx_row 5 1 ?_
      refine cx_loop (X := Nat × Value) (fun y => [(2, .pointer (some ⟨b2, 0, none⟩)), (6, y.2), (39, .agg (up32 R).toArray), (40, .int .i64 (y.1 : Nat))]) (fun _ => h1)
        (fun y => [rowB y.2 ((R.take y.1).flatMap fun x => num4 x.toNat), Res.blk b5 (.cells (up32 R).toArray 102 (0, 0)), Res.blk b2 (.cells (bcs (List.replicate 32 0)).toArray 31 (0, 0))])
        (fun y => y.1 ≤ 8) (fun y => 8 - y.1) (0, .slice none 0 0) (Nat.zero_le _) ts_ (fun _ s => s) ?_
      rintro ⟨i, vo⟩ hi
      replace hi : i ≤ 8 := hi
      dsimp only
      have hfl : ((R.take i).flatMap fun x => num4 x.toNat).length = 4 * i := by
        have : ∀ l : List W32, (l.flatMap fun x => num4 x.toNat).length = 4 * l.length := fun l => by
          induction l with
          | nil => rfl
          | cons a l ih => rw [List.flatMap_cons, List.length_append, num4_len, ih, List.length_cons]; omega
        rw [this, List.length_take]; omega
      by_cases hi8 : i < 8
      · have hgx := getD_at (l := R) (i := i) (by omega)
        have hfs : ((R.take (i + 1)).flatMap fun x => num4 x.toNat) = ((R.take i).flatMap fun x => num4 x.toNat) ++ num4 (R.getD i 0).toNat := by
          rw [flat_succ (by omega : i < R.length)]
          congr 3
          simp [List.getD_eq_getElem?_getD, hbl, hi8]
        generalize R.getD i 0 = xi at hgx hfs
        have hidx : (up32 R).toArray[((i : Int)).toNat * 1]? = some (v32 xi) := by
          rw [Nat.mul_one, Int.toNat_natCast, List.getElem?_toArray]
          exact up32_at hgx
        have hp4 := putLow_len 4 (xi.toNat : Int)
        have hx32 := xi.isLt
        repeat' (first|(refine ycf ?_;apply ybk;(·first|(first|exact tk_|(apply qv_index;(·rfl);(·rfl);(·omega);(·omega);(·exact hidx))|(refine qv_widen (m' := 64) rfl rfl rfl (by omega))));(·rfl);(·rfl))|refine t1_ ?_|(refine ta_ ?_;intro _)|((fail_if_success (refine ybi rfl ?_));refine ybj rfl ?_ ?_<;>(intro ht;rw [ht];first|replace ht := oet_ ht|replace ht := oef_ ht|skip))|(refine ych ?_;first|(refine ybw rfl ?_ ?_<;>intro ht)|(refine ybx rfl ?_ ?_<;>intro ht)))
        (refine yco (ycp Tryz.func59 rfl (by kernel_rfl) rfl) (PutHigh_sp (xi.toNat : Int) 4 ⟨by omega, by omega⟩ (by omega) (by omega) h1) rfl rfl rfl ?_ ?_ ?_; (· (exact to_)); (· intro _ _ hle; (exact to_)); intro x px hle)
        refine rx_rowform 0 rfl (fun _ h1 _ => (by rw [List.length_reverse] at h1; omega)) ?_
        rintro g4 cap4 rfl
        repeat' (first|refine tw_ ?_|(refine ta_ ?_;intro _)|((fail_if_success (refine ybi rfl ?_));refine ybj rfl ?_ ?_<;>(intro ht;rw [ht];first|replace ht := oet_ ht|replace ht := oef_ ht|skip))|(refine ych ?_;first|(refine ybw rfl ?_ ?_<;>intro ht)|(refine ybx rfl ?_ ?_<;>intro ht)))
        refine rx_append (sz := 1) 1 rfl rfl rfl (row_cells 0 rfl) (by rw [bcs_len, Nat.mul_one]) (bcs_one _) rfl (by omega) (by unfold maxLen; rw [List.length_reverse]; omega) (by rw [List.length_reverse]; omega) rfl rfl rfl ybf (fun _ => ybf) ?_
        intro v5 _
        repeat' (first|refine tw_ ?_|(refine ta_ ?_;intro _)|((fail_if_success (refine ybi rfl ?_));refine ybj rfl ?_ ?_<;>(intro ht;rw [ht];first|replace ht := oet_ ht|replace ht := oef_ ht|skip))|(refine ych ?_;first|(refine ybw rfl ?_ ?_<;>intro ht)|(refine ybx rfl ?_ ?_<;>intro ht)))
        refine nx_round (i + 1, v5) (by show i + 1 ≤ 8; omega) (by show 8 - (i + 1) < 8 - i; omega) ts_ (fun _ s => ?_)
        dsimp only
        rw [hfs]
        unfold rowB
        rw [List.length_append, bcs_app]
        exact s.tl
      · have ei : i = 8 := by omega
        subst ei
        rw [List.take_of_length_le (by omega)] at hfl ⊢
        repeat' (first|(refine ycf ?_;apply ybk;(·first|(exact tk_));(·rfl);(·rfl))|refine t1_ ?_|(refine ta_ ?_;intro _)|((fail_if_success (refine ybi rfl ?_));refine ybj rfl ?_ ?_<;>(intro ht;rw [ht];first|replace ht := oet_ ht|replace ht := oef_ ht|skip))|(refine ych ?_;first|(refine ybw rfl ?_ ?_<;>intro ht)|(refine ybx rfl ?_ ?_<;>intro ht)))
        refine rx_rowform 0 rfl (fun _ h1 _ => (by omega)) ?_
        rintro g6 cap6 rfl
        have hsha : shaF b = R.flatMap fun x => num4 x.toNat := by
          unfold shaF
          rw [hpF, hR]
        rw [hsha]
        generalize (R.flatMap fun x => num4 (x.toNat : Int)) = out at hfl ⊢
        have hol : (bcs out).length = 32 := by rw [bcs_len]; omega
        repeat' (first|(refine ycf ?_;apply ybk;(·first|(first|(refine qv_arrptr rfl (by omega))|(apply yad;(·rfl);(·exact row_cells 0 rfl);(·exact hol))));(·rfl);(·rfl))|(refine ybg 2 rfl rfl rfl (by show (bcs out).toArray.size = 32;simpa using hol) (by show 0 + (bcs out).toArray.size ≤ _;simp [bcs_len];omega) (List.all_eq_true.2 (bcs_one out)) (ybh (by show (bcs out).length = _;rw [hol];rfl)) rfl rfl ?_ ?_ ?_;(·(exact to_));(·(exact to_)))|refine t1_ ?_|(refine ta_ ?_;intro _)|((fail_if_success (refine ybi rfl ?_));refine ybj rfl ?_ ?_<;>(intro ht;rw [ht];first|replace ht := oet_ ht|replace ht := oef_ ht|skip))|(refine ych ?_;first|(refine ybw rfl ?_ ?_<;>intro ht)|(refine ybx rfl ?_ ?_<;>intro ht)))
        exact nx_ret1 rfl (rv_cells rfl (yaz 2 rfl) (by show (bcs out).toArray.toList.length = 32; simpa using hol)) (fun w' s' => ⟨rfl, s'.nil.base⟩)
end Go.Proofs.YtkkjppeaaicgaaaGreatDoor
end

section
namespace Go.Ck
open Go
set_option linter.unusedVariables false
set_option linter.unusedSimpArgs false
set_option maxHeartbeats 4000000
theorem run_storeCells_fz {P : Program} (g o : Nat) (t : TypeId) (fz : Nat × Nat) : ∀ (vs : List Value) (i : Nat) (cur : Array Value) (w : World), w.heap[g]? = some (.cells cur t fz) → (fz.2 ≤ fz.1 ∨ cur.size ≤ fz.1) → o + i + vs.length ≤ cur.size → (∀ v ∈ vs, v.oneCell' = true) →
    (storeCells ⟨g, o, none⟩ vs i).run P w = .ok () (w.setRow g (cur.toList.take (o + i) ++ vs ++ cur.toList.drop (o + i + vs.length)).toArray)
  | [], i, cur, w, hg, _, _, _ => by
    simp only [storeCells, List.append_nil, List.length_nil, Nat.add_zero, List.take_append_drop, Array.toArray_toList]
    rw [setRow_self w g cur t fz hg]
    rfl
  | v :: rest, i, cur, w, hg, hf, hl, h1 => by
    have hi : o + i < cur.size := by simp at hl; omega
    have hadd : (⟨g, o, none⟩ : Addr).add i = ⟨g, o + i, none⟩ := by unfold Addr.add;split<;>simp_all
    have hcell : w.cell? ⟨g, o + i, none⟩ = some cur[o + i] := by simp [World.cell?, hg, hi]
    have hfro : w.frozen? ⟨g, o + i, none⟩ = false := by
      simp only [World.frozen?, hg]
      rcases hf with hf | hf
      · by_cases h : fz.1 ≤ o + i
        · simp [h]; omega
        · simp [h]
      · have h : ¬ fz.1 ≤ o + i := by omega
        simp [h]
    have hst : (store ((⟨g, o, none⟩ : Addr).add i) v).run P w = .ok () (w.setRow g (cur.setIfInBounds (o + i) v)) := by
      rw [hadd, run_store P w _ v _ (h1 v (by simp)), hcell]
      simp [hfro, setCell_eq_setRow w g (o + i) cur t fz v hg]
    have ih := run_storeCells_fz (P := P) g o t fz rest (i + 1) (cur.setIfInBounds (o + i) v) (w.setRow g (cur.setIfInBounds (o + i) v)) (setRow_heap w g cur _ t _ hg) (by simpa using hf) (by simp at hl ⊢; omega) (fun x hx => h1 x (by simp [hx]))
    simp only [storeCells, Sem.run_bind, hst, Result.andThen_ok, ih, setRow_setRow]
    congr 3
    have e := list_seg_step cur.toList (o + i) v rest (by simp at hl ⊢; omega)
    simpa [Array.toList_setIfInBounds, Nat.add_assoc] using e
def OwnsB (w : World) (e : TypeId) (v : Value) (n : Nat) (xs : List Value) : Prop :=
  xs.length = n ∧ ((v = .slice none 0 0 ∧ n = 0) ∨
    ∃ g cap cur fz, v = .slice (some ⟨g, 0, none⟩) n cap ∧ w.heap[g]? = some (.cells cur e fz) ∧ n ≤ cap ∧ cap ≤ maxLen ∧ cur.size = cap ∧ cur.toList.take n = xs ∧ (fz.2 ≤ fz.1 ∨ cur.size ≤ fz.1))
def Res.srow (e : TypeId) (v : Value) (n : Nat) (xs : List Value) : Res where
  dom := v.ownBlock.toList
  sat := fun w => OwnsB w e v n xs
  loc := fun w w' hh hs => by
    refine ⟨hs.1, ?_⟩
    rcases hs.2 with hn | ⟨g, cap, cur, fz, rfl, hgg, rest⟩
    · exact .inl hn
    · exact .inr ⟨g, cap, cur, fz, rfl, by rw [hh g (by simp [Value.ownBlock])]; exact hgg, rest⟩
  lt := fun w hs b hb => by
    have hb : v.ownBlock = some b := by simpa using hb
    rcases hs.2 with ⟨rfl, _⟩ | ⟨g, cap, cur, fz, rfl, hgg, rest⟩
    · cases hb
    · simp only [Value.ownBlock, Option.some.injEq] at hb
      subst hb
      exact (Array.getElem?_eq_some_iff.1 hgg).1
structure Src (P : Program) (h : View) (L : List Res) (x : Value) (m : Nat) (news : List Value) : Prop where
  len : ∀ w, (Builtin.lenOf x).run P w = .ok m w
  cells : ∀ w, Hd h L w → (Builtin.firstCells 1 m x).run P w = .ok news.toArray w
  nl : news.length = m
section
variable {P : Program} {n : Nat} {K : Bs} {F : List (Nat × Value)} {h : View} {L : List Res} {Q : Exit → Act → World → Prop}
variable {dst : Option Nat} {ty : Nat} {pos : String} {af : Array Edge} {gd : Option (Nat × Bool)}
theorem Hd.heap {w w' : World} (hd : Hd h L w) (e : w'.heap = w.heap) : Hd h L w' := ⟨fun b o hb => by rw [e]; exact hd.view b o hb, fun r hr => r.loc w w' (fun b _ => by rw [e]) (hd.own r hr)⟩
theorem src_cells {ad : Addr} {m c : Nat} {news : List Value} (hc : Cells h L ad news) (hl : news.length = m) : Src P h L (.slice (some ad) m c) m news :=
  ⟨fun w => by simp [Builtin.lenOf], fun w hd => run_firstCells_some (P := P) w 1 m ad m c news (by simpa using hl) (fun j u hj => hc w hd j u hj), hl⟩
theorem run_appendB {w : World} {T U e : TypeId} {ty' : TypeId} {z : Value} {by' : Nat} {d : TypeDesc} (ht : P.underlying T = some (.slice e)) (hU : P.underlying U = some d) (hd : d = .slice e ∨ d = .string) (tb : TyB P e z 1 by') (hzs : z.cells.size = 1) {v x : Value} {m0 m : Nat} {xs news : List Value} (hown : OwnsB w e v m0 xs)
    (hs : Src P h L x m news) (hh : Hd h L w) (h1 : ∀ u ∈ news, u.oneCell' = true) (h63 : m0 + m ≤ maxLen) (hbytes : (m0 + m) * by' ≤ 140737488355328) :
    ∃ v' w', (Builtin.append_ #[T, U] ty' #[v, x]).run P w = .ok v' w' ∧ OwnsB w' e v' (m0 + m) (xs ++ news) ∧ w.grownBy w' v.ownBlock ∧ w.drawn ≤ w'.drawn ∧ (v'.ownBlock = v.ownBlock ∨ ∃ b, v'.ownBlock = some b ∧ w.heap.size ≤ b) := by
  obtain ⟨i, hi, hz, hsize, hby⟩ := tb.ex
  subst hby
  have hsmall : m0 + m ≤ 9223372036854775807 := by simp only [maxLen] at h63; omega
  have hlen : (xs ++ news).length = m0 + m := by rw [List.length_append, hown.1, hs.nl]
  have hl0 := hs.len w
  have hnl := hs.nl
  have hc0 := hs.cells w hh
  have hc1 := hs.cells w.drew (hh.heap rfl)
  have grown : ∀ (old : Nat), old < m0 + m → ∀ (row : Option Nat),
      OwnsB (w.drew.alloc (.cells (xs.toArray ++ news.toArray ++ Builtin.zeroCells z.cells (grownCap w (m0 + m) old e - (m0 + m))) e)) e
        (.slice (some ⟨w.heap.size, 0, none⟩) (m0 + m) (grownCap w (m0 + m) old e)) (m0 + m) (xs ++ news) ∧
      w.grownBy (w.drew.alloc (.cells (xs.toArray ++ news.toArray ++ Builtin.zeroCells z.cells (grownCap w (m0 + m) old e - (m0 + m))) e)) row := by
    intro old ho row
    have hge := grownCap_ge w (m0 + m) old e
    have hcm : grownCap w (m0 + m) old e ≤ maxLen := grownCap_le_maxLen w (m0 + m) old e h63
    refine ⟨⟨hlen, .inr ⟨w.heap.size, _, _, (0, 0), rfl, heap_alloc_new w.drew _, hge, hcm, ?_, ?_, .inl (Nat.le_refl _)⟩⟩, ⟨rfl, rfl, rfl, by simp, fun k hk _ => Go.RowKit.Below.heap_alloc w.drew _ k hk⟩⟩
    · simp only [Array.size_append, List.size_toArray, size_zeroCells, hzs, hown.1, hnl]
      omega
    · simp only [Array.toList_append, List.append_assoc]
      rw [← List.append_assoc, ← hlen]
      exact List.take_left
  rcases hown.2 with ⟨rfl, rfl⟩ | ⟨g, cap, cur, fz, rfl, hgg, hnc, hcm, hcs, htake, hfz⟩
  · have hx : xs = [] := List.eq_nil_of_length_eq_zero (by simpa using hown.1)
    subst hx
    by_cases hm : m = 0
    · subst hm
      have hn : news = [] := List.eq_nil_of_length_eq_zero hnl
      subst hn
      refine ⟨.slice none 0 0, w, ?_, ⟨rfl, .inl ⟨rfl, rfl⟩⟩, ⟨rfl, rfl, rfl, Nat.le_refl _, fun _ _ _ => rfl⟩, Nat.le_refl _, .inl rfl⟩
      rcases hd with rfl | rfl<;>simp [Builtin.append_, run_underlying ht, run_underlying hU, sizeOf, typeInfo, hi, hsize, hl0, hc0]
    · have hgr := grown 0 (by omega) (Value.ownBlock (.slice none 0 0))
      simp only [Nat.zero_add, List.nil_append, Array.empty_append] at hgr ⊢
      refine ⟨_, _, ?_, hgr.1, hgr.2, Nat.le_succ _, .inr ⟨_, rfl, Nat.le_refl _⟩⟩
      have h63' : ¬ (9223372036854775807 < (m : Int)) := by omega
      have h48' : ¬ (281474976710656 < Builtin.nextslicecap m 0 * i.bytes) := by
        rw [nextslicecap_zero (by omega)]
        simp only [Nat.zero_add] at hbytes
        omega
      have hf0 : (Builtin.firstCells 1 0 (.slice none 0 0)).run P w.drew = .ok #[] w.drew := by simp [Builtin.firstCells]
      rcases hd with rfl | rfl<;>(simp [Builtin.append_, run_underlying ht, run_underlying hU, sizeOf, typeInfo, zeroValue, hi, hz, hsize, hl0, hc1, hm, h63', h48', hf0, Question.forced, newRow, grownCap])
  · by_cases hroom : m0 + m ≤ cap
    · have hst := run_storeCells_fz (P := P) g m0 e fz news 0 cur w hgg hfz (by omega) h1
      simp only [Nat.add_zero] at hst
      refine ⟨.slice (some ⟨g, 0, none⟩) (m0 + m) cap, w.setRow g (cur.toList.take m0 ++ news ++ cur.toList.drop (m0 + news.length)).toArray, ?_, ⟨hlen, .inr ⟨g, cap, _, fz, rfl, setRow_heap w g cur _ e _ hgg, hroom, hcm, ?_, ?_, ?_⟩⟩, ⟨rfl, rfl, rfl, by simp, fun k _ hk => setRow_other w g k _ (fun e => hk (by simp [Value.ownBlock, e]))⟩, by simp, .inl rfl⟩
      · rcases hd with rfl | rfl<;>(simp [Builtin.append_, run_underlying ht, run_underlying hU, sizeOf, typeInfo, hi, hsize, hl0, hc0, hroom, Addr.add_lit, hst])
      · simp only [List.size_toArray, List.length_append, List.length_take, List.length_drop, Array.length_toList]
        omega
      · rw [htake, ← hlen]
        exact List.take_left
      · rcases hfz with hfz | hfz
        · exact .inl hfz
        · refine .inr ?_
          simp only [List.size_toArray, List.length_append, List.length_take, List.length_drop, Array.length_toList]
          omega
    · have holds : ∀ j u, xs[j]? = some u → w.drew.cell? ((⟨g, 0, none⟩ : Addr).add j) = some u := fun j u hj => by
        rw [Addr.add_off]
        have hb : w.drew.heap[g]? = some (.cells cur e fz) := hgg
        simp [World.cell?, hb]
        rw [← htake, List.getElem?_take] at hj
        split at hj
        · simpa using hj
        · cases hj
      have hfo := run_firstCells_some (P := P) w.drew 1 m0 ⟨g, 0, none⟩ m0 cap xs (by simpa using hown.1) holds
      have hgr := grown cap (by omega) (Value.ownBlock (.slice (some ⟨g, 0, none⟩) m0 cap))
      refine ⟨_, _, ?_, hgr.1, hgr.2, Nat.le_succ _, .inr ⟨_, rfl, Nat.le_refl _⟩⟩
      have h63' : ¬ (9223372036854775807 < ((m0 : Int) + (m : Int))) := by omega
      have hfit := growslice_fits (need := m0 + m) (old := cap) (by omega) hbytes
      have h48' : ¬ (281474976710656 < Builtin.nextslicecap (m0 + m) cap * i.bytes) := by omega
      rcases hd with rfl | rfl<;>(simp [Builtin.append_, run_underlying ht, run_underlying hU, sizeOf, typeInfo, zeroValue, hi, hz, hsize, hl0, hc1, hroom, h63', h48', Question.forced, hfo, newRow, grownCap];congr 2;apply Array.ext';simp [List.append_assoc])
theorem rx_append_b {g : Rg} {i : Nat} {r : List (Nat × Oper)} {T U e : TypeId} {x y : Operand} {z v sv : Value} {by' m0 m : Nat} {xs news : List Value} {d : TypeDesc} (k : Nat) [tu : TyU P T (.slice e)] [tU : TyU P U d] [tb : TyB P e z 1 by'] (hx : ev F x = some v) (hy : ev F y = some sv)
    (hk : L[k]? = some (Res.srow e v m0 xs)) (hs : Src P h L sv m news) (hdd : d = .slice e ∨ d = .string) (h1 : ∀ u ∈ news, u.oneCell' = true) (hzs : z.cells.size = 1) (h63 : m0 + m ≤ maxLen) (hbytes : (m0 + m) * by' ≤ 140737488355328)
    (hw : wantedF g.ops F ⟨dst, .call ⟨.builtin .append, #[x, y], #[T, U]⟩, ty, pos, af, gd⟩ = some true) (hd : okd n dst = true) (hlo : g.lo i = true) (o1 : Owe g i h L)
    (o2 : ∀ v', Owe g i h (L.set k (Res.srow e v' (m0 + m) (xs ++ news))))
    (hn : ∀ v', RX P n K g r (putF dst v' F) h (L.set k (Res.srow e v' (m0 + m) (xs ++ news))) Q) :
    RX P n K g ((i, ⟨dst, .call ⟨.builtin .append, #[x, y], #[T, U]⟩, ty, pos, af, gd⟩) :: r) F h L Q := by
  unfold RX at *
  intro a w f s
  have hown : OwnsB w e v m0 xs := s.hd.own _ (List.mem_of_getElem? hk)
  obtain ⟨v', w', hrun, how', hgr, hdr, hblk⟩ := run_appendB (P := P) (ty' := ty) tu.u tU.u hdd tb hzs hown hs s.hd h1 h63 hbytes
  have s' : St K h (L.set k (Res.srow e v' (m0 + m) (xs ++ news))) w' := by
    refine s.swap hk hgr.os hgr.tape hgr.output hdr hgr.size (fun j hj hjd => hgr.block j hj (fun hh => hjd ?_)) how' ?_ (fun b hb => ?_)
    · show j ∈ v.ownBlock.toList
      rw [← hh]; simp
    · show v'.ownBlock.toList.Nodup
      cases v'.ownBlock <;> simp
    · have hb : v'.ownBlock = some b := by simpa [Res.srow] using hb
      rcases hblk with hh | ⟨b', hh, hge⟩
      · refine .inl ?_
        show b ∈ v.ownBlock.toList
        rw [← hh, hb]; simp
      · rw [hb] at hh; cases hh; exact .inr hge
  refine .inr (.inr ⟨wantedF_ok f hw, hlo, o1.out s, ?_⟩)
  unfold Oper.wp
  have : (execOp a.eval ⟨dst, .call ⟨.builtin .append, #[x, y], #[T, U]⟩, ty, pos, af, gd⟩).run P w = .ok (.value v') w' := by
    simp [execOp, resolve, invoke, builtin, f.ev hx, f.ev hy, hrun]
  rw [this]
  exact ⟨(o2 v').out s', hn v' _ _ (f.put hd v') s'⟩
theorem St.srowPersist {e : TypeId} {v : Value} {m : Nat} {xs : List Value} {w : World} (s : St K h (Res.srow e v m xs :: L) w) (hA : K.A = []) : ∃ h', Le h h' ∧ Sc h' 1 v m xs ∧ St K h' L w := by
  have ho : OwnsB w e v m xs := s.hd.own _ (List.mem_cons_self ..)
  obtain ⟨q0, q1 | ⟨g, cap, cur, fz, rfl, q3, q4, q5, q6, q7, q8⟩⟩ := ho
  · obtain ⟨rfl, rfl⟩ := q1
    have hx : xs = [] := List.eq_nil_of_length_eq_zero (by omega)
    subst hx
    exact ⟨h, Le.refl h, Sc.nil h 1 none 0, s.tl⟩
  · have s1 : St K h (Res.blk g (.cells cur e fz) :: L) w := by
      refine ⟨s.os, s.tape, s.output, s.drawn, s.size, s.keep, ⟨s.hd.view, fun r hr => ?_⟩, ?_, ?_, s.grow, s.new, ?_⟩
      · rcases List.mem_cons.1 hr with rfl | hr
        · exact q3
        · exact s.hd.own r (List.mem_cons_of_mem _ hr)
      · have := s.nd
        simpa [doms_cons, Res.srow, Res.blk, Value.ownBlock] using this
      · intro b hb
        refine s.src b ?_
        simpa [doms_cons, Res.srow, Res.blk, Value.ownBlock] using hb
      · intro b hb
        refine s.dis b ?_
        simpa [doms_cons, Res.srow, Res.blk, Value.ownBlock] using hb
    have hnone : h g = none := s1.dis g (by rw [doms_cons]; exact List.mem_append_left _ (List.mem_singleton.2 rfl))
    refine ⟨_, Le.addV hnone, ⟨by omega, some ⟨g, 0, none⟩, cap, rfl, q4, .inr ⟨g, 0, cur, e, fz, rfl, addV_same, fun j u hj => ?_⟩⟩, s1.persist hA⟩
    rw [Nat.zero_add]
    rw [← q7, List.getElem?_take] at hj
    split at hj
    · simpa using hj
    · cases hj
theorem rx_persist_s {g : Rg} {prs : List (Nat × Oper)} {e : TypeId} {m : Nat} {v : Value} {xs : List Value} (hA : K.A = []) (hx : ∀ h', Le h h' → Sc h' 1 v m xs → RX P n K g prs F h' L Q) : RX P n K g prs F h (Res.srow e v m xs :: L) Q := by
  unfold RX at *
  intro a w f s
  obtain ⟨h', h1, h2, h3⟩ := s.srowPersist hA
  exact hx h' h1 h2 a w f h3
theorem cx_srowsl {c : Code} {e : TypeId} {m : Nat} {v : Value} {xs : List Value} (k : Nat) (hk : L[k]? = some (Res.srow e v m xs)) (h2 : ∀ ad cap, v = .slice ad m cap → CX P n K c F h L Q) : CX P n K c F h L Q := by
  unfold CX at *
  intro a w f s
  have ho : OwnsB w e v m xs := s.hd.own _ (List.mem_of_getElem? hk)
  rcases ho.2 with ⟨q1, q2⟩ | ⟨g, cap, cur, fz, q1, _⟩
  · exact h2 none 0 (by rw [q1, q2]) a w f s
  · exact h2 _ cap q1 a w f s
theorem rx_bytes_s {g : Rg} {i : Nat} {r : List (Nat × Oper)} {S D e : Nat} {x : Operand} {str : ByteArray} {xs : List Value} [tS : TyU P S .string] [tD : TyU P D (.slice e)] [te : TyU P e (.int .u8)] (hx : ev F x = some (.string str)) (hxs : (str.data.map fun b => Value.int .u8 b.toNat).toList = xs) (hsz : str.size ≤ maxLen)
    (hw : wantedF g.ops F ⟨dst, .convert S D x, ty, pos, af, gd⟩ = some true) (hd : okd n dst = true) (hl : g.lo i = true) (o1 : Owe g i h L) (o2 : ∀ v, Owe g i h (Res.srow e v xs.length xs :: L))
    (hn : ∀ v, RX P n K g r (putF dst v F) h (Res.srow e v xs.length xs :: L) Q) : RX P n K g ((i, ⟨dst, .convert S D x, ty, pos, af, gd⟩) :: r) F h L Q := by
  unfold RX at *
  intro a w f s
  have hlen : xs.length = str.size := by rw [← hxs]; simp
  have hrun := run_bytes_of_string (P := P) w S D e str tS.u tD.u te.u
  obtain ⟨cap, hcap⟩ : ∃ cap, cap = grownCap w str.size 0 e := ⟨_, rfl⟩
  have hge : str.size ≤ cap := by rw [hcap]; exact grownCap_ge ..
  have hcm : cap ≤ maxLen := by rw [hcap]; exact grownCap_le_maxLen w str.size 0 e hsz
  rw [← hcap] at hrun
  have hbs : (bytesRow str cap).size = cap := by
    simp only [bytesRow, Array.size_append, Array.size_map, Array.size_replicate]
    have : str.data.size = str.size := rfl
    omega
  have s1 := s.drew.alloc (.cells (bytesRow str cap) e ((bytesRow str cap).size, (bytesRow str cap).size + 1))
  have he : (execOp a.eval ⟨dst, .convert S D x, ty, pos, af, gd⟩).run P w = .ok (.value (.slice (some ⟨w.heap.size, 0, none⟩) str.size cap)) (w.drew.alloc (.cells (bytesRow str cap) e ((bytesRow str cap).size, (bytesRow str cap).size + 1))) := by
    simp only [execOp, f.ev hx, Sem.run_bind, hrun]
    rfl
  have s2 : St K h (Res.srow e (.slice (some ⟨w.heap.size, 0, none⟩) str.size cap) xs.length xs :: L) (w.drew.alloc (.cells (bytesRow str cap) e ((bytesRow str cap).size, (bytesRow str cap).size + 1))) := by
    refine ⟨s1.os, s1.tape, s1.output, s1.drawn, s1.size, s1.keep, ⟨s1.hd.view, fun r hr => ?_⟩, ?_, ?_, s1.grow, s1.new, ?_⟩
    · rcases List.mem_cons.1 hr with rfl | hr
      · refine ⟨rfl, .inr ⟨w.heap.size, cap, _, _, by rw [hlen], heap_alloc_new w.drew _, by omega, hcm, hbs, ?_, .inr (Nat.le_refl _)⟩⟩
        rw [← hxs]
        simp only [bytesRow, Array.toList_append, List.length_map, Array.length_toList, Array.toList_map]
        rw [List.take_append_of_le_length (by simp)]
        exact List.take_of_length_le (by simp)
      · exact s1.hd.own r (List.mem_cons_of_mem _ hr)
    · have := s1.nd
      simpa [doms_cons, Res.srow, Res.blk, Value.ownBlock] using this
    · intro b hb
      refine s1.src b ?_
      simpa [doms_cons, Res.srow, Res.blk, Value.ownBlock] using hb
    · intro b hb
      refine s1.dis b ?_
      simpa [doms_cons, Res.srow, Res.blk, Value.ownBlock] using hb
  refine .inr (.inr ⟨wantedF_ok f hw, hl, o1.out s, ?_⟩)
  unfold Oper.wp
  rw [he]
  exact ⟨(o2 _).out s2, hn _ _ _ (f.put hd _) s2⟩
theorem src_str {str : ByteArray} {m : Nat} {news : List Value} (hm : str.size = m) (hn : (str.data.map fun b => Value.int .u8 b.toNat).toList = news) : Src P h L (.string str) m news := by
  subst hm
  refine ⟨fun w => by simp [Builtin.lenOf], fun w _ => ?_, by rw [← hn]; simp⟩
  subst hn
  have hx : (Array.map (fun b : UInt8 => Value.int IntKind.u8 (b.toNat : Int)) str.data).extract 0 str.size = Array.map (fun b : UInt8 => Value.int IntKind.u8 (b.toNat : Int)) str.data := by
    have hs : str.size = (Array.map (fun b : UInt8 => Value.int IntKind.u8 (b.toNat : Int)) str.data).size := by rw [Array.size_map]; rfl
    rw [hs, Array.extract_size]
  simp only [Builtin.firstCells, hx, Array.toArray_toList]
  simp [hx]
end
end Go.Ck
end
