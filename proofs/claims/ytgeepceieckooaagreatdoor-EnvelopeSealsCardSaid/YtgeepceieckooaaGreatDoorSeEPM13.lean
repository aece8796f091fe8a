/-
  Part 13 of a proof: ShF RaA RaB RaC RaD PlA.
  Conditions: each theorem states its own.
-/
import Derived.Test.YtgeepceieckooaaGreatDoorSeEPM12
set_option maxRecDepth 100000
set_option linter.unusedVariables false
set_option linter.unusedSimpArgs false
section
namespace Go.Proofs.YtgeepceieckooaaGreatDoor
open Go Go.Ck
set_option maxHeartbeats 40000000
theorem bstr_bcs {l : List Int} (hb : Bytes l) : ((bstr l).data.map fun b => Value.int .u8 b.toNat).toList = bcs l := by
  unfold bstr bcs
  simp only [Array.toList_map, List.map_map]
  refine List.map_congr_left fun x hx => ?_
  have := hb x hx
  show Value.int .u8 ((UInt8.ofNat x.toNat).toNat : Int) = _
  congr 1
  simp
  omega
abbrev srB (v : Value) (l : List Int) : Res := Res.srow 5 v l.length (bcs l)
theorem constants_sp (h : View) (w : World) (s : St ⟨w, h, []⟩ h [] w) :
    Calls Tryz.prog 126 [].toArray w fun e w' => e = .returned (.tuple #[.agg (up32 shK).toArray, .agg (up32 shH).toArray]) ∧ St ⟨w, h, []⟩ h [] w' := by
  refine calls_enter Tryz.func126 rfl Tryz.ntmps126 rfl s ?_
  repeat' (first|refine tw_ ?_|(refine ta_ ?_;intro _)|(refine zk0 ?_ ?_<;>intro ht)|fail)
  rename_i b0 b1
  refine ycf ?_
  apply ybk
  · apply qv_build_arr (cs := up32 shK)
    · rfl
    · kernel_rfl
  · rfl
  · rfl
  have hK : shK.length = 64 := rfl
  have hH : shH.length = 8 := rfl
  generalize shK = K at hK ⊢
  repeat' (first|refine zw260 ?_|(refine ta_ ?_;intro _)|(refine zk0 ?_ ?_<;>intro ht)|fail)
  rename_i bK bH
  refine cx_region_draw [Res.blk bH (.cells (up32 shH).toArray 164 (0, 0)), Res.blk bK (.cells (up32 K).toArray 179 (0, 0))] rfl (by kernel_rfl) ?_
  repeat' (first|refine zw261 ?_|(refine ycf ?_;(first|(refine zg0 ?_ ?_<;>intro ht)|(refine tb_ ?_ ?_ ?_;(·exact zc72);(·exact zc155);intro _)))|fail)
  repeat' (first|refine zw262 ?_|(refine ta_ ?_;intro _)|(refine zk0 ?_ ?_<;>intro ht)|fail)
  exact nx_ret2 rfl (rv_cells rfl (yaz 3 rfl) (w_sz hK)) (rv_cells rfl (yaz 2 rfl) (w_sz hH)) (fun w' s' => ⟨rfl, s'.nil⟩)
theorem rSum_sp (b : List Int) (hb : Bytes b) (hl : b.length ≤ 900000) (h : View) (w : World) (s : St ⟨w, h, []⟩ h [] w) :
    Calls Tryz.prog 108 [.string (bstr b)].toArray w fun e w' => e = .returned (.string (bstr (shaF b))) ∧ St ⟨w, h, []⟩ h [] w' := by
  refine calls_enter Tryz.func108 rfl Tryz.ntmps108 rfl s ?_
  repeat' (first|refine zw262 ?_|(refine ta_ ?_;intro _)|(refine zk0 ?_ ?_<;>intro ht)|fail)
  (refine ycn (ycp Tryz.func126 rfl (by kernel_rfl) rfl) (constants_sp h) rfl rfl rfl ?_ ?_; (· (exact to_)))
  have hK : shK.length = 64 := rfl
  have hH : shH.length = 8 := rfl
  obtain ⟨K, eK⟩ : ∃ K, K = shK := ⟨_, rfl⟩
  rw [← eK] at hK ⊢
  repeat' (first|refine zw263 ?_|(refine ta_ ?_;intro _)|(refine zk0 ?_ ?_<;>intro ht)|fail)
  rename_i bK bH
  refine rx_bytes_s rfl (bstr_bcs hb) (by rw [bstr_size]; unfold maxLen; omega) rfl rfl rfl ybf (fun _ => ybf) ?_
  intro v0
  rw [bcs_len]
  repeat' (first|refine zw263 ?_|(refine ta_ ?_;intro _)|(refine zk0 ?_ ?_<;>intro ht)|fail)
  refine rx_append_b 1 rfl rfl rfl (src_cells (yaz 0 rfl) rfl) (.inl rfl) (bcs_one [128]) rfl (by unfold maxLen; omega) (by omega) rfl rfl rfl ybf (fun _ => ybf) ?_
  intro v1
  repeat' (first|refine zw263 ?_|(refine ta_ ?_;intro _)|(refine zk0 ?_ ?_<;>intro ht)|fail)
  refine cx_loop (X := Nat × Value) (fun y => [(0, .string (bstr b)), (3, .pointer (some ⟨bK, 0, none⟩)), (4, .pointer (some ⟨bH, 0, none⟩)), (5, y.2)]) (fun _ => h) (fun y => [srB y.2 (b ++ [128] ++ List.replicate y.1 0), Res.blk bH (.cells (up32 shH).toArray 164 (0, 0)), Res.blk bK (.cells (up32 K).toArray 179 (0, 0))])
    (fun y => y.1 ≤ padZ b.length) (fun y => padZ b.length - y.1) (0, v1) (Nat.zero_le _) ts_ (fun _ s => ?_) ?_
  · dsimp only
    rw [List.replicate_zero, List.append_nil]
    unfold srB
    rw [List.length_append, bcs_app]
    exact s.tl
  rintro ⟨k, v⟩ hk
  replace hk : k ≤ padZ b.length := hk
  dsimp only
  have hpz : padZ b.length < 64 := by unfold padZ; omega
  have hpm : (b.length + 1 + padZ b.length) % 64 = 56 := by unfold padZ; omega
  have hln : (b ++ [128] ++ List.replicate k (0 : Int)).length = b.length + 1 + k := by simp; omega
  by_cases hkz : k < padZ b.length
  · have hrem : (((b ++ [128] ++ List.replicate k (0 : Int)).length : Nat) : Int).tmod 64 = (((b.length + 1 + k) % 64 : Nat) : Int) := by rw [hln]; rfl
    have hne : (b.length + 1 + k) % 64 ≠ 56 := by unfold padZ at hkz; omega
    refine cx_srowsl 0 rfl ?_
    rintro ad1 cap1 rfl
    repeat' (first|refine zw264 ?_|(refine ta_ ?_;intro _)|(refine zk0 ?_ ?_<;>intro ht)|fail)
    refine rx_append_b 1 rfl rfl rfl (src_cells (yaz 0 rfl) rfl) (.inl rfl) (bcs_one [0]) rfl (by unfold maxLen; omega) (by omega) rfl rfl rfl ybf (fun _ => ybf) ?_
    intro v2
    repeat' (first|refine zw265 ?_|(refine ta_ ?_;intro _)|(refine zk0 ?_ ?_<;>intro ht)|fail)
    refine nx_round (k + 1, v2) (by show k + 1 ≤ _; omega) (by show padZ b.length - (k + 1) < padZ b.length - k; omega) ts_ (fun _ s => ?_)
    dsimp only
    rw [List.replicate_succ', ← List.append_assoc]
    unfold srB
    rw [List.length_append, bcs_app]
    exact s.tl
  · have ek : k = padZ b.length := by omega
    subst ek
    have hrem : (((b ++ [128] ++ List.replicate (padZ b.length) (0 : Int)).length : Nat) : Int).tmod 64 = 56 := by
      rw [hln, show (((b.length + 1 + padZ b.length : Nat) : Int)).tmod 64 = (((b.length + 1 + padZ b.length) % 64 : Nat) : Int) from rfl, hpm]
      rfl
    have hw1 : IntKind.u64.wrap (b.length : Int) = (b.length : Int) := wrap_u64 (by omega) (by omega)
    have hw2 : IntKind.u64.wrap ((b.length : Int) * 8) = 8 * (b.length : Int) := by
      rw [Int.mul_comm]
      exact wrap_u64 (by omega) (by omega)
    have hp8 := num8_len (8 * (b.length : Int))
    refine cx_srowsl 0 rfl ?_
    rintro ad1 cap1 rfl
    repeat' (first|refine zw266 ?_|(refine ta_ ?_;intro _)|(refine zk0 ?_ ?_<;>intro ht)|fail)
    (refine ycn (ycp Tryz.func85 rfl (by kernel_rfl) rfl) (Put_sp (8 * (b.length : Int)) 8 ⟨by omega, by omega⟩ (by omega) h) rfl rfl rfl ?_ ?_; (· (exact to_)))
    refine rx_append_b (news := bcs (num8 (8 * (b.length : Int)))) 0 rfl rfl rfl (src_str (m := 8) (by rw [bstr_size]; exact hp8) (bstr_bcs (putLow_bytes' 8 _))) (.inr rfl) (bcs_one _) rfl (by unfold maxLen; omega) (by omega) rfl rfl rfl ybf (fun _ => ybf) ?_
    intro v3
    refine rx_persist_s rfl fun h1 hle1 hsp => ?_
    have hpl2 := padF_len b
    have hP : Bs8 h1 v3 (padF b) := by
      unfold Bs8
      have e : (padF b).length = (b ++ [128] ++ List.replicate (padZ b.length) (0 : Int)).length + 8 := by rw [hpl2.2, hln]
      rw [e, show bcs (padF b) = bcs (b ++ [128] ++ List.replicate (padZ b.length) (0 : Int)) ++ bcs (num8 (8 * (b.length : Int))) by unfold padF; rw [bcs_app]]
      exact hsp
    have hpb : Bytes (padF b) := padF_bytes hb
    have e0 : blocksF (padF b) 0 = shH := rfl
    generalize hpF : padF b = p at hP hpl2 hpb e0 ⊢
    obtain ⟨_, adp, capp, rfl, hcapp, _⟩ := id hP
    repeat' (first|refine zw265 ?_|(refine ta_ ?_;intro _)|(refine zk0 ?_ ?_<;>intro ht)|fail)
    refine cx_loop (X := Nat) (fun y => [(3, .pointer (some ⟨bK, 0, none⟩)), (4, .pointer (some ⟨bH, 0, none⟩)), (5, .slice adp p.length capp), (6, .int .i64 (64 * y : Nat))]) (fun _ => h1)
      (fun y => [Res.blk bH (.cells (up32 (blocksF p y)).toArray 164 (0, 0)), Res.blk bK (.cells (up32 K).toArray 179 (0, 0))])
      (fun y => 64 * y ≤ p.length) (fun y => p.length - 64 * y) 0 (by omega) ts_ (fun _ s => ?_) ?_
    · rw [e0]
      exact s
    intro k hk
    have hbl := blocksF_len p k
    by_cases hkl : 64 * k < p.length
    ·
      repeat' (first|refine zw267 ?_|(refine ta_ ?_;intro _)|(refine zk0 ?_ ?_<;>intro ht)|fail)
      rename_i b7
      obtain ⟨B, hB⟩ : ∃ B, B = (p.drop (64 * k)).take 64 := ⟨_, rfl⟩
      have hBl : B.length = 64 := by rw [hB]; simp; omega
      have hBat : ∀ t, t < 16 → (p.drop (64 * k + 4 * t)).take 4 = (B.drop (4 * t)).take 4 := fun t ht => by
        rw [hB, List.drop_take, List.drop_drop, List.take_take, Nat.min_eq_left (by omega)]
      refine cx_loop (X := Nat) (fun t => [(3, .pointer (some ⟨bK, 0, none⟩)), (4, .pointer (some ⟨bH, 0, none⟩)), (5, .slice adp p.length capp), (6, .int .i64 (64 * k : Nat)), (7, .pointer (some ⟨b7, 0, none⟩)), (8, .int .i64 (t : Nat))]) (fun _ => h1)
        (fun t => [Res.blk b7 (.cells (up32 (pad32 64 (wsF B t))).toArray 179 (0, 0)), Res.blk bH (.cells (up32 (blocksF p k)).toArray 164 (0, 0)), Res.blk bK (.cells (up32 K).toArray 179 (0, 0))])
        (fun t => t ≤ 16) (fun t => 16 - t) 0 (Nat.zero_le _) ts_ (fun _ s => s) ?_
      intro t ht
      have hwl := wsF_len B t
      by_cases ht16 : t < 16
      · have hm : IntKind.i64.wrap (4 * (t : Int)) = ((4 * t : Nat) : Int) := by rw [IntKind.wrap_i64]; omega
        have e4 : 64 * k + 4 * t + 4 - (64 * k + 4 * t) = 4 := by omega
        have hmid : Bs8 h1 (.slice (cutF adp capp (64 * k + 4 * t) 1) (64 * k + 4 * t + 4 - (64 * k + 4 * t)) (capp - (64 * k + 4 * t))) ((B.drop (4 * t)).take 4) := by
          have := bs_mid hP (i := 64 * k + 4 * t) (j := 64 * k + 4 * t + 4) (by omega) (by omega)
          rw [e4] at this ⊢
          rw [← hBat t ht16]
          exact this
        have hby : Bytes ((B.drop (4 * t)).take 4) := by
          rw [← hBat t ht16]
          exact bytes_take (bytes_drop hpb _) 4
        have W := Word_sp ((B.drop (4 * t)).take 4) hby (by simp; omega) h1
        have hwr : IntKind.u32.wrap (valB ((B.drop (4 * t)).take 4)) = ((hi32 ((B.drop (4 * t)).take 4)).toNat : Int) := wrapw rfl rfl _
        have hst : (pad32 64 (wsF B t)).set t (hi32 ((B.drop (4 * t)).take 4)) = pad32 64 (wsF B (t + 1)) := by
          rw [pad32_set hwl (by omega)]
          show _ = pad32 64 (wsF B t ++ [_])
          rw [if_pos ht16]
        have hpl : (pad32 64 (wsF B t)).length = 64 := pad32_len (by omega)
        repeat' (first|refine zw268 ?_|(refine ta_ ?_;intro _)|(refine zk0 ?_ ?_<;>intro ht)|fail)
        (refine ycn (ycp Tryz.func99 rfl (by kernel_rfl) rfl) (W) rfl rfl rfl ?_ ?_; (· (exact to_)))
        repeat' (first|refine zw268 ?_|(refine ta_ ?_;intro _)|(refine zk0 ?_ ?_<;>intro ht)|fail)
        exact nx_round (t + 1) (by show t + 1 ≤ 16; omega) (by show 16 - (t + 1) < 16 - t; omega) ts_ (fun _ s => s)
      · have et : t = 16 := by omega
        subst et
        repeat' (first|refine zw3 ?_|(refine ta_ ?_;intro _)|(refine zk0 ?_ ?_<;>intro ht)|fail)
        refine cx_loop (X := Nat) (fun t => [(3, .pointer (some ⟨bK, 0, none⟩)), (4, .pointer (some ⟨bH, 0, none⟩)), (5, .slice adp p.length capp), (6, .int .i64 (64 * k : Nat)), (7, .pointer (some ⟨b7, 0, none⟩)), (9, .int .i64 (16 + t : Nat))]) (fun _ => h1)
          (fun t => [Res.blk b7 (.cells (up32 (pad32 64 (wsF B (16 + t)))).toArray 179 (0, 0)), Res.blk bH (.cells (up32 (blocksF p k)).toArray 164 (0, 0)), Res.blk bK (.cells (up32 K).toArray 179 (0, 0))])
          (fun t => t ≤ 48) (fun t => 48 - t) 0 (Nat.zero_le _) ts_ (fun _ s => s) ?_
        intro t ht
        have hwl := wsF_len B (16 + t)
        by_cases ht48 : t < 48
        · have hst : (pad32 64 (wsF B (16 + t))).set (16 + t) (nextW (wsF B (16 + t))) = pad32 64 (wsF B (16 + (t + 1))) := by
            rw [pad32_set hwl (by omega), show 16 + (t + 1) = 16 + t + 1 by omega, wsF_next B (by omega)]
          have hpl : (pad32 64 (wsF B (16 + t))).length = 64 := pad32_len (by omega)
          have hnx : nextW (wsF B (16 + t)) = movedF ((wsF B (16 + t)).getD (16 + t - 2) 0) 17 19 10 + (wsF B (16 + t)).getD (16 + t - 7) 0 + movedF ((wsF B (16 + t)).getD (16 + t - 15) 0) 7 18 3 + (wsF B (16 + t)).getD (16 + t - 16) 0 := by
            unfold nextW
            rw [hwl]
          rw [hnx] at hst
          have c2 := pad32_at (n := 64) (l := wsF B (16 + t)) (k := 16 + t - 2) (by omega)
          have c7 := pad32_at (n := 64) (l := wsF B (16 + t)) (k := 16 + t - 7) (by omega)
          have c15 := pad32_at (n := 64) (l := wsF B (16 + t)) (k := 16 + t - 15) (by omega)
          have c16 := pad32_at (n := 64) (l := wsF B (16 + t)) (k := 16 + t - 16) (by omega)
          generalize (wsF B (16 + t)).getD (16 + t - 2) 0 = x2 at c2 hst
          generalize (wsF B (16 + t)).getD (16 + t - 7) 0 = x7 at c7 hst
          generalize (wsF B (16 + t)).getD (16 + t - 15) 0 = x15 at c15 hst
          generalize (wsF B (16 + t)).getD (16 + t - 16) 0 = x16 at c16 hst
          have hcm : movedF x2 17 19 10 + x7 + movedF x15 7 18 3 + x16 = x16 + movedF x15 7 18 3 + x7 + movedF x2 17 19 10 := by
            ac_rfl
          rw [hcm] at hst
          repeat' (first|refine zw269 ?_|(refine ta_ ?_;intro _)|(refine zk0 ?_ ?_<;>intro ht)|fail)
          refine cx_region_draw' rfl (by kernel_rfl) ?_
          repeat' (first|refine zw270 ?_|(refine ycf ?_;(first|(refine zg0 ?_ ?_<;>intro ht)|(refine tb_ ?_ ?_ ?_;(·(exact to_));(·intro _;(exact to_));intro _)))|fail)
          repeat' (first|refine zw269 ?_|(refine ta_ ?_;intro _)|(refine zk0 ?_ ?_<;>intro ht)|fail)
          refine cx_region_draw' rfl (by kernel_rfl) ?_
          repeat' (first|refine zw270 ?_|(refine ycf ?_;(first|(refine zg0 ?_ ?_<;>intro ht)|(refine tb_ ?_ ?_ ?_;(·(exact to_));(·intro _;(exact to_));intro _)))|fail)
          (refine ycn (ycp Tryz.func127 rfl (by kernel_rfl) rfl) (rright_sp2 x15 7 (by omega) h1) rfl rfl rfl ?_ ?_; (· (exact to_)))
          repeat' (first|refine zw270 ?_|(refine ycf ?_;(first|(refine zg0 ?_ ?_<;>intro ht)|(refine tb_ ?_ ?_ ?_;(·(exact to_));(·intro _;(exact to_));intro _)))|fail)
          (refine ycn (ycp Tryz.func127 rfl (by kernel_rfl) rfl) (rright_sp2 x15 18 (by omega) h1) rfl rfl rfl ?_ ?_; (· (exact to_)))
          repeat' (first|refine zw270 ?_|(refine ycf ?_;(first|(refine zg0 ?_ ?_<;>intro ht)|(refine tb_ ?_ ?_ ?_;(·(exact to_));(·intro _;(exact to_));intro _)))|fail)
          (refine ycn (ycp Tryz.func127 rfl (by kernel_rfl) rfl) (rright_sp2 x2 17 (by omega) h1) rfl rfl rfl ?_ ?_; (· (exact to_)))
          repeat' (first|refine zw270 ?_|(refine ycf ?_;(first|(refine zg0 ?_ ?_<;>intro ht)|(refine tb_ ?_ ?_ ?_;(·(exact to_));(·intro _;(exact to_));intro _)))|fail)
          (refine ycn (ycp Tryz.func127 rfl (by kernel_rfl) rfl) (rright_sp2 x2 19 (by omega) h1) rfl rfl rfl ?_ ?_; (· (exact to_)))
          repeat' (first|refine zw270 ?_|(refine ycf ?_;(first|(refine zg0 ?_ ?_<;>intro ht)|(refine tb_ ?_ ?_ ?_;(·(exact to_));(·intro _;(exact to_));intro _)))|fail)
          repeat' (first|refine zw3 ?_|(refine ta_ ?_;intro _)|(refine zk0 ?_ ?_<;>intro ht)|fail)
          exact nx_round (t + 1) (by show t + 1 ≤ 48; omega) (by show 48 - (t + 1) < 48 - t; omega) ts_ (fun _ s => s)
        · have et : t = 48 := by omega
          subst et
          have e64 : pad32 64 (wsF B (16 + 48)) = wsF B 64 := pad32_full (wsF_len B 64)
          rw [e64]
          have hl64 := wsF_len B 64
          have hbn : blocksF p (k + 1) = List.zipWith (· + ·) (blocksF p k) (roundsF (blocksF p k) (wsF B 64) 64) := by rw [hB]; rfl
          generalize wsF B 64 = ws at hl64 hbn ⊢
          generalize blocksF p k = hv at hbl hbn ⊢
          repeat' (first|refine zw271 ?_|(refine ta_ ?_;intro _)|(refine zk0 ?_ ?_<;>intro ht)|fail)
          rename_i b12
          refine cx_loop (X := Nat) (fun t => [(3, .pointer (some ⟨bK, 0, none⟩)), (4, .pointer (some ⟨bH, 0, none⟩)), (5, .slice adp p.length capp), (6, .int .i64 (64 * k : Nat)), (7, .pointer (some ⟨b7, 0, none⟩)), (12, .pointer (some ⟨b12, 0, none⟩)), (13, .int .i64 (t : Nat))]) (fun _ => h1)
            (fun t => [Res.blk b12 (.cells (up32 (roundsF hv ws t)).toArray 164 (0, 0)), Res.blk b7 (.cells (up32 ws).toArray 179 (0, 0)), Res.blk bH (.cells (up32 hv).toArray 164 (0, 0)), Res.blk bK (.cells (up32 K).toArray 179 (0, 0))])
            (fun t => t ≤ 64) (fun t => 64 - t) 0 (Nat.zero_le _) ts_ (fun _ s => s) ?_
          intro t ht
          have hrl := roundsF_len (ws := ws) hbl t
          by_cases ht64 : t < 64
          · have hKc : K[t]? = some (shK.getD t 0) := by rw [eK]; exact getD_at (by rw [shK_len]; exact ht64)
            have hWc : ws[t]? = some (ws.getD t 0) := getD_at (by omega)
            have hR : roundsF hv ws (t + 1) = mixStep (roundsF hv ws t) (shK.getD t 0) (ws.getD t 0) := rfl
            obtain ⟨a0, a1, a2, a3, a4, a5, a6, a7, er⟩ := list8 hrl
            rw [er] at hR ⊢
            generalize shK.getD t 0 = kk at hKc hR
            generalize ws.getD t 0 = wk at hWc hR
            have hnl := mixStep_len [a0, a1, a2, a3, a4, a5, a6, a7] kk wk
            generalize hnx : mixStep [a0, a1, a2, a3, a4, a5, a6, a7] kk wk = nx at hnl hR
            repeat' (first|refine zw272 ?_|(refine ta_ ?_;intro _)|(refine zk0 ?_ ?_<;>intro ht)|fail)
            refine cx_region_draw' rfl (by kernel_rfl) ?_
            repeat' (first|refine zw273 ?_|(refine ycf ?_;(first|(refine zg0 ?_ ?_<;>intro ht)|(refine tb_ ?_ ?_ ?_;(·(exact to_));(·intro _;(exact to_));intro _)))|fail)
            repeat' (first|refine zw272 ?_|(refine ta_ ?_;intro _)|(refine zk0 ?_ ?_<;>intro ht)|fail)
            refine cx_region_draw' rfl (by kernel_rfl) ?_
            repeat' (first|refine zw273 ?_|(refine ycf ?_;(first|(refine zg0 ?_ ?_<;>intro ht)|(refine tb_ ?_ ?_ ?_;(·(exact to_));(·intro _;(exact to_));intro _)))|fail)
            (refine ycn (ycp Tryz.func127 rfl (by kernel_rfl) rfl) (rright_sp2 a4 6 (by omega) h1) rfl rfl rfl ?_ ?_; (· (exact to_)))
            repeat' (first|refine zw273 ?_|(refine ycf ?_;(first|(refine zg0 ?_ ?_<;>intro ht)|(refine tb_ ?_ ?_ ?_;(·(exact to_));(·intro _;(exact to_));intro _)))|fail)
            (refine ycn (ycp Tryz.func127 rfl (by kernel_rfl) rfl) (rright_sp2 a4 11 (by omega) h1) rfl rfl rfl ?_ ?_; (· (exact to_)))
            repeat' (first|refine zw273 ?_|(refine ycf ?_;(first|(refine zg0 ?_ ?_<;>intro ht)|(refine tb_ ?_ ?_ ?_;(·(exact to_));(·intro _;(exact to_));intro _)))|fail)
            (refine ycn (ycp Tryz.func127 rfl (by kernel_rfl) rfl) (rright_sp2 a4 25 (by omega) h1) rfl rfl rfl ?_ ?_; (· (exact to_)))
            repeat' (first|refine zw273 ?_|(refine ycf ?_;(first|(refine zg0 ?_ ?_<;>intro ht)|(refine tb_ ?_ ?_ ?_;(·(exact to_));(·intro _;(exact to_));intro _)))|fail)
            repeat' (first|refine zw272 ?_|(refine ta_ ?_;intro _)|(refine zk0 ?_ ?_<;>intro ht)|fail)
            refine cx_region_draw' rfl (by kernel_rfl) ?_
            repeat' (first|refine zw273 ?_|(refine ycf ?_;(first|(refine zg0 ?_ ?_<;>intro ht)|(refine tb_ ?_ ?_ ?_;(·(exact to_));(·intro _;(exact to_));intro _)))|fail)
            (refine ycn (ycp Tryz.func127 rfl (by kernel_rfl) rfl) (rright_sp2 a0 2 (by omega) h1) rfl rfl rfl ?_ ?_; (· (exact to_)))
            repeat' (first|refine zw273 ?_|(refine ycf ?_;(first|(refine zg0 ?_ ?_<;>intro ht)|(refine tb_ ?_ ?_ ?_;(·(exact to_));(·intro _;(exact to_));intro _)))|fail)
            (refine ycn (ycp Tryz.func127 rfl (by kernel_rfl) rfl) (rright_sp2 a0 13 (by omega) h1) rfl rfl rfl ?_ ?_; (· (exact to_)))
            repeat' (first|refine zw273 ?_|(refine ycf ?_;(first|(refine zg0 ?_ ?_<;>intro ht)|(refine tb_ ?_ ?_ ?_;(·(exact to_));(·intro _;(exact to_));intro _)))|fail)
            (refine ycn (ycp Tryz.func127 rfl (by kernel_rfl) rfl) (rright_sp2 a0 22 (by omega) h1) rfl rfl rfl ?_ ?_; (· (exact to_)))
            repeat' (first|refine zw273 ?_|(refine ycf ?_;(first|(refine zg0 ?_ ?_<;>intro ht)|(refine tb_ ?_ ?_ ?_;(·(exact to_));(·intro _;(exact to_));intro _)))|fail)
            repeat' (first|refine zw272 ?_|(refine ta_ ?_;intro _)|(refine zk0 ?_ ?_<;>intro ht)|fail)
            refine nx_round (t + 1) (by show t + 1 ≤ 64; omega) (by show 64 - (t + 1) < 64 - t; omega) ts_ (fun _ s => ?_)
            rw [hR]
            exact s
          · have et : t = 64 := by omega
            subst et
            obtain ⟨rr, hrr⟩ : ∃ rr, rr = roundsF hv ws 64 := ⟨_, rfl⟩
            rw [← hrr] at hrl hbn ⊢
            repeat' (first|refine zw3 ?_|(refine ta_ ?_;intro _)|(refine zk0 ?_ ?_<;>intro ht)|fail)
            refine cx_loop (X := Nat) (fun i => [(3, .pointer (some ⟨bK, 0, none⟩)), (4, .pointer (some ⟨bH, 0, none⟩)), (5, .slice adp p.length capp), (6, .int .i64 (64 * k : Nat)), (12, .pointer (some ⟨b12, 0, none⟩)), (18, .int .i64 (i : Nat))]) (fun _ => h1)
              (fun i => [Res.blk b12 (.cells (up32 rr).toArray 164 (0, 0)), Res.blk b7 (.cells (up32 ws).toArray 179 (0, 0)), Res.blk bH (.cells (up32 (addF hv rr i)).toArray 164 (0, 0)), Res.blk bK (.cells (up32 K).toArray 179 (0, 0))])
              (fun i => i ≤ 8) (fun i => 8 - i) 0 (Nat.zero_le _) ts_ (fun _ s => s) ?_
            intro i hi
            have hal := addF_len hbl hrl hi
            by_cases hi8 : i < 8
            · have c1 := addF_at hbl hrl hi8
              have c2 := getD_at (l := rr) (i := i) (by omega)
              have hst := addF_set hbl hrl hi8
              generalize hv.getD i 0 = x1 at c1 hst
              generalize rr.getD i 0 = x2 at c2 hst
              repeat' (first|refine zw274 ?_|(refine ta_ ?_;intro _)|(refine zk0 ?_ ?_<;>intro ht)|fail)
              refine cx_region_draw' rfl (by kernel_rfl) ?_
              repeat' (first|refine zw275 ?_|(refine ycf ?_;(first|(refine zg0 ?_ ?_<;>intro ht)|(refine tb_ ?_ ?_ ?_;(·(exact to_));(·intro _;(exact to_));intro _)))|fail)
              repeat' (first|refine zw35 ?_|(refine ta_ ?_;intro _)|(refine zk0 ?_ ?_<;>intro ht)|fail)
              exact nx_round (i + 1) (by show i + 1 ≤ 8; omega) (by show 8 - (i + 1) < 8 - i; omega) ts_ (fun _ s => s)
            · have ei : i = 8 := by omega
              subst ei
              rw [addF_full hbl hrl, ← hbn]
              have ha64 : ((64 * k : Nat) : Int) + 64 = ((64 * (k + 1) : Nat) : Int) := by omega
              repeat' (first|refine zw3 ?_|(refine ta_ ?_;intro _)|(refine zk0 ?_ ?_<;>intro ht)|fail)
              refine nx_round (k + 1) (by show 64 * (k + 1) ≤ p.length; omega) (by show p.length - 64 * (k + 1) < p.length - 64 * k; omega) ?_ (fun _ s => (s.tl.tl))
              rw [← ha64]
              exact ts_
    · have ek : k = p.length / 64 := by omega
      subst ek
      have hsha : shaF b = (blocksF p (p.length / 64)).flatMap fun x => num4 x.toNat := by
        unfold shaF
        rw [hpF]
      rw [hsha]
      generalize hR : blocksF p (p.length / 64) = R at hbl ⊢
      repeat' (first|refine zw3 ?_|(refine ta_ ?_;intro _)|(refine zk0 ?_ ?_<;>intro ht)|fail)
      refine cx_loop (X := Nat) (fun i => [(4, .pointer (some ⟨bH, 0, none⟩)), (19, .string (bstr ((R.take i).flatMap fun x => num4 x.toNat))), (20, .int .i64 (i : Nat))]) (fun _ => h1)
        (fun i => [Res.blk bH (.cells (up32 R).toArray 164 (0, 0)), Res.blk bK (.cells (up32 K).toArray 179 (0, 0))])
        (fun i => i ≤ 8) (fun i => 8 - i) 0 (Nat.zero_le _) ts_ (fun _ s => s) ?_
      intro i hi
      have hfl : ((R.take i).flatMap fun x => num4 x.toNat).length = 4 * i := by
        have : ∀ l : List W32, (l.flatMap fun x => num4 x.toNat).length = 4 * l.length := fun l => by
          induction l with
          | nil => rfl
          | cons a l ih => rw [List.flatMap_cons, List.length_append, num4_len, ih, List.length_cons]; omega
        rw [this, List.length_take]; omega
      by_cases hi8 : i < 8
      · have hgx := getD_at (l := R) (i := i) (by omega)
        have hfs : ((R.take (i + 1)).flatMap fun x => num4 x.toNat) = ((R.take i).flatMap fun x => num4 x.toNat) ++ num4 (R.getD i 0).toNat := by
          rw [flat_succ (by omega : i < R.length)]
          congr 3
          simp [List.getD_eq_getElem?_getD, hbl, hi8]
        generalize R.getD i 0 = xi at hgx hfs
        generalize ((R.take i).flatMap fun x => num4 (x.toNat : Int)) = out at hfl hfs ⊢
        have hx32 := xi.isLt
        have hcat : bstr out ++ bstr (num4 (xi.toNat : Int)) = bstr (out ++ num4 (xi.toNat : Int)) := bstr_app _ _
        have hsz : (bstr out).size + (bstr (num4 (xi.toNat : Int))).size < 1000000 := by rw [bstr_size, bstr_size, num4_len, hfl]; omega
        repeat' (first|refine zw276 ?_|(refine ta_ ?_;intro _)|(refine zk0 ?_ ?_<;>intro ht)|fail)
        (refine ycn (ycp Tryz.func85 rfl (by kernel_rfl) rfl) (Put_sp (xi.toNat : Int) 4 ⟨by omega, by omega⟩ (by omega) h1) rfl rfl rfl ?_ ?_; (· (exact to_)))
        repeat' (first|refine zw276 ?_|(refine ta_ ?_;intro _)|(refine zk0 ?_ ?_<;>intro ht)|fail)
        refine nx_round (i + 1) (by show i + 1 ≤ 8; omega) (by show 8 - (i + 1) < 8 - i; omega) ?_ (fun _ s => s)
        rw [hfs]
        exact ts_
      · have ei : i = 8 := by omega
        subst ei
        rw [List.take_of_length_le (by omega)]
        repeat' (first|refine zw277 ?_|(refine ta_ ?_;intro _)|(refine zk0 ?_ ?_<;>intro ht)|fail)
        exact nx_ret1 rfl (rv_tmp rfl) (fun w' s' => ⟨rfl, s'.nil.base⟩)
end Go.Proofs.YtgeepceieckooaaGreatDoor
end

section
namespace Go.Proofs.YtgeepceieckooaaGreatDoor
open Go Go.Ck
set_option maxHeartbeats 1000000
theorem PutL_sp (x : Int) (m : Nat) (hx : 0 ≤ x ∧ x < 18446744073709551616) (hm : m ≤ 64) (h : View) (w : World) (s : St ⟨w, h, []⟩ h [] w) :
    Calls Tryz.prog 85 [.int .u64 x, .int .i64 m, .bool false].toArray w fun e w' => e = .returned (.string (bstr (putLow m x))) ∧ St ⟨w, h, []⟩ h [] w' := by
  refine calls_enter Tryz.func85 rfl Tryz.ntmps85 rfl s ?_
  repeat' (first|refine tw_ ?_|(refine ta_ ?_;intro _)|(refine zk0 ?_ ?_<;>intro ht)|fail)
  refine cx_loop (X := Nat) (fun k => [(0, .int .u64 (x / 256 ^ k)), (1, .int .i64 m), (2, .bool false), (7, .string (bstr (putLow k x))), (8, .int .i64 k)]) (fun _ => h) (fun _ => []) (fun k => k ≤ m) (fun k => m - k) 0 (Nat.zero_le _) ?_ (fun _ s => s) ?_
  · refine Sub.cons rfl ?_ ts_
    simp
  intro k hk
  by_cases hkm : k < m
  · have hb := divp_bd (k := k) hx
    have hr : (x / 256 ^ k).tmod 256 = x / 256 ^ k % 256 := Int.tmod_eq_emod_of_nonneg hb.1
    have hw : IntKind.u8.wrap (x / 256 ^ k % 256) = x / 256 ^ k % 256 := by rw [wrap_u8]; omega
    have hq : IntKind.u64.wrap ((x / 256 ^ k).tdiv 256) = x / 256 ^ (k + 1) := by
      rw [Int.tdiv_eq_ediv_of_nonneg hb.1, Int.ediv_ediv_of_nonneg (Int.le_of_lt (Int.pow_pos (by decide))), ← Int.pow_succ]
      have := divp_bd (k := k + 1) hx
      exact wrap_u64 this.1 this.2
    have hcat : bstr (putLow k x) ++ bstr [x / 256 ^ k % 256] = bstr (putLow (k + 1) x) := by
      rw [bstr_app, putLow_succ]
    have hsz : (bstr (putLow k x)).size + (bstr [x / 256 ^ k % 256]).size < 1000000 := by
      rw [bstr_size, bstr_size, putLow_len]
      simp; omega
    repeat' (first|refine zw17 ?_|(refine ta_ ?_;intro _)|(refine zk0 ?_ ?_<;>intro ht)|fail)
    · refine nx_round (k + 1) (by show k + 1 ≤ m; omega) (by show m - (k + 1) < m - k; omega) ts_ (fun _ s => s.tl)
    all_goals omega
  · have ek : k = m := by omega
    subst ek
    repeat' (first|refine zw17 ?_|(refine ta_ ?_;intro _)|(refine zk0 ?_ ?_<;>intro ht)|fail)
    all_goals try omega
    exact nx_ret1 rfl (rv_tmp rfl) (fun w' s' => ⟨rfl, s'.nil⟩)
theorem WordL_sp (l : List Int) (hb : Bytes l) (hl : l.length ≤ 8) (h : View) (w : World) (s : St ⟨w, h, []⟩ h [] w) :
    Calls Tryz.prog 99 [.string (bstr l), .bool false].toArray w fun e w' => e = .returned (.int .u64 (valL l)) ∧ St ⟨w, h, []⟩ h [] w' := by
  have hbr : Bytes l.reverse := fun x hx => hb x (List.mem_reverse.1 hx)
  refine calls_enter Tryz.func99 rfl Tryz.ntmps99 rfl s ?_
  repeat' (first|refine zw17 ?_|(refine ta_ ?_;intro _)|(refine zk0 ?_ ?_<;>intro ht)|fail)
  refine cx_loop (X := Nat) (fun k => [(0, .string (bstr l)), (1, .bool false), (5, .int .u64 (valB (l.reverse.take k))), (6, .int .i64 k)]) (fun _ => h) (fun _ => []) (fun k => k ≤ l.length) (fun k => l.length - k) 0 (Nat.zero_le _) ts_ (fun _ s => s) ?_
  intro k hk
  by_cases hkl : k < l.length
  · have hkr : k < l.reverse.length := by simpa using hkl
    have hbd := valB_bd hbr k (by omega)
    have hp : (256 : Int) ^ k ≤ 256 ^ 7 := p256 (by omega)
    have e7 : (256 : Int) ^ 7 = 72057594037927936 := by decide
    rw [e7] at hp
    have hge : l.reverse[k] = l[l.length - 1 - k]'(by omega) := by rw [List.getElem_reverse]
    have hc := hb (l[l.length - 1 - k]'(by omega)) (List.getElem_mem _)
    have hmul : IntKind.u64.wrap (valB (l.reverse.take k) * 256) = valB (l.reverse.take k) * 256 := wrap_u64 (by omega) (by omega)
    have hcw : IntKind.u64.wrap (l[l.length - 1 - k]'(by omega)) = l[l.length - 1 - k]'(by omega) := wrap_u64 hc.1 (by omega)
    have hadd : IntKind.u64.wrap (valB (l.reverse.take k) * 256 + l[l.length - 1 - k]'(by omega)) = valB (l.reverse.take (k + 1)) := by
      rw [valB_succ hkr, hge]; exact wrap_u64 (by omega) (by omega)
    repeat' (first|refine zw278 ?_|(refine ta_ ?_;intro _)|(refine zk0 ?_ ?_<;>intro ht)|fail)
    · exact nx_round (k + 1) (by show k + 1 ≤ l.length; omega) (by show l.length - (k + 1) < l.length - k; omega) ts_ (fun _ s => s)
    all_goals omega
  · have ek : k = l.length := by omega
    subst ek
    repeat' (first|refine zw278 ?_|(refine ta_ ?_;intro _)|(refine zk0 ?_ ?_<;>intro ht)|fail)
    all_goals try omega
    rw [show l.length = l.reverse.length by simp, List.take_length]
    exact nx_ret1 rfl (rv_tmp rfl) (fun w' s' => ⟨rfl, s'⟩)
theorem rMix_sp (a b : List Int) (ha : Bytes a) (hb : Bytes b) (hl : a.length ≤ 900000) (h : View) (w : World) (s : St ⟨w, h, []⟩ h [] w) :
    Calls Tryz.prog 111 [.string (bstr a), .string (bstr b)].toArray w fun e w' => e = .returned (.string (bstr (mixB a b))) ∧ St ⟨w, h, []⟩ h [] w' := by
  have hml := mixB_len a b
  refine calls_enter Tryz.func111 rfl Tryz.ntmps111 rfl s ?_
  repeat' (first|refine zw278 ?_|(refine ta_ ?_;intro _)|(refine zk0 ?_ ?_<;>intro ht)|fail)
  refine cx_row 5 1 ?_
  refine cx_loop (X := Nat × Value) (fun y => [(0, .string (bstr a)), (1, .string (bstr b)), (5, y.2), (6, .int .i64 (y.1 : Nat))]) (fun _ => h) (fun y => [rowB y.2 ((mixB a b).take y.1)]) (fun y => y.1 ≤ min a.length b.length) (fun y => min a.length b.length - y.1) (0, .slice none 0 0) (Nat.zero_le _) ts_ (fun _ s => s) ?_
  rintro ⟨k, v⟩ hk
  replace hk : k ≤ min a.length b.length := hk
  dsimp only
  by_cases hkm : k < min a.length b.length
  · have ha8 := ha a[k] (List.getElem_mem _)
    have hb8 := hb b[k] (List.getElem_mem _)
    have hnx : (mixB a b).take (k + 1) = (mixB a b).take k ++ [bx a[k] b[k]] := by
      rw [List.take_succ_eq_append_getElem (by omega)]
      simp [mixB]
    have htl : ((mixB a b).take k).length = k := by rw [List.length_take]; omega
    repeat' (first|refine zw279 ?_|(refine ta_ ?_;intro _)|(refine zk0 ?_ ?_<;>intro ht)|fail)
    · refine cx_region_draw' rfl (by kernel_rfl) ?_
      repeat' (first|refine zw280 ?_|(refine ycf ?_;(first|(refine zg0 ?_ ?_<;>intro ht)|(refine tb_ ?_ ?_ ?_;(·(exact to_));(·intro _;(exact to_));intro _)))|fail)
      refine rx_append (sz := 1) 1 rfl rfl rfl (yaz 0 rfl) rfl (bcs_one [bx a[k] b[k]]) rfl (by omega) (by unfold maxLen; omega) (by omega) rfl rfl rfl ?_ ?_ ?_
      · (exact to_)
      · intro v'; (exact to_)
      intro v2 _
      repeat' (first|refine zw280 ?_|(refine ycf ?_;(first|(refine zg0 ?_ ?_<;>intro ht)|(refine tb_ ?_ ?_ ?_;(·(exact to_));(·intro _;(exact to_));intro _)))|fail)
      repeat' (first|refine zw183 ?_|(refine ta_ ?_;intro _)|(refine zk0 ?_ ?_<;>intro ht)|fail)
      refine nx_round (k + 1, v2) (by show k + 1 ≤ min a.length b.length; omega) (by show min a.length b.length - (k + 1) < min a.length b.length - k; omega) ts_ (fun _ s => ?_)
      dsimp only
      rw [hnx]
      unfold rowB
      rw [List.length_append, bcs_app]
      exact s.tl
    all_goals omega
  · have ek : k = min a.length b.length := by omega
    subst ek
    rw [List.take_of_length_le (by omega)]
    refine cx_rowsl 0 rfl ?_
    rintro ad cap rfl
    repeat' (first|refine zw281 ?_|(refine ta_ ?_;intro _)|(refine zk0 ?_ ?_<;>intro ht)|fail)
    all_goals try omega
    all_goals
      refine rx_persist rfl fun h2 hle2 hv => ?_
      have hv : Bs8 h2 (.slice ad (mixB a b).length cap) (mixB a b) := hv
      repeat' (first|refine zw282 ?_|(refine ta_ ?_;intro _)|(refine zk0 ?_ ?_<;>intro ht)|fail)
      exact nx_ret1 rfl (rv_tmp rfl) (fun w' s' => ⟨rfl, s'.base⟩)
end Go.Proofs.YtgeepceieckooaaGreatDoor
end

section
namespace Go.Proofs.YtgeepceieckooaaGreatDoor
open Go Go.Ck
set_option maxHeartbeats 4000000
theorem rquarter_sp (st : List W32) (a b c d : Nat) (h16 : st.length = 16) (ha : a < 16) (hb : b < 16) (hc : c < 16) (hd : d < 16) (h : View) (w : World) (s : St ⟨w, h, []⟩ h [] w) :
    Calls Tryz.prog 128 [.agg (up32 st).toArray, .int .i64 (a : Nat), .int .i64 (b : Nat), .int .i64 (c : Nat), .int .i64 (d : Nat)].toArray w fun r w' => r = .returned (.agg (up32 (quarterF st a b c d)).toArray) ∧ St ⟨w, h, []⟩ h [] w' := by
  obtain ⟨s0, e0⟩ : ∃ s0, s0 = st := ⟨_, rfl⟩
  have l0 : s0.length = 16 := by rw [e0, h16]
  obtain ⟨s1, e1⟩ : ∃ x, x = s0.set a (s0.getD a 0 + s0.getD b 0) := ⟨_, rfl⟩
  have l1 : s1.length = 16 := by rw [e1, List.length_set, l0]
  have ca0 := getD_at (l := s0) (i := a) (by omega)
  have cb0 := getD_at (l := s0) (i := b) (by omega)
  obtain ⟨s2, e2⟩ : ∃ x, x = s1.set d (rotL (s1.getD d 0 ^^^ s1.getD a 0) (turnK 16)) := ⟨_, rfl⟩
  have l2 : s2.length = 16 := by rw [e2, List.length_set, l1]
  have cd1 := getD_at (l := s1) (i := d) (by omega)
  have ca1 := getD_at (l := s1) (i := a) (by omega)
  obtain ⟨s3, e3⟩ : ∃ x, x = s2.set c (s2.getD c 0 + s2.getD d 0) := ⟨_, rfl⟩
  have l3 : s3.length = 16 := by rw [e3, List.length_set, l2]
  have cc2 := getD_at (l := s2) (i := c) (by omega)
  have cd2 := getD_at (l := s2) (i := d) (by omega)
  obtain ⟨s4, e4⟩ : ∃ x, x = s3.set b (rotL (s3.getD b 0 ^^^ s3.getD c 0) (turnK 12)) := ⟨_, rfl⟩
  have l4 : s4.length = 16 := by rw [e4, List.length_set, l3]
  have cb3 := getD_at (l := s3) (i := b) (by omega)
  have cc3 := getD_at (l := s3) (i := c) (by omega)
  obtain ⟨s5, e5⟩ : ∃ x, x = s4.set a (s4.getD a 0 + s4.getD b 0) := ⟨_, rfl⟩
  have l5 : s5.length = 16 := by rw [e5, List.length_set, l4]
  have ca4 := getD_at (l := s4) (i := a) (by omega)
  have cb4 := getD_at (l := s4) (i := b) (by omega)
  obtain ⟨s6, e6⟩ : ∃ x, x = s5.set d (rotL (s5.getD d 0 ^^^ s5.getD a 0) (turnK 8)) := ⟨_, rfl⟩
  have l6 : s6.length = 16 := by rw [e6, List.length_set, l5]
  have cd5 := getD_at (l := s5) (i := d) (by omega)
  have ca5 := getD_at (l := s5) (i := a) (by omega)
  obtain ⟨s7, e7⟩ : ∃ x, x = s6.set c (s6.getD c 0 + s6.getD d 0) := ⟨_, rfl⟩
  have l7 : s7.length = 16 := by rw [e7, List.length_set, l6]
  have cc6 := getD_at (l := s6) (i := c) (by omega)
  have cd6 := getD_at (l := s6) (i := d) (by omega)
  obtain ⟨s8, e8⟩ : ∃ x, x = s7.set b (rotL (s7.getD b 0 ^^^ s7.getD c 0) (turnK 7)) := ⟨_, rfl⟩
  have l8 : s8.length = 16 := by rw [e8, List.length_set, l7]
  have cb7 := getD_at (l := s7) (i := b) (by omega)
  have cc7 := getD_at (l := s7) (i := c) (by omega)
  have eq : quarterF st a b c d = s8 := by rw [e8, e7, e6, e5, e4, e3, e2, e1, e0]; rfl
  rw [eq]
  subst e0
  refine calls_enter Tryz.func128 rfl Tryz.ntmps128 rfl s ?_
  repeat' (first|refine zw283 ?_|(refine ta_ ?_;intro _)|(refine zk0 ?_ ?_<;>intro ht)|fail)
  repeat' (first|refine zw284 ?_|(refine ta_ ?_;intro _)|(refine zk0 ?_ ?_<;>intro ht)|fail)
  refine cx_region_draw' rfl (by kernel_rfl) ?_
  repeat' (first|refine zw285 ?_|(refine ycf ?_;(first|(refine zg0 ?_ ?_<;>intro ht)|(refine tb_ ?_ ?_ ?_;(·(exact to_));(·intro _;(exact to_));intro _)))|fail)
  repeat' (first|refine zw286 ?_|(refine ta_ ?_;intro _)|(refine zk0 ?_ ?_<;>intro ht)|fail)
  refine cx_region_draw' rfl (by kernel_rfl) ?_
  repeat' (first|refine zw287 ?_|(refine ycf ?_;(first|(refine zg0 ?_ ?_<;>intro ht)|(refine tb_ ?_ ?_ ?_;(·(exact to_));(·intro _;(exact to_));intro _)))|fail)
  (refine ycn (ycp Tryz.func140 rfl (by kernel_rfl) rfl) (rLeft_sp (s1.getD d 0 ^^^ s1.getD a 0) 16 h) rfl rfl rfl ?_ ?_; (· (exact to_)))
  repeat' (first|refine zw287 ?_|(refine ycf ?_;(first|(refine zg0 ?_ ?_<;>intro ht)|(refine tb_ ?_ ?_ ?_;(·(exact to_));(·intro _;(exact to_));intro _)))|fail)
  repeat' (first|refine zw288 ?_|(refine ta_ ?_;intro _)|(refine zk0 ?_ ?_<;>intro ht)|fail)
  refine cx_region_draw' rfl (by kernel_rfl) ?_
  repeat' (first|refine zw289 ?_|(refine ycf ?_;(first|(refine zg0 ?_ ?_<;>intro ht)|(refine tb_ ?_ ?_ ?_;(·(exact to_));(·intro _;(exact to_));intro _)))|fail)
  repeat' (first|refine zw290 ?_|(refine ta_ ?_;intro _)|(refine zk0 ?_ ?_<;>intro ht)|fail)
  refine cx_region_draw' rfl (by kernel_rfl) ?_
  repeat' (first|refine zw291 ?_|(refine ycf ?_;(first|(refine zg0 ?_ ?_<;>intro ht)|(refine tb_ ?_ ?_ ?_;(·(exact to_));(·intro _;(exact to_));intro _)))|fail)
  (refine ycn (ycp Tryz.func140 rfl (by kernel_rfl) rfl) (rLeft_sp (s3.getD b 0 ^^^ s3.getD c 0) 12 h) rfl rfl rfl ?_ ?_; (· (exact to_)))
  repeat' (first|refine zw291 ?_|(refine ycf ?_;(first|(refine zg0 ?_ ?_<;>intro ht)|(refine tb_ ?_ ?_ ?_;(·(exact to_));(·intro _;(exact to_));intro _)))|fail)
  repeat' (first|refine zw292 ?_|(refine ta_ ?_;intro _)|(refine zk0 ?_ ?_<;>intro ht)|fail)
  refine cx_region_draw' rfl (by kernel_rfl) ?_
  repeat' (first|refine zw293 ?_|(refine ycf ?_;(first|(refine zg0 ?_ ?_<;>intro ht)|(refine tb_ ?_ ?_ ?_;(·(exact to_));(·intro _;(exact to_));intro _)))|fail)
  repeat' (first|refine zw294 ?_|(refine ta_ ?_;intro _)|(refine zk0 ?_ ?_<;>intro ht)|fail)
  refine cx_region_draw' rfl (by kernel_rfl) ?_
  repeat' (first|refine zw295 ?_|(refine ycf ?_;(first|(refine zg0 ?_ ?_<;>intro ht)|(refine tb_ ?_ ?_ ?_;(·(exact to_));(·intro _;(exact to_));intro _)))|fail)
  (refine ycn (ycp Tryz.func140 rfl (by kernel_rfl) rfl) (rLeft_sp (s5.getD d 0 ^^^ s5.getD a 0) 8 h) rfl rfl rfl ?_ ?_; (· (exact to_)))
  repeat' (first|refine zw295 ?_|(refine ycf ?_;(first|(refine zg0 ?_ ?_<;>intro ht)|(refine tb_ ?_ ?_ ?_;(·(exact to_));(·intro _;(exact to_));intro _)))|fail)
  repeat' (first|refine zw296 ?_|(refine ta_ ?_;intro _)|(refine zk0 ?_ ?_<;>intro ht)|fail)
  refine cx_region_draw' rfl (by kernel_rfl) ?_
  repeat' (first|refine zw297 ?_|(refine ycf ?_;(first|(refine zg0 ?_ ?_<;>intro ht)|(refine tb_ ?_ ?_ ?_;(·(exact to_));(·intro _;(exact to_));intro _)))|fail)
  repeat' (first|refine zw298 ?_|(refine ta_ ?_;intro _)|(refine zk0 ?_ ?_<;>intro ht)|fail)
  refine cx_region_draw' rfl (by kernel_rfl) ?_
  repeat' (first|refine zw299 ?_|(refine ycf ?_;(first|(refine zg0 ?_ ?_<;>intro ht)|(refine tb_ ?_ ?_ ?_;(·(exact to_));(·intro _;(exact to_));intro _)))|fail)
  (refine ycn (ycp Tryz.func140 rfl (by kernel_rfl) rfl) (rLeft_sp (s7.getD b 0 ^^^ s7.getD c 0) 7 h) rfl rfl rfl ?_ ?_; (· (exact to_)))
  repeat' (first|refine zw299 ?_|(refine ycf ?_;(first|(refine zg0 ?_ ?_<;>intro ht)|(refine tb_ ?_ ?_ ?_;(·(exact to_));(·intro _;(exact to_));intro _)))|fail)
  repeat' (first|refine zw300 ?_|(refine ta_ ?_;intro _)|(refine zk0 ?_ ?_<;>intro ht)|fail)
  exact nx_ret1 rfl (rv_cells rfl (yaz 0 rfl) (w_sz l8)) (fun w' s' => ⟨rfl, s'.nil⟩)
end Go.Proofs.YtgeepceieckooaaGreatDoor
end

section
namespace Go.Proofs.YtgeepceieckooaaGreatDoor
open Go Go.Ck
set_option maxHeartbeats 1000000
section
variable {P : Program} {n : Nat} {F : List (Nat × Value)} {h : View} {L : List Res} {dst : Option Nat} {ty : Nat} {pos : String} {af : Array Edge} {gd : Option (Nat × Bool)}
theorem qv_str_ij {T : Nat} {x y z : Operand} {l : List Int} (i j : Nat) {i' j' : Int} {ki kj : IntKind} [tu : TyU P T .string] (hx : ev F x = some (.string (bstr l))) (hy : ev F y = some (.int ki i')) (hz : ev F z = some (.int kj j')) (hi : i' = i) (hj : j' = j) (h0 : i ≤ j) (h1 : j ≤ l.length) :
    QV P n F h L ⟨dst, .slice T x (some y) (some z) none, ty, pos, af, gd⟩ (.string (bstr ((l.drop i).take (j - i)))) := .mk fun a w f s => by
  subst hi hj
  have h2 : j ≤ (bstr l).size := by rw [bstr_size]; exact h1
  simp [execOp, f.ev hx, f.ev hy, f.ev hz, Instr.sliceAt, Instr.slice, Instr.sliceBounds, Instr.sliceBound, asIntOf, run_underlying tu.u, h2, h0]
  apply ByteArray.ext
  rw [ByteArray.data_extract]
  simp [bstr, List.map_take, List.map_drop]
end
theorem zip_getD {a b : List W32} {i : Nat} (ha : i < a.length) (hb : i < b.length) : (List.zipWith (· + ·) a b).getD i 0 = a.getD i 0 + b.getD i 0 := by
  rw [List.getD_eq_getElem?_getD, List.getD_eq_getElem?_getD, List.getD_eq_getElem?_getD, List.getElem?_eq_getElem (by simp; omega), List.getElem?_eq_getElem ha, List.getElem?_eq_getElem hb]
  simp
theorem rquarter_spi (ia ib ic id' : Int) (st : List W32) (a b c d : Nat) (h16 : st.length = 16) (ha : a < 16) (hb : b < 16) (hc : c < 16) (hd : d < 16) (ea : ia = (a : Nat)) (eb : ib = (b : Nat)) (ec : ic = (c : Nat)) (ed : id' = (d : Nat)) (h : View) (w : World) (s : St ⟨w, h, []⟩ h [] w) :
    Calls Tryz.prog 128 [.agg (up32 st).toArray, .int .i64 ia, .int .i64 ib, .int .i64 ic, .int .i64 id'].toArray w fun r w' => r = .returned (.agg (up32 (quarterF st a b c d)).toArray) ∧ St ⟨w, h, []⟩ h [] w' := by
  subst ea eb ec ed
  exact rquarter_sp st a b c d h16 ha hb hc hd h w s
theorem rBlock_sp (key : List Int) (n : W32) (nonce : List Int) (hk : Bytes key) (hn : Bytes nonce) (hk32 : key.length = 32) (hn12 : nonce.length = 12) (h : View) (w : World) (s : St ⟨w, h, []⟩ h [] w) :
    Calls Tryz.prog 110 [.string (bstr key), v32 n, .string (bstr nonce)].toArray w fun e w' => e = .returned (.string (bstr (blockF key n nonce))) ∧ St ⟨w, h, []⟩ h [] w' := by
  refine calls_enter Tryz.func110 rfl Tryz.ntmps110 rfl s ?_
  repeat' (first|refine zw301 ?_|(refine ta_ ?_;intro _)|(refine zk0 ?_ ?_<;>intro ht)|fail)
  rename_i bs
  have hpl : ∀ l : List W32, l.length ≤ 16 → (pad32 16 l).length = 16 := fun l hl => pad32_len hl
  refine cx_loop (X := Nat) (fun k => [(0, .string (bstr key)), (1, v32 n), (2, .string (bstr nonce)), (7, .pointer (some ⟨bs, 0, none⟩)), (8, .int .i64 (k : Nat))]) (fun _ => h) (fun k => [Res.blk bs (.cells (up32 (pad32 16 (chHead ++ keyW key k))).toArray 166 (0, 0))]) (fun k => k ≤ 8) (fun k => 8 - k) 0 (Nat.zero_le _) ts_ (fun _ s => s) ?_
  intro k hk8
  have hwl : (chHead ++ keyW key k).length = 4 + k := by simp [keyW_len, chHead]; omega
  by_cases hkl : k < 8
  · have hm : IntKind.i64.wrap (4 * (k : Int)) = ((4 * k : Nat) : Int) := by rw [IntKind.wrap_i64]<;>omega
    have H := WordL_sp _ (bytes_take (bytes_drop hk (4 * k)) (4 * k + 4 - 4 * k)) (by simp; omega) h
    rw [show 4 * k + 4 - 4 * k = 4 by omega] at H
    have hw : IntKind.u32.wrap (valL ((key.drop (4 * k)).take 4)) = ((lo32 ((key.drop (4 * k)).take 4)).toNat : Int) := wrapw rfl rfl _
    have hst : (pad32 16 (chHead ++ keyW key k)).set (4 + k) (lo32 ((key.drop (4 * k)).take 4)) = pad32 16 (chHead ++ keyW key (k + 1)) := by
      rw [pad32_set hwl (by omega), keyW, List.append_assoc]
    have hpl := pad32_len (n := 16) (l := chHead ++ keyW key k) (by omega)
    repeat' (first|refine zw302 ?_|(refine ta_ ?_;intro _)|(refine zk0 ?_ ?_<;>intro ht)|fail)
    rw [show 4 * k + 4 - 4 * k = 4 by omega]
    (refine ycn (ycp Tryz.func99 rfl (by kernel_rfl) rfl) (H) rfl rfl rfl ?_ ?_; (· (exact to_)))
    repeat' (first|refine zw303 ?_|(refine ta_ ?_;intro _)|(refine zk0 ?_ ?_<;>intro ht)|fail)
    exact nx_round (k + 1) (by show k + 1 ≤ 8; omega) (by show 8 - (k + 1) < 8 - k; omega) ts_ (fun _ s => s)
  · have ek : k = 8 := by omega
    subst ek
    have hst : (pad32 16 (chHead ++ keyW key 8)).set 12 n = pad32 16 (chHead ++ keyW key 8 ++ [n]) := pad32_set hwl (by omega)
    have hpl := pad32_len (n := 16) (l := chHead ++ keyW key 8) (by omega)
    repeat' (first|refine zw304 ?_|(refine ta_ ?_;intro _)|(refine zk0 ?_ ?_<;>intro ht)|fail)
    refine cx_loop (X := Nat) (fun k => [(7, .pointer (some ⟨bs, 0, none⟩)), (2, .string (bstr nonce)), (9, .int .i64 (k : Nat))]) (fun _ => h) (fun k => [Res.blk bs (.cells (up32 (pad32 16 (chHead ++ keyW key 8 ++ [n] ++ keyW nonce k))).toArray 166 (0, 0))]) (fun k => k ≤ 3) (fun k => 3 - k) 0 (Nat.zero_le _) ts_ (fun _ s => by rw [keyW, List.append_nil]; exact s) ?_
    intro k hk3
    have hwl : (chHead ++ keyW key 8 ++ [n] ++ keyW nonce k).length = 13 + k := by simp [keyW_len, chHead]; omega
    by_cases hkl : k < 3
    · have hm : IntKind.i64.wrap (4 * (k : Int)) = ((4 * k : Nat) : Int) := by rw [IntKind.wrap_i64]<;>omega
      have H := WordL_sp _ (bytes_take (bytes_drop hn (4 * k)) (4 * k + 4 - 4 * k)) (by simp; omega) h
      rw [show 4 * k + 4 - 4 * k = 4 by omega] at H
      have hw : IntKind.u32.wrap (valL ((nonce.drop (4 * k)).take 4)) = ((lo32 ((nonce.drop (4 * k)).take 4)).toNat : Int) := wrapw rfl rfl _
      have hst : (pad32 16 (chHead ++ keyW key 8 ++ [n] ++ keyW nonce k)).set (13 + k) (lo32 ((nonce.drop (4 * k)).take 4)) = pad32 16 (chHead ++ keyW key 8 ++ [n] ++ keyW nonce (k + 1)) := by
        rw [pad32_set hwl (by omega), List.append_assoc]
        rfl
      have hpl := pad32_len (n := 16) (l := chHead ++ keyW key 8 ++ [n] ++ keyW nonce k) (by omega)
      generalize chHead ++ keyW key 8 ++ [n] ++ keyW nonce k = w0 at hwl hst hpl ⊢
      repeat' (first|refine zw302 ?_|(refine ta_ ?_;intro _)|(refine zk0 ?_ ?_<;>intro ht)|fail)
      rw [show 4 * k + 4 - 4 * k = 4 by omega]
      (refine ycn (ycp Tryz.func99 rfl (by kernel_rfl) rfl) (H) rfl rfl rfl ?_ ?_; (· (exact to_)))
      repeat' (first|refine zw305 ?_|(refine ta_ ?_;intro _)|(refine zk0 ?_ ?_<;>intro ht)|fail)
      exact nx_round (k + 1) (by show k + 1 ≤ 3; omega) (by show 3 - (k + 1) < 3 - k; omega) ts_ (fun _ s => s)
    · have ek : k = 3 := by omega
      subst ek
      have e1 : pad32 16 (chHead ++ keyW key 8 ++ [n] ++ keyW nonce 3) = beginF key n nonce := pad32_full hwl
      have l1 := beginF_len key n nonce
      have eB : blockF key n nonce = outF (List.zipWith (· + ·) (wkF (beginF key n nonce) 10) (beginF key n nonce)) 16 := rfl
      rw [e1, eB]
      clear eB
      generalize beginF key n nonce = s0 at l1 ⊢
      repeat' (first|refine zw306 ?_|(refine ta_ ?_;intro _)|(refine zk0 ?_ ?_<;>intro ht)|fail)
      rename_i bv
      refine cx_loop (X := Nat) (fun k => [(7, .pointer (some ⟨bs, 0, none⟩)), (10, .pointer (some ⟨bv, 0, none⟩)), (11, .int .i64 (k : Nat))]) (fun _ => h) (fun k => [Res.blk bv (.cells (up32 (wkF s0 k)).toArray 166 (0, 0)), Res.blk bs (.cells (up32 s0).toArray 166 (0, 0))]) (fun k => k ≤ 10) (fun k => 10 - k) 0 (Nat.zero_le _) ts_ (fun _ s => s) ?_
      intro k hk
      have hwk := (wkF_len s0 k).trans l1
      by_cases hk10 : k < 10
      · have ew : wkF s0 (k + 1) = roundF (wkF s0 k) := rfl
        generalize wkF s0 k = q0 at hwk ew ⊢
        have m0 : q0.length = 16 := hwk
        obtain ⟨q1, e1⟩ : ∃ x, x = quarterF q0 0 4 8 12 := ⟨_, rfl⟩
        have m1 : q1.length = 16 := by rw [e1, quarterF_len, m0]
        obtain ⟨q2, e2⟩ : ∃ x, x = quarterF q1 1 5 9 13 := ⟨_, rfl⟩
        have m2 : q2.length = 16 := by rw [e2, quarterF_len, m1]
        obtain ⟨q3, e3⟩ : ∃ x, x = quarterF q2 2 6 10 14 := ⟨_, rfl⟩
        have m3 : q3.length = 16 := by rw [e3, quarterF_len, m2]
        obtain ⟨q4, e4⟩ : ∃ x, x = quarterF q3 3 7 11 15 := ⟨_, rfl⟩
        have m4 : q4.length = 16 := by rw [e4, quarterF_len, m3]
        obtain ⟨q5, e5⟩ : ∃ x, x = quarterF q4 0 5 10 15 := ⟨_, rfl⟩
        have m5 : q5.length = 16 := by rw [e5, quarterF_len, m4]
        obtain ⟨q6, e6⟩ : ∃ x, x = quarterF q5 1 6 11 12 := ⟨_, rfl⟩
        have m6 : q6.length = 16 := by rw [e6, quarterF_len, m5]
        obtain ⟨q7, e7⟩ : ∃ x, x = quarterF q6 2 7 8 13 := ⟨_, rfl⟩
        have m7 : q7.length = 16 := by rw [e7, quarterF_len, m6]
        obtain ⟨q8, e8⟩ : ∃ x, x = quarterF q7 3 4 9 14 := ⟨_, rfl⟩
        have m8 : q8.length = 16 := by rw [e8, quarterF_len, m7]
        have er : roundF q0 = q8 := by rw [e8, e7, e6, e5, e4, e3, e2, e1]; rfl
        rw [er] at ew
        repeat' (first|refine zw307 ?_|(refine ta_ ?_;intro _)|(refine zk0 ?_ ?_<;>intro ht)|fail)
        have Q := rquarter_spi 0 4 8 12 q0 0 4 8 12 m0 (by omega) (by omega) (by omega) (by omega) rfl rfl rfl rfl h
        rw [← e1] at Q
        (refine ycn (ycp Tryz.func128 rfl (by kernel_rfl) rfl) (Q) rfl rfl rfl ?_ ?_; (· (exact to_)))
        repeat' (first|refine zw308 ?_|(refine ta_ ?_;intro _)|(refine zk0 ?_ ?_<;>intro ht)|fail)
        have Q := rquarter_spi 1 5 9 13 q1 1 5 9 13 m1 (by omega) (by omega) (by omega) (by omega) rfl rfl rfl rfl h
        rw [← e2] at Q
        (refine ycn (ycp Tryz.func128 rfl (by kernel_rfl) rfl) (Q) rfl rfl rfl ?_ ?_; (· (exact to_)))
        repeat' (first|refine zw309 ?_|(refine ta_ ?_;intro _)|(refine zk0 ?_ ?_<;>intro ht)|fail)
        have Q := rquarter_spi 2 6 10 14 q2 2 6 10 14 m2 (by omega) (by omega) (by omega) (by omega) rfl rfl rfl rfl h
        rw [← e3] at Q
        (refine ycn (ycp Tryz.func128 rfl (by kernel_rfl) rfl) (Q) rfl rfl rfl ?_ ?_; (· (exact to_)))
        repeat' (first|refine zw310 ?_|(refine ta_ ?_;intro _)|(refine zk0 ?_ ?_<;>intro ht)|fail)
        have Q := rquarter_spi 3 7 11 15 q3 3 7 11 15 m3 (by omega) (by omega) (by omega) (by omega) rfl rfl rfl rfl h
        rw [← e4] at Q
        (refine ycn (ycp Tryz.func128 rfl (by kernel_rfl) rfl) (Q) rfl rfl rfl ?_ ?_; (· (exact to_)))
        repeat' (first|refine zw311 ?_|(refine ta_ ?_;intro _)|(refine zk0 ?_ ?_<;>intro ht)|fail)
        have Q := rquarter_spi 0 5 10 15 q4 0 5 10 15 m4 (by omega) (by omega) (by omega) (by omega) rfl rfl rfl rfl h
        rw [← e5] at Q
        (refine ycn (ycp Tryz.func128 rfl (by kernel_rfl) rfl) (Q) rfl rfl rfl ?_ ?_; (· (exact to_)))
        repeat' (first|refine zw312 ?_|(refine ta_ ?_;intro _)|(refine zk0 ?_ ?_<;>intro ht)|fail)
        have Q := rquarter_spi 1 6 11 12 q5 1 6 11 12 m5 (by omega) (by omega) (by omega) (by omega) rfl rfl rfl rfl h
        rw [← e6] at Q
        (refine ycn (ycp Tryz.func128 rfl (by kernel_rfl) rfl) (Q) rfl rfl rfl ?_ ?_; (· (exact to_)))
        repeat' (first|refine zw313 ?_|(refine ta_ ?_;intro _)|(refine zk0 ?_ ?_<;>intro ht)|fail)
        have Q := rquarter_spi 2 7 8 13 q6 2 7 8 13 m6 (by omega) (by omega) (by omega) (by omega) rfl rfl rfl rfl h
        rw [← e7] at Q
        (refine ycn (ycp Tryz.func128 rfl (by kernel_rfl) rfl) (Q) rfl rfl rfl ?_ ?_; (· (exact to_)))
        repeat' (first|refine zw314 ?_|(refine ta_ ?_;intro _)|(refine zk0 ?_ ?_<;>intro ht)|fail)
        have Q := rquarter_spi 3 4 9 14 q7 3 4 9 14 m7 (by omega) (by omega) (by omega) (by omega) rfl rfl rfl rfl h
        rw [← e8] at Q
        (refine ycn (ycp Tryz.func128 rfl (by kernel_rfl) rfl) (Q) rfl rfl rfl ?_ ?_; (· (exact to_)))
        repeat' (first|refine zw315 ?_|(refine ta_ ?_;intro _)|(refine zk0 ?_ ?_<;>intro ht)|fail)
        refine nx_round (k + 1) (by show k + 1 ≤ 10; omega) (by show 10 - (k + 1) < 10 - k; omega) ts_ (fun _ s => by rw [ew]; exact s)
      · have ek : k = 10 := by omega
        subst ek
        repeat' (first|refine zw183 ?_|(refine ta_ ?_;intro _)|(refine zk0 ?_ ?_<;>intro ht)|fail)
        have m10 := (wkF_len s0 10).trans l1
        generalize wkF s0 10 = v0 at m10 ⊢
        have hzl : (List.zipWith (· + ·) v0 s0).length = 16 := by simp; omega
        refine cx_loop (X := Nat) (fun k => [(7, .pointer (some ⟨bs, 0, none⟩)), (10, .pointer (some ⟨bv, 0, none⟩)), (12, .string (bstr (outF (List.zipWith (· + ·) v0 s0) k))), (13, .int .i64 (k : Nat))]) (fun _ => h) (fun k => [Res.blk bv (.cells (up32 v0).toArray 166 (0, 0)), Res.blk bs (.cells (up32 s0).toArray 166 (0, 0))]) (fun k => k ≤ 16) (fun k => 16 - k) 0 (Nat.zero_le _) ts_ (fun _ s => s) ?_
        intro k hk
        have hol := outF_len (List.zipWith (· + ·) v0 s0) k
        by_cases hk16 : k < 16
        · have cv := getD_at (l := v0) (i := k) (by omega)
          have cs := getD_at (l := s0) (i := k) (by omega)
          have ez := zip_getD (a := v0) (b := s0) (i := k) (by omega) (by omega)
          have eo : outF (List.zipWith (· + ·) v0 s0) (k + 1) = outF (List.zipWith (· + ·) v0 s0) k ++ putLow 4 ((v0.getD k 0 + s0.getD k 0).toNat : Int) := by rw [← ez]; rfl
          generalize outF (List.zipWith (· + ·) v0 s0) k = o0 at hol eo ⊢
          generalize hx1 : v0.getD k 0 = x1 at cv eo
          generalize hx2 : s0.getD k 0 = x2 at cs eo
          have hlt := (x1 + x2).isLt
          have P := PutL_sp ((x1 + x2).toNat : Int) 4 ⟨by omega, by omega⟩ (by omega) h
          have hcat : bstr o0 ++ bstr (putLow 4 ((x1 + x2).toNat : Int)) = bstr (outF (List.zipWith (· + ·) v0 s0) (k + 1)) := by rw [bstr_app, eo]
          have hsz : (bstr o0).size + (bstr (putLow 4 ((x1 + x2).toNat : Int))).size < 1000000 := by rw [bstr_size, bstr_size, putLow_len]; omega
          repeat' (first|refine zw316 ?_|(refine ta_ ?_;intro _)|(refine zk0 ?_ ?_<;>intro ht)|fail)
          refine cx_region_draw' rfl (by kernel_rfl) ?_
          repeat' (first|refine zw317 ?_|(refine ycf ?_;(first|(refine zg0 ?_ ?_<;>intro ht)|(refine tb_ ?_ ?_ ?_;(·(exact to_));(·intro _;(exact to_));intro _)))|fail)
          (refine ycn (ycp Tryz.func85 rfl (by kernel_rfl) rfl) (P) rfl rfl rfl ?_ ?_; (· (exact to_)))
          repeat' (first|refine zw317 ?_|(refine ycf ?_;(first|(refine zg0 ?_ ?_<;>intro ht)|(refine tb_ ?_ ?_ ?_;(·(exact to_));(·intro _;(exact to_));intro _)))|fail)
          repeat' (first|refine zw3 ?_|(refine ta_ ?_;intro _)|(refine zk0 ?_ ?_<;>intro ht)|fail)
          refine nx_round (k + 1) (by show k + 1 ≤ 16; omega) (by show 16 - (k + 1) < 16 - k; omega) ts_ (fun _ s => s)
        · have ek : k = 16 := by omega
          subst ek
          repeat' (first|refine zw183 ?_|(refine ta_ ?_;intro _)|(refine zk0 ?_ ?_<;>intro ht)|fail)
          exact nx_ret1 rfl (rv_tmp rfl) (fun w' s' => ⟨rfl, s'.nil⟩)
end Go.Proofs.YtgeepceieckooaaGreatDoor
end

section
namespace Go.Proofs.YtgeepceieckooaaGreatDoor
open Go Go.Ck
set_option maxHeartbeats 4000000
theorem St.srowNil {K : Bs} {h : View} {L : List Res} {w : World} (s : St K h L w) (e : TypeId) : St K h (Res.srow e (.slice none 0 0) 0 [] :: L) w := by
  have hd : doms (Res.srow e (.slice none 0 0) 0 [] :: L) = doms L := by simp [doms_cons, Res.srow, Value.ownBlock]
  exact ⟨s.os, s.tape, s.output, s.drawn, s.size, s.keep, ⟨s.hd.view, fun r hr => by
    rcases List.mem_cons.1 hr with rfl | hr
    · exact ⟨rfl, .inl ⟨rfl, rfl⟩⟩
    · exact s.hd.own r hr⟩, by rw [hd]; exact s.nd, fun b hb => s.src b (by rw [← hd]; exact hb), s.grow, s.new, fun b hb => s.dis b (by rw [← hd]; exact hb)⟩
theorem cx_srow {P : Program} {n : Nat} {K : Bs} {F : List (Nat × Value)} {h : View} {L : List Res} {Q : Exit → Act → World → Prop} {c : Code} (e : TypeId) (hx : CX P n K c F h (Res.srow e (.slice none 0 0) 0 [] :: L) Q) : CX P n K c F h L Q := by
  unfold CX at *
  exact fun a w f s => hx a w f (St.srowNil s e)
theorem rStream_sp (key : List Int) (n : W32) (nonce b : List Int) (hk : Bytes key) (hn : Bytes nonce) (hk32 : key.length = 32) (hn12 : nonce.length = 12) (hl : b.length ≤ 900000) (yb : Bytes b) (h : View) (w : World) (s : St ⟨w, h, []⟩ h [] w) :
    Calls Tryz.prog 95 [.string (bstr key), v32 n, .string (bstr nonce), .string (bstr b)].toArray w fun e w' => e = .returned (.string (bstr (streamF key n nonce b))) ∧ St ⟨w, h, []⟩ h [] w' := by
  refine calls_enter Tryz.func95 rfl Tryz.ntmps95 rfl s ?_
  repeat' (first|refine tw_ ?_|(refine ta_ ?_;intro _)|(refine zk0 ?_ ?_<;>intro ht)|fail)
  refine cx_srow 5 ?_
  have hfin : streamF key n nonce b = strmF key n nonce b ((b.length + 63) / 64) := rfl
  rw [hfin]
  clear hfin
  obtain ⟨m, hm⟩ : ∃ m, m = (b.length + 63) / 64 := ⟨_, rfl⟩
  rw [← hm]
  refine cx_loop (X := Nat × Value) (fun y => [(0, .string (bstr key)), (1, v32 (n + BitVec.ofNat 32 y.1)), (2, .string (bstr nonce)), (3, .string (bstr b)), (9, y.2)]) (fun _ => h) (fun y => [srB y.2 (strmF key n nonce b y.1)]) (fun y => y.1 ≤ m) (fun y => m - y.1) (0, .slice none 0 0) (Nat.zero_le _) ?_ (fun _ s => s) ?_
  · show Ck.Sub [_, (1, v32 (n + BitVec.ofNat 32 0)), _, _, _] _
    rw [show n + BitVec.ofNat 32 0 = n from BitVec.add_zero n]
    exact ts_
  rintro ⟨k, v⟩ hkm
  replace hkm : k ≤ m := hkm
  dsimp only
  have hsl := strmF_len key n nonce b k
  refine cx_srowsl 0 rfl ?_
  rintro ad1 cap1 rfl
  by_cases hklt : k < m
  · have H := rBlock_sp key (n + BitVec.ofNat 32 k) nonce hk hn hk32 hn12 h
    have hbl := blockF_len key (n + BitVec.ofNat 32 k) nonce
    have hbb : Bytes (blockF key (n + BitVec.ofNat 32 k) nonce) := outF_by _ 16
    have hnx : strmF key n nonce b (k + 1) = strmF key n nonce b k ++ mixB (blockF key (n + BitVec.ofNat 32 k) nonce) (b.drop (64 * k)) := rfl
    have hn1 : n + BitVec.ofNat 32 k + 1 = n + BitVec.ofNat 32 (k + 1) := by rw [BitVec.add_assoc]; congr 1; exact (BitVec.ofNat_add k 1).symm
    have hmy := mixB_by (blockF key (n + BitVec.ofNat 32 k) nonce) (b.drop (64 * k))
    have hml := mixB_len (blockF key (n + BitVec.ofNat 32 k) nonce) (b.drop (64 * k))
    rw [List.length_drop] at hml
    generalize blockF key (n + BitVec.ofNat 32 k) nonce = kb at H hbl hbb hnx hmy hml
    generalize n + BitVec.ofNat 32 k = nk at H hn1 ⊢
    generalize strmF key n nonce b k = o0 at hsl hnx ⊢
    have M1 := rMix_sp kb (b.drop (64 * k)) hbb (bytes_drop yb _) (by omega) h
    have hcut : bstr ((b.drop (64 * k)).take (b.length - 64 * k)) = bstr (b.drop (64 * k)) := by rw [List.take_of_length_le (by simp)]
    generalize mixB kb (b.drop (64 * k)) = mx at M1 hnx hmy hml
    have e64 : o0.length = 64 * k := by omega
    rw [← e64] at M1
    repeat' (first|refine zw318 ?_|(refine ta_ ?_;intro _)|(refine zk0 ?_ ?_<;>intro ht)|fail)
    (refine ycn (ycp Tryz.func110 rfl (by kernel_rfl) rfl) (H) rfl rfl rfl ?_ ?_; (· (exact to_)))
    repeat' (first|refine zw318 ?_|(refine ta_ ?_;intro _)|(refine zk0 ?_ ?_<;>intro ht)|fail)
    (refine ycn (ycp Tryz.func111 rfl (by kernel_rfl) rfl) (M1) rfl rfl rfl ?_ ?_; (· (exact to_)))
    refine rx_append_b (news := bcs mx) 0 rfl rfl rfl (src_str (m := mx.length) (bstr_size _) (bstr_bcs hmy)) (.inr rfl) (bcs_one _) rfl (by unfold maxLen; omega) (by omega) rfl rfl rfl ybf (fun _ => ybf) ?_
    intro v2
    repeat' (first|refine zw75 ?_|(refine ta_ ?_;intro _)|(refine zk0 ?_ ?_<;>intro ht)|fail)
    refine nx_round (k + 1, v2) (by show k + 1 ≤ m; omega) (by show m - (k + 1) < m - k; omega) ?_ (fun _ s => ?_)
    · rw [← hn1]; exact ts_
    dsimp only
    rw [hnx]
    unfold srB
    rw [List.length_append, bcs_app]
    exact s
  · have ek : k = m := by omega
    subst ek
    repeat' (first|refine zw281 ?_|(refine ta_ ?_;intro _)|(refine zk0 ?_ ?_<;>intro ht)|fail)
    refine rx_persist_s rfl fun h1 hle1 hsp => ?_
    have hsp : Bs8 h1 (.slice ad1 (strmF key n nonce b k).length cap1) (strmF key n nonce b k) := hsp
    repeat' (first|refine zw319 ?_|(refine ta_ ?_;intro _)|(refine zk0 ?_ ?_<;>intro ht)|fail)
    exact nx_ret1 rfl (rv_tmp rfl) (fun w' s' => ⟨rfl, s'.base⟩)
end Go.Proofs.YtgeepceieckooaaGreatDoor
end

section
namespace Go.Proofs.YtgeepceieckooaaGreatDoor
open Go Go.Ck
set_option maxHeartbeats 1000000
def n5 (a b c d e : Nat) : Nat := a + 67108864 * b + 4503599627370496 * c + 302231454903657293676544 * d + 20282409603651670423947251286016 * e
def pP : Nat := 1361129467683753853853498429727072845819
theorem tn_add {a b : W64} (h : a.toNat + b.toNat < 18446744073709551616) : (a + b).toNat = a.toNat + b.toNat := by
  rw [BitVec.toNat_add]; omega
theorem tn_m26 (a : W64) : (a &&& m26).toNat = a.toNat % 67108864 := by
  rw [BitVec.toNat_and]
  exact Nat.and_two_pow_sub_one_eq_mod a.toNat 26
theorem tn_s26 (a : W64) : (a >>> 26).toNat = a.toNat / 67108864 := by
  rw [BitVec.toNat_ushiftRight, Nat.shiftRight_eq_div_pow]
theorem tn_m5 {a : W64} (h : a.toNat < 1152921504606846976) : (a * 5).toNat = a.toNat * 5 := by
  rw [BitVec.toNat_mul]
  show a.toNat * 5 % _ = _
  omega
theorem cpass5 (a b c d e o : W64) (M : Nat) (hM : M ≤ 4611686018427387904) (ha : a.toNat ≤ M) (hb : b.toNat ≤ M) (hc : c.toNat ≤ M) (hd : d.toNat ≤ M) (he : e.toNat ≤ M) (ho : o.toNat ≤ 4611686018427387904) :
    ∃ a' b' c' d' e' o' : W64, cpass ([a, b, c, d, e], o) 5 = ([a', b', c', d', e'], o') ∧ a'.toNat < 67108864 ∧ b'.toNat < 67108864 ∧ c'.toNat < 67108864 ∧ d'.toNat < 67108864 ∧ e'.toNat < 67108864 ∧
      n5 a'.toNat b'.toNat c'.toNat d'.toNat e'.toNat + 1361129467683753853853498429727072845824 * o'.toNat = n5 a.toNat b.toNat c.toNat d.toNat e.toNat + o.toNat ∧ o'.toNat < 274877906944 := by
  obtain ⟨t0, h0⟩ : ∃ t, t = a + o := ⟨_, rfl⟩
  have q0 : t0.toNat = a.toNat + o.toNat := by rw [h0]; exact tn_add (by omega)
  obtain ⟨t1, h1⟩ : ∃ t, t = b + t0 >>> 26 := ⟨_, rfl⟩
  have q1 : t1.toNat = b.toNat + t0.toNat / 67108864 := by rw [h1, tn_add (by rw [tn_s26]; omega), tn_s26]
  obtain ⟨t2, h2⟩ : ∃ t, t = c + t1 >>> 26 := ⟨_, rfl⟩
  have q2 : t2.toNat = c.toNat + t1.toNat / 67108864 := by rw [h2, tn_add (by rw [tn_s26]; omega), tn_s26]
  obtain ⟨t3, h3⟩ : ∃ t, t = d + t2 >>> 26 := ⟨_, rfl⟩
  have q3 : t3.toNat = d.toNat + t2.toNat / 67108864 := by rw [h3, tn_add (by rw [tn_s26]; omega), tn_s26]
  obtain ⟨t4, h4⟩ : ∃ t, t = e + t3 >>> 26 := ⟨_, rfl⟩
  have q4 : t4.toNat = e.toNat + t3.toNat / 67108864 := by rw [h4, tn_add (by rw [tn_s26]; omega), tn_s26]
  refine ⟨t0 &&& m26, t1 &&& m26, t2 &&& m26, t3 &&& m26, t4 &&& m26, t4 >>> 26, ?_, ?_, ?_, ?_, ?_, ?_, ?_, ?_⟩
  · rw [h4, h3, h2, h1, h0]
    simp [cpass, cstep]
  all_goals simp only [tn_m26, tn_s26]
  · omega
  · omega
  · omega
  · omega
  · omega
  · unfold n5; omega
  · omega
theorem carry_val {a b c d e : W64} (M : Nat) (hM : M ≤ 4611686018427387904) (ha : a.toNat ≤ M) (hb : b.toNat ≤ M) (hc : c.toNat ≤ M) (hd : d.toNat ≤ M) (he : e.toNat ≤ M) :
    ∃ (a' b' c' d' e' : W64) (q : Nat), carryF [a, b, c, d, e] = [a', b', c', d', e'] ∧ a'.toNat < 67108869 ∧ b'.toNat < 67108864 ∧ c'.toNat < 67108864 ∧ d'.toNat < 67108864 ∧ e'.toNat < 67108864 ∧
      n5 a'.toNat b'.toNat c'.toNat d'.toNat e'.toNat + pP * q = n5 a.toNat b.toNat c.toNat d.toNat e.toNat ∧
      (M ≤ 67108868 → b.toNat < 67108864 → c.toNat < 67108864 → d.toNat < 67108864 → e.toNat < 67108864 → a'.toNat < 67108864) := by
  obtain ⟨a1, b1, c1, d1, e1, o1, e1q, ha1, hb1, hc1, hd1, he1, hv1, ho1⟩ := cpass5 a b c d e 0 M hM ha hb hc hd he (by show (0 : Nat) ≤ _; omega)
  have hm1 : (o1 * 5).toNat = o1.toNat * 5 := tn_m5 (by omega)
  obtain ⟨a2, b2, c2, d2, e2, o2, e2q, ha2, hb2, hc2, hd2, he2, hv2, ho2⟩ := cpass5 a1 b1 c1 d1 e1 (o1 * 5) 67108863 (by omega) (by omega) (by omega) (by omega) (by omega) (by omega) (by omega)
  have z0 : (0 : W64).toNat = 0 := rfl
  rw [z0] at hv1
  rw [hm1] at hv2
  have hm2 : (o2 * 5).toNat = o2.toNat * 5 := tn_m5 (by omega)
  have hs : (a2 + o2 * 5).toNat = a2.toNat + o2.toNat * 5 := by rw [tn_add (by omega), hm2]
  have ho2' : o2.toNat ≤ 1 := by unfold n5 at hv2; omega
  refine ⟨a2 + o2 * 5, b2, c2, d2, e2, o1.toNat + o2.toNat, ?_, by omega, hb2, hc2, hd2, he2, ?_, ?_⟩
  · have k1 : cout [a, b, c, d, e] 1 = ([a1, b1, c1, d1, e1], o1 * 5) := by
      show ((cpass ([a, b, c, d, e], 0) 5).1, (cpass ([a, b, c, d, e], 0) 5).2 * 5) = _
      rw [e1q]
    have k2 : cout [a, b, c, d, e] 2 = ([a2, b2, c2, d2, e2], o2 * 5) := by
      show ((cpass (cout [a, b, c, d, e] 1) 5).1, (cpass (cout [a, b, c, d, e] 1) 5).2 * 5) = _
      rw [k1, e2q]
    unfold carryF
    rw [k2]
    rfl
  · rw [hs]; unfold n5 at *; unfold pP; omega
  · intro hM2 hb' hc' hd' he'
    rw [hs]
    unfold n5 at *
    omega
end Go.Proofs.YtgeepceieckooaaGreatDoor
end
