/-
  Part 14 of a proof: PoF AeA AeB CkFull KyB.
  Conditions: each theorem states its own.
-/
import Derived.Test.YtaofgcahmfailaaGreatDoorCjGPM13
set_option maxRecDepth 100000
set_option linter.unusedVariables false
set_option linter.unusedSimpArgs false
section
namespace Go.Proofs.YtaofgcahmfailaaGreatDoor
open Go Go.Ck
set_option maxHeartbeats 4000000
theorem bs_pre {h : View} {ad : Option Addr} {cap : Nat} {l : List Int} (s : Bs8 h (.slice ad l.length cap) l) {j : Nat} (hj : j ≤ l.length) : Bs8 h (.slice ad j cap) (l.take j) := by
  obtain ⟨h1, ad', cap', h2, h3, h4⟩ := s
  cases h2
  have hl : (l.take j).length = j := by simp; omega
  unfold Bs8
  rw [hl]
  refine ⟨by rw [bcs_len, hl, Nat.mul_one], ad, cap, rfl, by omega, ?_⟩
  rcases h4 with h4 | ⟨b, o, cs, e, fz, e1, e2, e3⟩
  · left
    have : l = [] := by cases l with | nil => rfl | cons a t => simp [bcs] at h4
    subst this
    simp [bcs]
  · right
    refine ⟨b, o, cs, e, fz, e1, e2, fun k u hk => e3 k u ?_⟩
    unfold bcs at hk ⊢
    rw [List.map_take, List.getElem?_take] at hk
    split at hk
    · exact hk
    · cases hk
def tagR (key : List Int) : List W64 := loadF (lo64 (key.take 8) &&& 1152921487695413247#64) (lo64 ((key.drop 8).take 8) &&& 1152921487695413244#64) 0#64
def tagH (r : List W64) (b : List Int) : Nat → List W64
  | 0 => [0, 0, 0, 0, 0]
  | k + 1 => timesF (plusF (tagH r b k) (partF ((b.drop (16 * k)).take 16))) r
theorem tagH_len (r : List W64) (b : List Int) : ∀ k, (tagH r b k).length = 5
  | 0 => rfl
  | k + 1 => timesF_len _ _
def tagE (s0 s1 : W64) (y : List W64) : List Int :=
  let sum := wlo y + s0
  let hi := if sum.toNat < (wlo y).toNat then whi y + 1 else whi y
  putLow 8 (sum.toNat : Int) ++ putLow 8 ((hi + s1).toNat : Int)
def tagF (key b : List Int) : List Int := tagE (lo64 ((key.drop 16).take 8)) (lo64 ((key.drop 24).take 8)) (leastF (tagH (tagR key) b ((b.length + 15) / 16)))
theorem tagE_len (s0 s1 : W64) (y : List W64) : (tagE s0 s1 y).length = 16 := by simp [tagE, putLow_len]
theorem tagF_len (key b : List Int) : (tagF key b).length = 16 := tagE_len _ _ _
theorem pLow_by (m : Nat) (x : Int) : Bytes (putLow m x) := fun y hy => putLow_bytes' m x y (List.mem_reverse.2 hy)
theorem tagE_by (s0 s1 : W64) (y : List W64) : Bytes (tagE s0 s1 y) := cbytes_app (pLow_by _ _) (pLow_by _ _)
theorem tagF_by (key b : List Int) : Bytes (tagF key b) := tagE_by _ _ _
theorem Tag_sp (v : Value) (key b : List Int) (hk : Bytes key) (hk32 : key.length = 32) (hb : Bytes b) (hl : b.length ≤ 900000) (h : View) (hv : Bs8 h v b) (w : World) (s : St ⟨w, h, []⟩ h [] w) :
    Calls Tryz.prog 94 [.agg (bcs key).toArray, v].toArray w fun e w' => e = .returned (.agg (bcs (tagF key b)).toArray) ∧ St ⟨w, h, []⟩ h [] w' := by
  obtain ⟨_, ad, cap, rfl, hcap, _⟩ := id hv
  have hol : (bcs key).length = 32 := by rw [bcs_len, hk32]
  have t0 : (key.take 8).length = 8 := by simp; omega
  have t8 : ((key.drop 8).take 8).length = 8 := by simp; omega
  have t16 : ((key.drop 16).take 8).length = 8 := by simp; omega
  have t24 : ((key.drop 24).take 8).length = 8 := by simp; omega
  refine calls_enter Tryz.func94 rfl Tryz.ntmps94 rfl s ?_
  repeat' (first|(refine ycf ?_;apply ybk;(·first|(exact tk_));(·rfl);(·rfl))|(refine ybg 0 rfl rfl rfl (by show (bcs key).toArray.size = 32;simpa using hol) (by show 0 + (bcs key).toArray.size ≤ _;rw [List.size_toArray, hol];exact nble rfl) (List.all_eq_true.2 (bcs_one key)) (ybh (by show (bcs key).length = _;rw [hol];rfl)) rfl rfl ?_ ?_ ?_;(·(exact to_));(·(exact to_)))|refine t1_ ?_|(refine ta_ ?_;intro _)|((fail_if_success (refine ybi rfl ?_));refine ybj rfl ?_ ?_<;>(intro ht;rw [ht];first|replace ht := oet_ ht|replace ht := oef_ ht|skip))|(refine ych ?_;first|(refine ybw rfl ?_ ?_<;>intro ht)|(refine ybx rfl ?_ ?_<;>intro ht)))
  rename_i bk bo
  refine rx_bview 1 rfl rfl fun h2 hle2 hK => ?_
  have hK : h2 bk = some (.cells (bcs key).toArray 25 (0, 0)) := hK
  have H0 := Low64_sp _ _ (bytes_take hk 8) t0 h2 (bs_blk (o := 0) (m := 8) (c := 32) hK (i := 0) (j := 8) (by omega) (by omega) rfl rfl (by omega))
  have H8 := Low64_sp _ _ (bytes_take (bytes_drop hk 8) 8) t8 h2 (bs_blk (o := 0 + 8 * 1) (m := 16 - 8) (c := 32 - 8) hK (i := 8) (j := 16) (by omega) (by omega) rfl rfl (by omega))
  have H16 := Low64_sp _ _ (bytes_take (bytes_drop hk 16) 8) t16 h2 (bs_blk (o := 0 + 16 * 1) (m := 24 - 16) (c := 32 - 16) hK (i := 16) (j := 24) (by omega) (by omega) rfl rfl (by omega))
  have H24 := Low64_sp _ _ (bytes_take (bytes_drop hk 24) 8) t24 h2 (bs_blk (o := 0 + 24 * 1) (m := 32 - 24) (c := 32 - 24) hK (i := 24) (j := 32) (by omega) (by omega) rfl rfl (by omega))
  have R1 := load_sp (lo64 (key.take 8) &&& 1152921487695413247#64) (lo64 ((key.drop 8).take 8) &&& 1152921487695413244#64) 0#64 h2
  have eR : tagR key = loadF (lo64 (key.take 8) &&& 1152921487695413247#64) (lo64 ((key.drop 8).take 8) &&& 1152921487695413244#64) 0#64 := rfl
  unfold tagF
  rw [← eR] at R1
  have lr : (tagR key).length = 5 := rfl
  generalize tagR key = r at R1 lr ⊢
  clear eR
  generalize lo64 (key.take 8) = k0 at H0 R1
  generalize lo64 ((key.drop 8).take 8) = k1 at H8 R1
  generalize lo64 ((key.drop 16).take 8) = s0 at H16 ⊢
  generalize lo64 ((key.drop 24).take 8) = s1 at H24 ⊢
  repeat' (first|(refine ycf ?_;apply ybk;(·first|(first|exact tk_|exact (qv_slice_arr_to (j := 8) rfl rfl (by omega))|(refine qv_slice_arr_ij 8 16 rfl rfl rfl rfl rfl (by omega) (by omega) (by omega))));(·rfl);(·rfl))|refine t1_ ?_|(refine ta_ ?_;intro _)|((fail_if_success (refine ybi rfl ?_));refine ybj rfl ?_ ?_<;>(intro ht;rw [ht];first|replace ht := oet_ ht|replace ht := oef_ ht|skip))|(refine ych ?_;first|(refine ybw rfl ?_ ?_<;>intro ht)|(refine ybx rfl ?_ ?_<;>intro ht)))
  (refine ycn (ycp Tryz.func104 rfl (by kernel_rfl) rfl) (H0) rfl rfl rfl ?_ ?_; (· (exact to_)))
  repeat' (first|(refine ycf ?_;apply ybk;(·first|(first|exact tk_|exact (qv_slice_arr_to (j := 8) rfl rfl (by omega))|(refine qv_slice_arr_ij 8 16 rfl rfl rfl rfl rfl (by omega) (by omega) (by omega))));(·rfl);(·rfl))|refine t1_ ?_|(refine ta_ ?_;intro _)|((fail_if_success (refine ybi rfl ?_));refine ybj rfl ?_ ?_<;>(intro ht;rw [ht];first|replace ht := oet_ ht|replace ht := oef_ ht|skip))|(refine ych ?_;first|(refine ybw rfl ?_ ?_<;>intro ht)|(refine ybx rfl ?_ ?_<;>intro ht)))
  (refine ycn (ycp Tryz.func104 rfl (by kernel_rfl) rfl) (H8) rfl rfl rfl ?_ ?_; (· (exact to_)))
  repeat' (first|(refine ycf ?_;apply ybk;(·first|(first|exact tk_|(refine qv_andw (a := k0) (b := 1152921487695413247#64) rfl rfl rfl rfl)|(refine qv_andw (a := k1) (b := 1152921487695413244#64) rfl rfl rfl rfl)));(·rfl);(·rfl))|refine t1_ ?_|(refine ta_ ?_;intro _)|((fail_if_success (refine ybi rfl ?_));refine ybj rfl ?_ ?_<;>(intro ht;rw [ht];first|replace ht := oet_ ht|replace ht := oef_ ht|skip))|(refine ych ?_;first|(refine ybw rfl ?_ ?_<;>intro ht)|(refine ybx rfl ?_ ?_<;>intro ht)))
  (refine ycn (ycp Tryz.func105 rfl (by kernel_rfl) rfl) (R1) rfl rfl rfl ?_ ?_; (· (exact to_)))
  repeat' (first|(refine ycf ?_;apply ybk;(·first|(exact tk_));(·rfl);(·rfl))|(refine ybg 0 rfl rfl rfl (w_sz8 lr) (w_fit8 lr (by rfl)) (w_one8 r) (ybh (w_all8 lr (by rfl))) rfl rfl ?_ ?_ ?_;(·(exact to_));(·(exact to_)))|refine t1_ ?_|(refine ta_ ?_;intro _)|((fail_if_success (refine ybi rfl ?_));refine ybj rfl ?_ ?_<;>(intro ht;rw [ht];first|replace ht := oet_ ht|replace ht := oef_ ht|skip))|(refine ych ?_;first|(refine ybw rfl ?_ ?_<;>intro ht)|(refine ybx rfl ?_ ?_<;>intro ht)))
  rename_i br bh
  have hv2 := hv.mono hle2
  obtain ⟨m, hm⟩ : ∃ m, m = (b.length + 15) / 16 := ⟨_, rfl⟩
  rw [← hm]
  refine cx_loop (X := Nat × Value) (fun y => [(1, y.2), (2, .pointer (some ⟨bk, 0, none⟩)), (4, .pointer (some ⟨bo, 0, none⟩)), (9, .pointer (some ⟨br, 0, none⟩)), (10, .pointer (some ⟨bh, 0, none⟩))]) (fun _ => h2)
    (fun y => [Res.blk bh (.cells (up64 (tagH r b y.1)).toArray 197 (0, 0)), Res.blk br (.cells (up64 r).toArray 197 (0, 0)), Res.blk bo (.cells (bcs (List.replicate 16 0)).toArray 167 (0, 0))]) (fun y => y.1 ≤ m ∧ Bs8 h2 y.2 (b.drop (16 * y.1))) (fun y => m - y.1) (0, .slice ad b.length cap) ⟨Nat.zero_le _, hv2⟩ ts_ (fun _ s => s) ?_
  rintro ⟨k, vb⟩ ⟨hkm, hvb⟩
  dsimp only at hkm hvb ⊢
  have hdl : (b.drop (16 * k)).length = b.length - 16 * k := by simp
  have hhl := tagH_len r b k
  by_cases hklt : k < m
  · have ek : tagH r b (k + 1) = timesF (plusF (tagH r b k) (partF ((b.drop (16 * k)).take 16))) r := rfl
    have ed : b.drop (16 * (k + 1)) = (b.drop (16 * k)).drop (min (b.drop (16 * k)).length 16) := by
      rw [List.drop_drop]
      by_cases h16 : 16 ≤ (b.drop (16 * k)).length
      · rw [Nat.min_eq_right h16]; rfl
      · rw [List.drop_of_length_le (by omega), List.drop_of_length_le (by omega)]
    have hdb : Bytes (b.drop (16 * k)) := bytes_drop hb _
    generalize b.drop (16 * k) = c at hdl hdb hvb ek ed ⊢
    generalize tagH r b k = H at hhl ek ⊢
    obtain ⟨_, ac, capc, rfl, hcapc, _⟩ := id hvb
    obtain ⟨q, hq⟩ : ∃ q, q = min c.length 16 := ⟨_, rfl⟩
    have hmin : (if (16 : Int) < (c.length : Int) then (16 : Int) else (c.length : Int)) = (q : Int) := by split<;>omega
    have V1 := bs_pre hvb (j := q) (by omega)
    have V2 := bs_mid hvb (i := q) (j := c.length) (by omega) (Nat.le_refl _)
    rw [List.take_of_length_le (by simp)] at V2
    rw [← hq] at ed
    have eq16 : c.take 16 = c.take q := by
      by_cases h16 : 16 ≤ c.length
      · rw [show q = 16 by omega]
      · rw [List.take_of_length_le (by omega), List.take_of_length_le (by omega)]
    have ql : (c.take q).length = q := by simp; omega
    rw [eq16] at ek
    have P1 := part_sp _ (c.take q) (bytes_take hdb q) (by rw [ql]; omega) h2 V1
    have pl : (partF (c.take q)).length = 5 := rfl
    have P2 := plus_sp H (partF (c.take q)) hhl pl h2
    have pl2 : (plusF H (partF (c.take q))).length = 5 := by rw [plusF_len, hhl]
    have P3 := times_sp (plusF H (partF (c.take q))) r pl2 lr h2
    have pl3 : (timesF (plusF H (partF (c.take q))) r).length = 5 := timesF_len _ _
    rw [← ek] at P3 pl3
    generalize hH' : tagH r b (k + 1) = H' at P3 pl3
    generalize partF (c.take q) = pt at P1 P2 P3 pl
    generalize plusF H pt = sm at P2 P3 pl2
    repeat' (first|(refine ycf ?_;apply ybk;(·first|(first|exact tk_|(refine qv_minb rfl rfl hmin)|(refine qv_slice_to rfl rfl (by omega) (by omega))|(apply yad;(·rfl);(·exact yaz 0 rfl);(·rw [← hhl];exact up64_len H))|(apply yad;(·rfl);(·exact yaz 1 rfl);(·rw [← lr];exact up64_len r))));(·rfl);(·rfl))|refine t1_ ?_|(refine ta_ ?_;intro _)|((fail_if_success (refine ybi rfl ?_));refine ybj rfl ?_ ?_<;>(intro ht;rw [ht];first|replace ht := oet_ ht|replace ht := oef_ ht|skip))|(refine ych ?_;first|(refine ybw rfl ?_ ?_<;>intro ht)|(refine ybx rfl ?_ ?_<;>intro ht)))
    refine cx_region_draw' rfl (by kernel_rfl) ?_
    repeat' (refine ycf ?_;(first|(first|(apply ybm;(·(first|(first|exact tk_|(refine qv_minb rfl rfl hmin)|(refine qv_slice_to rfl rfl (by omega) (by omega))|(apply yad;(·rfl);(·exact yaz 0 rfl);(·rw [← hhl];exact up64_len H))|(apply yad;(·rfl);(·exact yaz 1 rfl);(·rw [← lr];exact up64_len r)))|exact tq_));(·rfl);(·rfl);(·(exact th_)))|refine ybl rfl rfl ?_|((fail_if_success (refine ybi rfl ?_));refine ybj rfl ?_ ?_<;>(intro ht;rw [ht];first|replace ht := oet_ ht|replace ht := oef_ ht|skip))|(refine tb_ ?_ ?_ ?_;(·(exact to_));(·intro _;(exact to_));intro _)|(first|(refine tqs_ ?_ ?_ ?_;(·(exact to_));(·(exact to_))))|(apply ybn;(·(first|(first|exact tk_|(refine qv_minb rfl rfl hmin)|(refine qv_slice_to rfl rfl (by omega) (by omega))|(apply yad;(·rfl);(·exact yaz 0 rfl);(·rw [← hhl];exact up64_len H))|(apply yad;(·rfl);(·exact yaz 1 rfl);(·rw [← lr];exact up64_len r)))|exact tq_));(·rfl);(·rfl);(·rfl);(·(exact to_))))|refine ycg ?_))
    (refine ycn (ycp Tryz.func107 rfl (by kernel_rfl) rfl) (P1) rfl rfl rfl ?_ ?_; (· (exact to_)))
    repeat' (refine ycf ?_;(first|(first|(apply ybm;(·(first|(first|exact tk_|(refine qv_minb rfl rfl hmin)|(refine qv_slice_to rfl rfl (by omega) (by omega))|(apply yad;(·rfl);(·exact yaz 0 rfl);(·rw [← hhl];exact up64_len H))|(apply yad;(·rfl);(·exact yaz 1 rfl);(·rw [← lr];exact up64_len r)))|exact tq_));(·rfl);(·rfl);(·(exact th_)))|refine ybl rfl rfl ?_|((fail_if_success (refine ybi rfl ?_));refine ybj rfl ?_ ?_<;>(intro ht;rw [ht];first|replace ht := oet_ ht|replace ht := oef_ ht|skip))|(refine tb_ ?_ ?_ ?_;(·(exact to_));(·intro _;(exact to_));intro _)|(first|(refine tqs_ ?_ ?_ ?_;(·(exact to_));(·(exact to_))))|(apply ybn;(·(first|(first|exact tk_|(refine qv_minb rfl rfl hmin)|(refine qv_slice_to rfl rfl (by omega) (by omega))|(apply yad;(·rfl);(·exact yaz 0 rfl);(·rw [← hhl];exact up64_len H))|(apply yad;(·rfl);(·exact yaz 1 rfl);(·rw [← lr];exact up64_len r)))|exact tq_));(·rfl);(·rfl);(·rfl);(·(exact to_))))|refine ycg ?_))
    (refine ycn (ycp Tryz.func106 rfl (by kernel_rfl) rfl) (P2) rfl rfl rfl ?_ ?_; (· (exact to_)))
    repeat' (refine ycf ?_;(first|(first|(apply ybm;(·(first|(first|exact tk_|(refine qv_minb rfl rfl hmin)|(refine qv_slice_to rfl rfl (by omega) (by omega))|(apply yad;(·rfl);(·exact yaz 0 rfl);(·rw [← hhl];exact up64_len H))|(apply yad;(·rfl);(·exact yaz 1 rfl);(·rw [← lr];exact up64_len r)))|exact tq_));(·rfl);(·rfl);(·(exact th_)))|refine ybl rfl rfl ?_|((fail_if_success (refine ybi rfl ?_));refine ybj rfl ?_ ?_<;>(intro ht;rw [ht];first|replace ht := oet_ ht|replace ht := oef_ ht|skip))|(refine tb_ ?_ ?_ ?_;(·(exact to_));(·intro _;(exact to_));intro _)|(first|(refine tqs_ ?_ ?_ ?_;(·(exact to_));(·(exact to_))))|(apply ybn;(·(first|(first|exact tk_|(refine qv_minb rfl rfl hmin)|(refine qv_slice_to rfl rfl (by omega) (by omega))|(apply yad;(·rfl);(·exact yaz 0 rfl);(·rw [← hhl];exact up64_len H))|(apply yad;(·rfl);(·exact yaz 1 rfl);(·rw [← lr];exact up64_len r)))|exact tq_));(·rfl);(·rfl);(·rfl);(·(exact to_))))|refine ycg ?_))
    (refine ycn (ycp Tryz.func108 rfl (by kernel_rfl) rfl) (P3) rfl rfl rfl ?_ ?_; (· (exact to_)))
    have hcs : (up64 H).toArray.size = 5 := by rw [List.size_toArray, up64_len, hhl]
    have hcl : (up64 H).toArray.toList.length = 5 := by rw [Array.length_toList, hcs]
    refine ybg 0 rfl rfl rfl (w_sz8 pl3) (w_fit8 pl3 hcs) (w_one8 H') (ybh (w_all8 pl3 hcl)) rfl rfl (.inl fun _ s => s) (.inr (by kernel_rfl)) ?_
    repeat' (refine ycf ?_;(first|(first|(apply ybm;(·(first|(first|exact tk_|(refine qv_minb rfl rfl hmin)|(refine qv_slice_to rfl rfl (by omega) (by omega))|(apply yad;(·rfl);(·exact yaz 0 rfl);(·rw [← hhl];exact up64_len H))|(apply yad;(·rfl);(·exact yaz 1 rfl);(·rw [← lr];exact up64_len r)))|exact tq_));(·rfl);(·rfl);(·(exact th_)))|refine ybl rfl rfl ?_|((fail_if_success (refine ybi rfl ?_));refine ybj rfl ?_ ?_<;>(intro ht;rw [ht];first|replace ht := oet_ ht|replace ht := oef_ ht|skip))|(refine tb_ ?_ ?_ ?_;(·(exact to_));(·intro _;(exact to_));intro _)|(first|(refine tqs_ ?_ ?_ ?_;(·(exact to_));(·(exact to_))))|(apply ybn;(·(first|(first|exact tk_|(refine qv_minb rfl rfl hmin)|(refine qv_slice_to rfl rfl (by omega) (by omega))|(apply yad;(·rfl);(·exact yaz 0 rfl);(·rw [← hhl];exact up64_len H))|(apply yad;(·rfl);(·exact yaz 1 rfl);(·rw [← lr];exact up64_len r)))|exact tq_));(·rfl);(·rfl);(·rfl);(·(exact to_))))|refine ycg ?_))
    repeat' (first|(refine ycf ?_;apply ybk;(·first|(first|exact tk_|(refine qv_slice_from (i := q) rfl rfl (by omega))));(·rfl);(·rfl))|refine t1_ ?_|(refine ta_ ?_;intro _)|((fail_if_success (refine ybi rfl ?_));refine ybj rfl ?_ ?_<;>(intro ht;rw [ht];first|replace ht := oet_ ht|replace ht := oef_ ht|skip))|(refine ych ?_;first|(refine ybw rfl ?_ ?_<;>intro ht)|(refine ybx rfl ?_ ?_<;>intro ht)))
    refine nx_round (k + 1, _) ⟨by show k + 1 ≤ m; omega, by show Bs8 h2 _ (b.drop (16 * (k + 1))); rw [ed]; exact V2⟩ (by show m - (k + 1) < m - k; omega) ts_ (fun _ s => by dsimp only; rw [hH']; exact s)
  · have ekm : k = m := by omega
    subst ekm
    have L1 := least_sp (tagH r b k) hhl h2
    have ll := leastF_len (tagH r b k)
    have W1 := words_sp (leastF (tagH r b k)) (by omega) h2
    obtain ⟨_, ac, capc, rfl, hcapc, _⟩ := id hvb
    have eT : tagE s0 s1 (leastF (tagH r b k)) = putLow 8 ((wlo (leastF (tagH r b k)) + s0).toNat : Int) ++ putLow 8 (((if (wlo (leastF (tagH r b k)) + s0).toNat < (wlo (leastF (tagH r b k))).toNat then whi (leastF (tagH r b k)) + 1 else whi (leastF (tagH r b k))) + s1).toNat : Int) := rfl
    rw [eT]
    clear eT
    have ly : (leastF (tagH r b k)).length = 5 := by omega
    generalize leastF (tagH r b k) = y at L1 W1 ly ⊢
    generalize wlo y = lo at W1 ⊢
    generalize whi y = hi at W1 ⊢
    repeat' (first|(refine ycf ?_;apply ybk;(·first|(first|exact tk_|(apply yad;(·rfl);(·exact yaz 0 rfl);(·rw [← hhl];exact up64_len _))));(·rfl);(·rfl))|refine t1_ ?_|(refine ta_ ?_;intro _)|((fail_if_success (refine ybi rfl ?_));refine ybj rfl ?_ ?_<;>(intro ht;rw [ht];first|replace ht := oet_ ht|replace ht := oef_ ht|skip))|(refine ych ?_;first|(refine ybw rfl ?_ ?_<;>intro ht)|(refine ybx rfl ?_ ?_<;>intro ht)))
    (refine ycn (ycp Tryz.func109 rfl (by kernel_rfl) rfl) (L1) rfl rfl rfl ?_ ?_; (· (exact to_)))
    repeat' (first|(refine ycf ?_;apply ybk;(·first|(first|exact tk_|(apply yad;(·rfl);(·exact yaz 0 rfl);(·rw [← hhl];exact up64_len _))));(·rfl);(·rfl))|refine t1_ ?_|(refine ta_ ?_;intro _)|((fail_if_success (refine ybi rfl ?_));refine ybj rfl ?_ ?_<;>(intro ht;rw [ht];first|replace ht := oet_ ht|replace ht := oef_ ht|skip))|(refine ych ?_;first|(refine ybw rfl ?_ ?_<;>intro ht)|(refine ybx rfl ?_ ?_<;>intro ht)))
    (refine ycn (ycp Tryz.func110 rfl (by kernel_rfl) rfl) (W1) rfl rfl rfl ?_ ?_; (· (exact to_)))
    repeat' (first|(refine ycf ?_;apply ybk;(·first|(first|exact tk_|(refine qv_slice_arr_ij 16 24 rfl rfl rfl rfl rfl (by omega) (by omega) (by omega))));(·rfl);(·rfl))|refine t1_ ?_|(refine ta_ ?_;intro _)|((fail_if_success (refine ybi rfl ?_));refine ybj rfl ?_ ?_<;>(intro ht;rw [ht];first|replace ht := oet_ ht|replace ht := oef_ ht|skip))|(refine ych ?_;first|(refine ybw rfl ?_ ?_<;>intro ht)|(refine ybx rfl ?_ ?_<;>intro ht)))
    (refine ycn (ycp Tryz.func104 rfl (by kernel_rfl) rfl) (H16) rfl rfl rfl ?_ ?_; (· (exact to_)))
    repeat' (first|(refine ycf ?_;apply ybk;(·first|(first|exact tk_|exact (qv_slice_arr_from (i := 24) rfl rfl (by omega))));(·rfl);(·rfl))|refine t1_ ?_|(refine ta_ ?_;intro _)|((fail_if_success (refine ybi rfl ?_));refine ybj rfl ?_ ?_<;>(intro ht;rw [ht];first|replace ht := oet_ ht|replace ht := oef_ ht|skip))|(refine ych ?_;first|(refine ybw rfl ?_ ?_<;>intro ht)|(refine ybx rfl ?_ ?_<;>intro ht)))
    (refine ycn (ycp Tryz.func104 rfl (by kernel_rfl) rfl) (H24) rfl rfl rfl ?_ ?_; (· (exact to_)))
    repeat' (first|(refine ycf ?_;apply ybk;(·first|(first|exact tk_|(apply qv_addw<;>rfl)));(·rfl);(·rfl))|refine t1_ ?_|(refine ta_ ?_;intro _)|((fail_if_success (refine ybi rfl ?_));refine ybj rfl ?_ ?_<;>(intro ht;rw [ht];first|replace ht := oet_ ht|replace ht := oef_ ht|skip))|(refine ych ?_;first|(refine ybw rfl ?_ ?_<;>intro ht)|(refine ybx rfl ?_ ?_<;>intro ht)))
    · rw [if_pos (by omega)]
      repeat' (first|(refine ycf ?_;apply ybk;(·first|(first|exact tk_|(refine qv_addw (a := hi) (b := 1#64) rfl rfl rfl rfl)));(·rfl);(·rfl))|refine t1_ ?_|(refine ta_ ?_;intro _)|((fail_if_success (refine ybi rfl ?_));refine ybj rfl ?_ ?_<;>(intro ht;rw [ht];first|replace ht := oet_ ht|replace ht := oef_ ht|skip))|(refine ych ?_;first|(refine ybw rfl ?_ ?_<;>intro ht)|(refine ybx rfl ?_ ?_<;>intro ht)))
      generalize hi + 1 = hz
      (refine yco (ycp Tryz.func89 rfl (by kernel_rfl) rfl) (PutLow_sp ((lo + s0).toNat : Int) 8 ⟨by omega, by have := (lo + s0).isLt; omega⟩ (by omega) h2) rfl rfl rfl ?_ ?_ ?_; (· (exact to_)); (· intro _ _ hle; (exact to_)); intro x px hle)
      have p8 := putLow_len 8 ((lo + s0).toNat : Int)
      have q8 := putLow_len 8 ((hz + s1).toNat : Int)
      refine rx_rowform 0 rfl (fun _ h1 _ => (by omega)) ?_
      rintro g1 cap1 rfl
      clear px hle
      repeat' (first|(refine ycf ?_;apply ybk;(·first|(first|exact tk_|(apply qv_addw<;>rfl)));(·rfl);(·rfl))|refine t1_ ?_|(refine ta_ ?_;intro _)|((fail_if_success (refine ybi rfl ?_));refine ybj rfl ?_ ?_<;>(intro ht;rw [ht];first|replace ht := oet_ ht|replace ht := oef_ ht|skip))|(refine ych ?_;first|(refine ybw rfl ?_ ?_<;>intro ht)|(refine ybx rfl ?_ ?_<;>intro ht)))
      (refine yco (ycp Tryz.func89 rfl (by kernel_rfl) rfl) (PutLow_sp ((hz + s1).toNat : Int) 8 ⟨by omega, by have := (hz + s1).isLt; omega⟩ (by omega) h2) rfl rfl rfl ?_ ?_ ?_; (· (exact to_)); (· intro _ _ hle; (exact to_)); intro x px hle)
      refine rx_rowform 0 rfl (fun _ h1 _ => (by omega)) ?_
      rintro g2 cap2 rfl
      refine rx_append (sz := 1) 1 rfl rfl rfl (row_cells 0 rfl) (by rw [bcs_len, Nat.mul_one]) (bcs_one _) rfl (by omega) (by unfold maxLen; omega) (by omega) rfl rfl rfl ybf (fun _ => ybf) ?_
      intro v5 _
      rw [← bcs_app]
      have hol2 : (bcs (putLow 8 ((lo + s0).toNat : Int) ++ putLow 8 ((hz + s1).toNat : Int))).length = 16 := by rw [bcs_len, List.length_append, p8, q8]
      generalize putLow 8 ((lo + s0).toNat : Int) ++ putLow 8 ((hz + s1).toNat : Int) = out at hol2 ⊢
      rw [p8, q8]
      repeat' (first|(refine ycf ?_;apply ybk;(·first|exact tk_);(·rfl);(·rfl))|refine t1_ ?_|(refine ta_ ?_;intro _)|((fail_if_success (refine ybi rfl ?_));refine ybj rfl ?_ ?_<;>(intro ht;rw [ht];first|replace ht := oet_ ht|replace ht := oef_ ht|skip))|(refine ych ?_;first|(refine ybw rfl ?_ ?_<;>intro ht)|(refine ybx rfl ?_ ?_<;>intro ht)))
      refine rx_picks [1, 3] ?_
      refine rx_rowform 0 rfl (fun _ h1 _ => (by omega)) ?_
      rintro g3 cap3 rfl
      repeat' (first|(refine ycf ?_;apply ybk;(·first|(first|(refine qv_arrptr rfl (by omega))|(apply yad;(·rfl);(·exact row_cells 0 rfl);(·exact hol2))));(·rfl);(·rfl))|(refine ybg 1 rfl rfl rfl (by show (bcs out).toArray.size = 16;simpa using hol2) (by show 0 + (bcs out).toArray.size ≤ _;rw [List.size_toArray, hol2];exact nble rfl) (List.all_eq_true.2 (bcs_one out)) (ybh (by show (bcs out).length = _;rw [hol2];rfl)) rfl rfl ?_ ?_ ?_;(·(exact to_));(·(exact to_)))|refine t1_ ?_|(refine ta_ ?_;intro _)|((fail_if_success (refine ybi rfl ?_));refine ybj rfl ?_ ?_<;>(intro ht;rw [ht];first|replace ht := oet_ ht|replace ht := oef_ ht|skip))|(refine ych ?_;first|(refine ybw rfl ?_ ?_<;>intro ht)|(refine ybx rfl ?_ ?_<;>intro ht)))
      exact nx_ret1 rfl (rv_cells rfl (yaz 1 rfl) (by show (bcs out).toArray.toList.length = 16; simpa using hol2)) (fun w' s' => ⟨rfl, s'.nil.base⟩)
    · rw [if_neg (by omega)]
      generalize hi = hz
      (refine yco (ycp Tryz.func89 rfl (by kernel_rfl) rfl) (PutLow_sp ((lo + s0).toNat : Int) 8 ⟨by omega, by have := (lo + s0).isLt; omega⟩ (by omega) h2) rfl rfl rfl ?_ ?_ ?_; (· (exact to_)); (· intro _ _ hle; (exact to_)); intro x px hle)
      have p8 := putLow_len 8 ((lo + s0).toNat : Int)
      have q8 := putLow_len 8 ((hz + s1).toNat : Int)
      refine rx_rowform 0 rfl (fun _ h1 _ => (by omega)) ?_
      rintro g1 cap1 rfl
      clear px hle
      repeat' (first|(refine ycf ?_;apply ybk;(·first|(first|exact tk_|(apply qv_addw<;>rfl)));(·rfl);(·rfl))|(refine ybg 1 rfl rfl rfl (by show (bcs out).toArray.size = 16;simpa using hol2) (by show 0 + (bcs out).toArray.size ≤ _;rw [List.size_toArray, hol2];exact nble rfl) (List.all_eq_true.2 (bcs_one out)) (ybh (by show (bcs out).length = _;rw [hol2];rfl)) rfl rfl ?_ ?_ ?_;(·(exact to_));(·(exact to_)))|refine t1_ ?_|(refine ta_ ?_;intro _)|((fail_if_success (refine ybi rfl ?_));refine ybj rfl ?_ ?_<;>(intro ht;rw [ht];first|replace ht := oet_ ht|replace ht := oef_ ht|skip))|(refine ych ?_;first|(refine ybw rfl ?_ ?_<;>intro ht)|(refine ybx rfl ?_ ?_<;>intro ht)))
      (refine yco (ycp Tryz.func89 rfl (by kernel_rfl) rfl) (PutLow_sp ((hz + s1).toNat : Int) 8 ⟨by omega, by have := (hz + s1).isLt; omega⟩ (by omega) h2) rfl rfl rfl ?_ ?_ ?_; (· (exact to_)); (· intro _ _ hle; (exact to_)); intro x px hle)
      refine rx_rowform 0 rfl (fun _ h1 _ => (by omega)) ?_
      rintro g2 cap2 rfl
      refine rx_append (sz := 1) 1 rfl rfl rfl (row_cells 0 rfl) (by rw [bcs_len, Nat.mul_one]) (bcs_one _) rfl (by omega) (by unfold maxLen; omega) (by omega) rfl rfl rfl ybf (fun _ => ybf) ?_
      intro v5 _
      rw [← bcs_app]
      have hol2 : (bcs (putLow 8 ((lo + s0).toNat : Int) ++ putLow 8 ((hz + s1).toNat : Int))).length = 16 := by rw [bcs_len, List.length_append, p8, q8]
      generalize putLow 8 ((lo + s0).toNat : Int) ++ putLow 8 ((hz + s1).toNat : Int) = out at hol2 ⊢
      rw [p8, q8]
      repeat' (first|(refine ycf ?_;apply ybk;(·first|exact tk_);(·rfl);(·rfl))|(refine ybg 1 rfl rfl rfl (by show (bcs out).toArray.size = 16;simpa using hol2) (by show 0 + (bcs out).toArray.size ≤ _;rw [List.size_toArray, hol2];exact nble rfl) (List.all_eq_true.2 (bcs_one out)) (ybh (by show (bcs out).length = _;rw [hol2];rfl)) rfl rfl ?_ ?_ ?_;(·(exact to_));(·(exact to_)))|refine t1_ ?_|(refine ta_ ?_;intro _)|((fail_if_success (refine ybi rfl ?_));refine ybj rfl ?_ ?_<;>(intro ht;rw [ht];first|replace ht := oet_ ht|replace ht := oef_ ht|skip))|(refine ych ?_;first|(refine ybw rfl ?_ ?_<;>intro ht)|(refine ybx rfl ?_ ?_<;>intro ht)))
      refine rx_picks [1, 3] ?_
      refine rx_rowform 0 rfl (fun _ h1 _ => (by omega)) ?_
      rintro g3 cap3 rfl
      repeat' (first|(refine ycf ?_;apply ybk;(·first|(first|(refine qv_arrptr rfl (by omega))|(apply yad;(·rfl);(·exact row_cells 0 rfl);(·exact hol2))));(·rfl);(·rfl))|(refine ybg 1 rfl rfl rfl (by show (bcs out).toArray.size = 16;simpa using hol2) (by show 0 + (bcs out).toArray.size ≤ _;rw [List.size_toArray, hol2];exact nble rfl) (List.all_eq_true.2 (bcs_one out)) (ybh (by show (bcs out).length = _;rw [hol2];rfl)) rfl rfl ?_ ?_ ?_;(·(exact to_));(·(exact to_)))|refine t1_ ?_|(refine ta_ ?_;intro _)|((fail_if_success (refine ybi rfl ?_));refine ybj rfl ?_ ?_<;>(intro ht;rw [ht];first|replace ht := oet_ ht|replace ht := oef_ ht|skip))|(refine ych ?_;first|(refine ybw rfl ?_ ?_<;>intro ht)|(refine ybx rfl ?_ ?_<;>intro ht)))
      exact nx_ret1 rfl (rv_cells rfl (yaz 1 rfl) (by show (bcs out).toArray.toList.length = 16; simpa using hol2)) (fun w' s' => ⟨rfl, s'.nil.base⟩)
end Go.Proofs.YtaofgcahmfailaaGreatDoor
end

section
namespace Go.Proofs.YtaofgcahmfailaaGreatDoor
open Go Go.Ck
set_option maxHeartbeats 400000
def padQ (n : Nat) : Nat := (16 - n % 16) % 16
def padP (b : List Int) : List Int := b ++ List.replicate (padQ b.length) 0
theorem padQ_lt (n : Nat) : padQ n < 16 := Nat.mod_lt _ (by omega)
theorem padP_len (b : List Int) : (padP b).length = b.length + padQ b.length := by simp [padP]
theorem padP_by {b : List Int} (hb : Bytes b) : Bytes (padP b) := cbytes_app hb (zeros_by _)
theorem apadded_sp (v : Value) (b : List Int) (hl : b.length ≤ 400000) (h : View) (hv : Bs8 h v b) (w : World) (s : St ⟨w, h, []⟩ h [] w) :
    Calls Tryz.prog 93 [v].toArray w fun e w' => ∃ v, e = .returned v ∧ St ⟨w, h, []⟩ h [rowB v (padP b)] w' ∧ True := by
  obtain ⟨_, ad, cap, rfl, hcap, _⟩ := id hv
  refine calls_enter Tryz.func93 rfl Tryz.ntmps93 rfl s ?_
  repeat' (first|(refine ycf ?_;apply ybk;(·first|(exact tk_));(·rfl);(·rfl))|refine t1_ ?_|(refine ta_ ?_;intro _)|((fail_if_success (refine ybi rfl ?_));refine ybj rfl ?_ ?_<;>(intro ht;rw [ht];first|replace ht := oet_ ht|replace ht := oef_ ht|skip))|(refine ych ?_;first|(refine ybw rfl ?_ ?_<;>intro ht)|(refine ybx rfl ?_ ?_<;>intro ht)))
  refine yba ma_buildSlice0 rfl rfl rfl ybf (fun _ => ybf) ?_
  intro b0
  refine rx_rowOf 1 0 0 (by omega) (by unfold maxLen; omega) rfl ?_
  repeat' (first|(refine ycf ?_;apply ybk;(·first|(exact tk_));(·rfl);(·rfl))|refine t1_ ?_|(refine ta_ ?_;intro _)|((fail_if_success (refine ybi rfl ?_));refine ybj rfl ?_ ?_<;>(intro ht;rw [ht];first|replace ht := oet_ ht|replace ht := oef_ ht|skip))|(refine ych ?_;first|(refine ybw rfl ?_ ?_<;>intro ht)|(refine ybx rfl ?_ ?_<;>intro ht)))
  refine rx_append_sc (sz := 1) 0 rfl rfl rfl hv (bcs_one b) rfl (by omega) (by unfold maxLen; omega) (by omega) rfl rfl rfl ybf (fun _ => ybf) ?_
  intro v1 _
  repeat' (first|(refine ycf ?_;apply ybk;(·first|(exact tk_));(·rfl);(·rfl))|refine t1_ ?_|(refine ta_ ?_;intro _)|((fail_if_success (refine ybi rfl ?_));refine ybj rfl ?_ ?_<;>(intro ht;rw [ht];first|replace ht := oet_ ht|replace ht := oef_ ht|skip))|(refine ych ?_;first|(refine ybw rfl ?_ ?_<;>intro ht)|(refine ybx rfl ?_ ?_<;>intro ht)))
  refine cx_loop (X := Nat × Value) (fun y => [(3, y.2)]) (fun _ => h) (fun y => [rowB y.2 (b ++ List.replicate y.1 0)]) (fun y => y.1 ≤ padQ b.length) (fun y => padQ b.length - y.1) (0, v1) (Nat.zero_le _) ts_ (fun _ s => ?_) ?_
  · dsimp only
    unfold rowB
    simpa using s
  rintro ⟨k, v⟩ hk
  replace hk : k ≤ padQ b.length := hk
  dsimp only
  have hpz := padQ_lt b.length
  have hpm : (b.length + padQ b.length) % 16 = 0 := by unfold padQ; omega
  have hln : (b ++ List.replicate k (0 : Int)).length = b.length + k := by simp
  have hrem : (((b ++ List.replicate k (0 : Int)).length : Nat) : Int).tmod 16 = (((b.length + k) % 16 : Nat) : Int) := by rw [hln]; rfl
  refine cx_rowsl 0 rfl ?_
  rintro ad1 cap1 rfl
  by_cases hkz : k < padQ b.length
  · have hne : (b.length + k) % 16 ≠ 0 := by unfold padQ at hkz; omega
    repeat' (first|(refine ycf ?_;apply ybk;(·first|(first|(refine qv_remr rfl rfl (by decide) hrem)|exact tk_));(·rfl);(·rfl))|refine t1_ ?_|(refine ta_ ?_;intro _)|((fail_if_success (refine ybi rfl ?_));refine ybj rfl ?_ ?_<;>(intro ht;rw [ht];first|replace ht := oet_ ht|replace ht := oef_ ht|skip))|(refine ych ?_;first|(refine ybw rfl ?_ ?_<;>intro ht)|(refine ybx rfl ?_ ?_<;>intro ht)))
    refine rx_append (sz := 1) 1 rfl rfl rfl (yaz 0 rfl) rfl (bcs_one [0]) rfl (by omega) (by unfold maxLen; omega) (by omega) rfl rfl rfl ybf (fun _ => ybf) ?_
    intro v2 _
    repeat' (first|refine tw_ ?_|(refine ta_ ?_;intro _)|((fail_if_success (refine ybi rfl ?_));refine ybj rfl ?_ ?_<;>(intro ht;rw [ht];first|replace ht := oet_ ht|replace ht := oef_ ht|skip))|(refine ych ?_;first|(refine ybw rfl ?_ ?_<;>intro ht)|(refine ybx rfl ?_ ?_<;>intro ht)))
    refine nx_round (k + 1, v2) (by show k + 1 ≤ _; omega) (by show padQ b.length - (k + 1) < padQ b.length - k; omega) ts_ (fun _ s => ?_)
    dsimp only
    rw [List.replicate_succ', ← List.append_assoc]
    unfold rowB
    rw [List.length_append, bcs_app]
    exact s.tl
  · have ek : k = padQ b.length := by omega
    subst ek
    rw [hpm] at hrem
    repeat' (first|(refine ycf ?_;apply ybk;(·first|(first|(refine qv_remr rfl rfl (by decide) hrem)|exact tk_));(·rfl);(·rfl))|refine t1_ ?_|(refine ta_ ?_;intro _)|((fail_if_success (refine ybi rfl ?_));refine ybj rfl ?_ ?_<;>(intro ht;rw [ht];first|replace ht := oet_ ht|replace ht := oef_ ht|skip))|(refine ych ?_;first|(refine ybw rfl ?_ ?_<;>intro ht)|(refine ybx rfl ?_ ?_<;>intro ht)))
    exact nx_ret1 rfl (rv_tmp rfl) (fun w' s' => ⟨_, rfl, s', trivial⟩)
end Go.Proofs.YtaofgcahmfailaaGreatDoor
end

section
namespace Go.Proofs.YtaofgcahmfailaaGreatDoor
open Go Go.Ck
set_option maxHeartbeats 4000000
def aeadM (wth hid : List Int) : List Int := (padP wth ++ padP hid ++ putLow 8 (wth.length : Int)) ++ putLow 8 (hid.length : Int)
def aeadT (key nonce wth hid : List Int) : List Int := tagF ((blockF key 0 nonce).take 32) (aeadM wth hid)
theorem aeadM_by {a b : List Int} (ha : Bytes a) (hb : Bytes b) : Bytes (aeadM a b) := cbytes_app (cbytes_app (cbytes_app (padP_by ha) (padP_by hb)) (pLow_by _ _)) (pLow_by _ _)
theorem aeadM_len (a b : List Int) : (aeadM a b).length = a.length + padQ a.length + (b.length + padQ b.length) + 16 := by simp [aeadM, padP_len, putLow_len]; omega
theorem aeadT_len (key nonce wth hid : List Int) : (aeadT key nonce wth hid).length = 16 := tagF_len _ _
theorem aeadT_by (key nonce wth hid : List Int) : Bytes (aeadT key nonce wth hid) := tagF_by _ _
theorem atag_sp (va vb : Value) (key nonce a b : List Int) (hk : Bytes key) (hn : Bytes nonce) (hk32 : key.length = 32) (hn12 : nonce.length = 12) (ya : Bytes a) (yb : Bytes b) (la : a.length ≤ 400000) (lb : b.length ≤ 400000) (h : View) (ha : Bs8 h va a) (hb : Bs8 h vb b) (w : World) (s : St ⟨w, h, []⟩ h [] w) :
    Calls Tryz.prog 78 [.agg (bcs key).toArray, .agg (bcs nonce).toArray, va, vb].toArray w fun e w' => e = .returned (.agg (bcs (aeadT key nonce a b)).toArray) ∧ St ⟨w, h, []⟩ h [] w' := by
  obtain ⟨_, ada, capa, rfl, hcapa, _⟩ := id ha
  obtain ⟨_, adb, capb, rfl, hcapb, _⟩ := id hb
  have k1 : (bcs key).length = 32 := by rw [bcs_len, hk32]
  have k2 : (bcs nonce).length = 12 := by rw [bcs_len, hn12]
  have B1 := Block_sp key 0 nonce hk hn hk32 hn12 h
  have bl := blockF_len key 0 nonce
  have bb : Bytes (blockF key 0 nonce) := outF_by _ 16
  have pz1 := padQ_lt a.length
  have pz2 := padQ_lt b.length
  have pa := padP_len a
  have pb := padP_len b
  have p8 := putLow_len 8 (a.length : Int)
  have q8 := putLow_len 8 (b.length : Int)
  have hml := aeadM_len a b
  have hmb := aeadM_by ya yb
  unfold aeadT
  generalize blockF key 0 nonce = kb at B1 bl bb ⊢
  have hol : (bcs kb).length = 64 := by rw [bcs_len, bl]
  have wa : IntKind.u64.wrap (a.length : Int) = (a.length : Int) := wrap_u64 (by omega) (by omega)
  have wb : IntKind.u64.wrap (b.length : Int) = (b.length : Int) := wrap_u64 (by omega) (by omega)
  refine calls_enter Tryz.func78 rfl Tryz.ntmps78 rfl s ?_
  repeat' (first|(refine ycf ?_;apply ybk;(·first|(first|exact tk_|(apply yad;(·rfl);(·exact yaz 2 rfl);(·exact k1))|(apply yad;(·rfl);(·exact yaz 1 rfl);(·exact k2))));(·rfl);(·rfl))|refine t1_ ?_|(refine ta_ ?_;intro _)|((fail_if_success (refine ybi rfl ?_));refine ybj rfl ?_ ?_<;>(intro ht;rw [ht];first|replace ht := oet_ ht|replace ht := oef_ ht|skip))|(refine ych ?_;first|(refine ybw rfl ?_ ?_<;>intro ht)|(refine ybx rfl ?_ ?_<;>intro ht)))
  (refine ycn (ycp Tryz.func91 rfl (by kernel_rfl) rfl) (B1) rfl rfl rfl ?_ ?_; (· (exact to_)))
  repeat' (first|(refine ycf ?_;apply ybk;(·first|exact tk_);(·rfl);(·rfl))|(refine ybg 0 rfl rfl rfl (by show (bcs kb).toArray.size = 64;simpa using hol) (by show 0 + (bcs kb).toArray.size ≤ _;rw [List.size_toArray, hol];exact nble rfl) (List.all_eq_true.2 (bcs_one kb)) (ybh (by show (bcs kb).length = _;rw [hol];rfl)) rfl rfl ?_ ?_ ?_;(·(exact to_));(·(exact to_)))|refine t1_ ?_|(refine ta_ ?_;intro _)|((fail_if_success (refine ybi rfl ?_));refine ybj rfl ?_ ?_<;>(intro ht;rw [ht];first|replace ht := oet_ ht|replace ht := oef_ ht|skip))|(refine ych ?_;first|(refine ybw rfl ?_ ?_<;>intro ht)|(refine ybx rfl ?_ ?_<;>intro ht)))
  rename_i bk bn bo b9
  (refine yco (ycp Tryz.func93 rfl (by kernel_rfl) rfl) (apadded_sp _ a la h ha) rfl rfl rfl ?_ ?_ ?_; (· (exact to_)); (· intro _ _ hle; (exact to_)); intro x px hle)
  refine rx_rowsl 0 rfl ?_
  rintro ad1 cap1 rfl
  clear px hle
  repeat' (first|(refine ycf ?_;apply ybk;(·first|exact tk_);(·rfl);(·rfl))|refine t1_ ?_|(refine ta_ ?_;intro _)|((fail_if_success (refine ybi rfl ?_));refine ybj rfl ?_ ?_<;>(intro ht;rw [ht];first|replace ht := oet_ ht|replace ht := oef_ ht|skip))|(refine ych ?_;first|(refine ybw rfl ?_ ?_<;>intro ht)|(refine ybx rfl ?_ ?_<;>intro ht)))
  (refine yco (ycp Tryz.func93 rfl (by kernel_rfl) rfl) (apadded_sp _ b lb h hb) rfl rfl rfl ?_ ?_ ?_; (· (exact to_)); (· intro _ _ hle; (exact to_)); intro x px hle)
  refine rx_rowsl 0 rfl ?_
  rintro ad2 cap2 rfl
  clear px hle
  refine rx_persist rfl fun h1 hle1 hv1 => ?_
  have hv1 : Bs8 h1 (.slice ad2 (padP b).length cap2) (padP b) := hv1
  refine rx_append_sc (sz := 1) 0 rfl rfl rfl hv1 (bcs_one _) rfl (by omega) (by unfold maxLen; omega) (by omega) rfl rfl rfl ybf (fun _ => ybf) ?_
  intro v1 _
  rw [← bcs_app]
  repeat' (first|(refine ycf ?_;apply ybk;(·first|(first|exact tk_|(refine qv_convert_int' rfl wa)));(·rfl);(·rfl))|refine t1_ ?_|(refine ta_ ?_;intro _)|((fail_if_success (refine ybi rfl ?_));refine ybj rfl ?_ ?_<;>(intro ht;rw [ht];first|replace ht := oet_ ht|replace ht := oef_ ht|skip))|(refine ych ?_;first|(refine ybw rfl ?_ ?_<;>intro ht)|(refine ybx rfl ?_ ?_<;>intro ht)))
  (refine yco (ycp Tryz.func89 rfl (by kernel_rfl) rfl) (PutLow_sp (a.length : Int) 8 ⟨by omega, by omega⟩ (by omega) h1) rfl rfl rfl ?_ ?_ ?_; (· (exact to_)); (· intro _ _ hle; (exact to_)); intro x px hle)
  refine rx_rowform 0 rfl (fun _ h1 _ => (by omega)) ?_
  rintro g1 cap1 rfl
  clear px hle
  refine rx_append (sz := 1) 1 rfl rfl rfl (row_cells 0 rfl) (by rw [bcs_len, Nat.mul_one]) (bcs_one _) rfl (by omega) (by unfold maxLen; omega) (by omega) rfl rfl rfl ybf (fun _ => ybf) ?_
  intro v2 _
  rw [← bcs_app]
  repeat' (first|(refine ycf ?_;apply ybk;(·first|(first|exact tk_|(refine qv_convert_int' rfl wb)));(·rfl);(·rfl))|refine t1_ ?_|(refine ta_ ?_;intro _)|((fail_if_success (refine ybi rfl ?_));refine ybj rfl ?_ ?_<;>(intro ht;rw [ht];first|replace ht := oet_ ht|replace ht := oef_ ht|skip))|(refine ych ?_;first|(refine ybw rfl ?_ ?_<;>intro ht)|(refine ybx rfl ?_ ?_<;>intro ht)))
  (refine yco (ycp Tryz.func89 rfl (by kernel_rfl) rfl) (PutLow_sp (b.length : Int) 8 ⟨by omega, by omega⟩ (by omega) h1) rfl rfl rfl ?_ ?_ ?_; (· (exact to_)); (· intro _ _ hle; (exact to_)); intro x px hle)
  refine rx_rowform 0 rfl (fun _ h1 _ => (by omega)) ?_
  rintro g2 cap2 rfl
  clear px hle
  refine rx_append (sz := 1) 2 rfl rfl rfl (row_cells 0 rfl) (by rw [bcs_len, Nat.mul_one]) (bcs_one _) rfl (by omega) (by unfold maxLen; omega) (by omega) rfl rfl rfl ybf (fun _ => ybf) ?_
  intro v3 _
  rw [← bcs_app]
  have eM : padP a ++ padP b ++ putLow 8 (a.length : Int) ++ putLow 8 (b.length : Int) = aeadM a b := rfl
  rw [eM]
  refine rx_picks [2, 2, 2] ?_
  refine rx_persist rfl fun h2 hle2 hv3 => ?_
  have hv3 : Sc h2 1 v3 ((padP a).length + (padP b).length + (putLow 8 (a.length : Int)).length + (putLow 8 (b.length : Int)).length) (bcs (aeadM a b)) := hv3
  rw [show (padP a).length + (padP b).length + (putLow 8 (a.length : Int)).length + (putLow 8 (b.length : Int)).length = (aeadM a b).length by omega] at hv3
  have hv3 : Bs8 h2 v3 (aeadM a b) := hv3
  refine rx_bview 0 rfl rfl fun h3 hle3 hK => ?_
  have hK : h3 b9 = some (.cells (bcs kb).toArray 180 (0, 0)) := hK
  clear eM
  generalize aeadM a b = m at hml hmb hv3 ⊢
  have T1 := Tag_sp v3 (kb.take 32) m (bytes_take bb 32) (by simp; omega) hmb (by omega) h3 (hv3.mono hle3)
  have tl := tagF_len (kb.take 32) m
  generalize tagF (kb.take 32) m = out at T1 tl ⊢
  obtain ⟨_, ad3, cap3, rfl, hcap3, _⟩ := id hv3
  have hol3 : (bcs (kb.take 32)).length = 32 := by rw [bcs_len]; simp; omega
  have hot : (bcs out).length = 16 := by rw [bcs_len, tl]
  have ck : ∀ L, Cells h3 L ⟨b9, 0, none⟩ (bcs (kb.take 32)) := fun L => by
    have c : Cells h3 L ⟨b9, 0, none⟩ (bcs kb) := cells_view hK
    have := c.take 32
    rwa [show (bcs kb).take 32 = bcs (kb.take 32) by unfold bcs; rw [List.map_take]] at this
  repeat' (first|(refine ycf ?_;apply ybk;(·first|(first|exact tk_|exact (qv_slice_arr_to (j := 32) rfl rfl (by omega))|(refine qv_arrptr rfl (by omega))|(apply yad;(·rfl);(·exact ck _);(·exact hol3))));(·rfl);(·rfl))|refine t1_ ?_|(refine ta_ ?_;intro _)|((fail_if_success (refine ybi rfl ?_));refine ybj rfl ?_ ?_<;>(intro ht;rw [ht];first|replace ht := oet_ ht|replace ht := oef_ ht|skip))|(refine ych ?_;first|(refine ybw rfl ?_ ?_<;>intro ht)|(refine ybx rfl ?_ ?_<;>intro ht)))
  (refine ycn (ycp Tryz.func94 rfl (by kernel_rfl) rfl) (T1) rfl rfl rfl ?_ ?_; (· (exact to_)))
  repeat' (first|(refine ycf ?_;apply ybk;(·first|exact tk_);(·rfl);(·rfl))|(refine ybg 0 rfl rfl rfl (by show (bcs out).toArray.size = 16;simpa using hot) (by show 0 + (bcs out).toArray.size ≤ _;rw [List.size_toArray, hot];exact nble rfl) (List.all_eq_true.2 (bcs_one out)) (ybh (by show (bcs out).length = _;rw [hot];rfl)) rfl rfl ?_ ?_ ?_;(·(exact to_));(·(exact to_)))|refine t1_ ?_|(refine ta_ ?_;intro _)|((fail_if_success (refine ybi rfl ?_));refine ybj rfl ?_ ?_<;>(intro ht;rw [ht];first|replace ht := oet_ ht|replace ht := oef_ ht|skip))|(refine ych ?_;first|(refine ybw rfl ?_ ?_<;>intro ht)|(refine ybx rfl ?_ ?_<;>intro ht)))
  exact nx_ret1 rfl (rv_cells rfl (yaz 0 rfl) (by show (bcs out).toArray.toList.length = 16; simpa using hot)) (fun w' s' => ⟨rfl, s'.nil.base⟩)
def aeadS (key nonce wth b : List Int) : List Int := streamF key 1 nonce b ++ aeadT key nonce wth (streamF key 1 nonce b)
theorem aeadS_len (key nonce wth b : List Int) : (aeadS key nonce wth b).length = b.length + 16 := by rw [aeadS, List.length_append, streamF_len, aeadT_len]
theorem aeadS_by (key nonce wth b : List Int) : Bytes (aeadS key nonce wth b) := cbytes_app (strmF_by _ _ _ _ _) (aeadT_by _ _ _ _)
theorem aSeal_sp (va vb : Value) (key nonce a b : List Int) (hk : Bytes key) (hn : Bytes nonce) (hk32 : key.length = 32) (hn12 : nonce.length = 12) (ya : Bytes a) (yb : Bytes b) (la : a.length ≤ 400000) (lb : b.length ≤ 400000) (h : View) (ha : Bs8 h va a) (hb : Bs8 h vb b) (w : World) (s : St ⟨w, h, []⟩ h [] w) :
    Calls Tryz.prog 60 [.agg (bcs key).toArray, .agg (bcs nonce).toArray, va, vb].toArray w fun e w' => ∃ v, e = .returned v ∧ St ⟨w, h, []⟩ h [rowB v (aeadS key nonce a b)] w' ∧ True := by
  obtain ⟨_, ada, capa, rfl, hcapa, _⟩ := id ha
  obtain ⟨_, adb, capb, rfl, hcapb, _⟩ := id hb
  have k1 : (bcs key).length = 32 := by rw [bcs_len, hk32]
  have k2 : (bcs nonce).length = 12 := by rw [bcs_len, hn12]
  have S1 := Stream_sp key 1 nonce _ b hk hn hk32 hn12 (by omega) yb h hb
  have sl := streamF_len key 1 nonce b
  have sb : Bytes (streamF key 1 nonce b) := strmF_by _ _ _ _ _
  unfold aeadS
  generalize streamF key 1 nonce b = hd at S1 sl sb ⊢
  refine calls_enter Tryz.func60 rfl Tryz.ntmps60 rfl s ?_
  repeat' (first|(refine ycf ?_;apply ybk;(·first|(first|exact tk_|(apply yad;(·rfl);(·exact yaz 1 rfl);(·exact k1))|(apply yad;(·rfl);(·exact yaz 0 rfl);(·exact k2))));(·rfl);(·rfl))|refine t1_ ?_|(refine ta_ ?_;intro _)|((fail_if_success (refine ybi rfl ?_));refine ybj rfl ?_ ?_<;>(intro ht;rw [ht];first|replace ht := oet_ ht|replace ht := oef_ ht|skip))|(refine ych ?_;first|(refine ybw rfl ?_ ?_<;>intro ht)|(refine ybx rfl ?_ ?_<;>intro ht)))
  (refine yco (ycp Tryz.func75 rfl (by kernel_rfl) rfl) (S1) rfl rfl rfl ?_ ?_ ?_; (· (exact to_)); (· intro _ _ hle; (exact to_)); intro x px hle)
  refine rx_rowsl 0 rfl ?_
  rintro ad1 cap1 rfl
  clear px hle
  repeat' (first|(refine ycf ?_;apply ybk;(·first|(first|exact tk_|(apply yad;(·rfl);(·exact yaz 2 rfl);(·exact k1))|(apply yad;(·rfl);(·exact yaz 1 rfl);(·exact k2))));(·rfl);(·rfl))|refine t1_ ?_|(refine ta_ ?_;intro _)|((fail_if_success (refine ybi rfl ?_));refine ybj rfl ?_ ?_<;>(intro ht;rw [ht];first|replace ht := oet_ ht|replace ht := oef_ ht|skip))|(refine ych ?_;first|(refine ybw rfl ?_ ?_<;>intro ht)|(refine ybx rfl ?_ ?_<;>intro ht)))
  refine rx_call_lend 0 (ycp Tryz.func78 rfl (by kernel_rfl) rfl) rfl (fun h' hle' hsc w s => atag_sp _ (.slice ad1 hd.length cap1) key nonce a hd hk hn hk32 hn12 ya sb la (by omega) h' (ha.mono hle') hsc w s) rfl rfl rfl ybf ?_
  have tl := aeadT_len key nonce a hd
  generalize aeadT key nonce a hd = t at tl ⊢
  have hot : (bcs t).length = 16 := by rw [bcs_len, tl]
  repeat' (first|(refine ycf ?_;apply ybk;(·first|(first|exact tk_|exact qv_slice_arr rfl));(·rfl);(·rfl))|(refine ybg 0 rfl rfl rfl (by show (bcs t).toArray.size = 16;simpa using hot) (by show 0 + (bcs t).toArray.size ≤ _;rw [List.size_toArray, hot];exact nble rfl) (List.all_eq_true.2 (bcs_one t)) (ybh (by show (bcs t).length = _;rw [hot];rfl)) rfl rfl ?_ ?_ ?_;(·(exact to_));(·(exact to_)))|refine t1_ ?_|(refine ta_ ?_;intro _)|((fail_if_success (refine ybi rfl ?_));refine ybj rfl ?_ ?_<;>(intro ht;rw [ht];first|replace ht := oet_ ht|replace ht := oef_ ht|skip))|(refine ych ?_;first|(refine ybw rfl ?_ ?_<;>intro ht)|(refine ybx rfl ?_ ?_<;>intro ht)))
  refine rx_append (sz := 1) 1 rfl rfl rfl (yaz 0 rfl) (by show (bcs t).length = 16 * 1; exact hot) (bcs_one _) rfl (by omega) (by unfold maxLen; omega) (by omega) rfl rfl rfl ybf (fun _ => ybf) ?_
  intro v3 _
  repeat' (first|(refine ycf ?_;apply ybk;(·first|(first|exact tk_|exact qv_slice_arr rfl));(·rfl);(·rfl))|refine t1_ ?_|(refine ta_ ?_;intro _)|((fail_if_success (refine ybi rfl ?_));refine ybj rfl ?_ ?_<;>(intro ht;rw [ht];first|replace ht := oet_ ht|replace ht := oef_ ht|skip))|(refine ych ?_;first|(refine ybw rfl ?_ ?_<;>intro ht)|(refine ybx rfl ?_ ?_<;>intro ht)))
  refine nx_ret1 rfl (rv_tmp rfl) (fun w' s' => ⟨v3, rfl, ?_, trivial⟩)
  unfold rowB
  rw [List.length_append, tl, bcs_app]
  exact s'.picks [1]
end Go.Proofs.YtaofgcahmfailaaGreatDoor
end

section
namespace Go.Ck
open Go
section
variable {P : Program} {n : Nat} {K : Bs} {F : List (Nat × Value)} {h : View} {L : List Res} {Q : Exit → Act → World → Prop}
variable {dst : Option Nat} {ty : Nat} {pos : String} {af : Array Edge} {gd : Option (Nat × Bool)}
theorem rx_append_full {g : Rg} {i : Nat} {r : List (Nat × Oper)} {T e : Nat} {x y : Operand} {z : Value} {sz by' m0 m c gb go : Nat} {ad : Addr} {xs news : List Value} [tu : TyU P T (.slice e)] [tb : TyB P e z sz by'] (hx : ev F x = some (.slice (some ⟨gb, go, none⟩) m0 m0)) (hy : ev F y = some (.slice (some ad) m c))
    (hold : Sc h sz (.slice (some ⟨gb, go, none⟩) m0 m0) m0 xs) (hnews : Cells h L ad news) (hl : news.length = m * sz) (hm : 0 < m) (hzs : z.cells.size = sz) (hsz : 0 < sz) (h63 : m0 + m ≤ maxLen) (hbytes : (m0 + m) * by' ≤ 140737488355328)
    (hw : wantedF g.ops F ⟨dst, .call ⟨.builtin .append, #[x, y], #[T, T]⟩, ty, pos, af, gd⟩ = some true) (hd : okd n dst = true) (hlo : g.lo i = true) (o1 : Owe g i h L)
    (o2 : ∀ v', Owe g i h (Res.row e sz v' (m0 + m) (xs ++ news) :: L))
    (hn : ∀ v', RX P n K g r (putF dst v' F) h (Res.row e sz v' (m0 + m) (xs ++ news) :: L) Q) :
    RX P n K g ((i, ⟨dst, .call ⟨.builtin .append, #[x, y], #[T, T]⟩, ty, pos, af, gd⟩) :: r) F h L Q := by
  unfold RX at *
  intro a w f s
  obtain ⟨ii, hi, hz, hsize, hby⟩ := tb.ex
  subst hsize
  subst hby
  have hlen : (xs ++ news).length = (m0 + m) * ii.size := by rw [List.length_append, hold.1, hl, Nat.add_mul]
  have hsmall : m0 + m ≤ 9223372036854775807 := by simp only [maxLen] at h63; omega
  have hr := run_append_grow (P := P) w T ty e ii z tu.u hi hz ⟨gb, go, none⟩ m0 m0 xs hold.1 (fun j u hj => hold.cells w s.hd j u hj) ad m c news hl (hnews w s.hd) (by omega) (by omega) (growslice_fits (by omega) hbytes)
  have hge := grownCap_ge w (m0 + m) m0 e
  have hcm := grownCap_le_maxLen w (m0 + m) m0 e h63
  generalize grownCap w (m0 + m) m0 e = cap at hr hge hcm
  have s1 := s.drew.alloc (.cells (xs.toArray ++ news.toArray ++ Builtin.zeroCells z.cells (cap - (m0 + m))) e)
  have s2 := s1.rowOf (k := ii.size) (m := m0 + m) (cap := cap) hge hcm (by
    simp only [Array.size_append, List.size_toArray, size_zeroCells, hzs, hold.1, hl, ← Nat.add_mul]
    congr 1
    omega)
  have ht : ((xs.toArray ++ news.toArray ++ Builtin.zeroCells z.cells (cap - (m0 + m))).toList.take ((m0 + m) * ii.size)) = xs ++ news := by
    simp only [Array.toList_append, List.append_assoc]
    rw [← List.append_assoc, ← hlen]
    exact List.take_left
  rw [ht] at s2
  refine .inr (.inr ⟨wantedF_ok f hw, hlo, o1.out s, ?_⟩)
  unfold Oper.wp
  have : (execOp a.eval ⟨dst, .call ⟨.builtin .append, #[x, y], #[T, T]⟩, ty, pos, af, gd⟩).run P w = .ok (.value (.slice (some ⟨w.heap.size, 0, none⟩) (m0 + m) cap)) (w.drew.alloc (.cells (xs.toArray ++ news.toArray ++ Builtin.zeroCells z.cells (cap - (m0 + m))) e)) := by
    simp [execOp, resolve, invoke, builtin, f.ev hx, f.ev hy, hr]
  rw [this]
  exact ⟨(o2 _).out s2, hn _ _ _ (f.put hd _) s2⟩
end
end Go.Ck
end

section
namespace Go.Proofs.YtaofgcahmfailaaGreatDoor
open Go Go.Ck
set_option maxHeartbeats 4000000
def useS : List Int := [115, 101, 97, 108]
def sealK (key : List Int) (ep : Int) : List Int := expandF key (useS ++ (putLow 8 ep).reverse)
theorem sealK_len (key : List Int) (ep : Int) : (sealK key ep).length = 32 := expandF_len _ _
theorem sealK_by (key : List Int) (ep : Int) : Bytes (sealK key ep) := expandF_by _ _
theorem kSeal_sp (key : List Int) (ep : Int) (hk : Bytes key) (hk32 : key.length = 32) (he : 1 ≤ ep ∧ ep ≤ 1048576) (h : View) (hg : ShG h) (w : World) (s : St ⟨w, h, []⟩ h [] w) :
    Calls Tryz.prog 77 [.agg (bcs key).toArray, .int .i64 ep].toArray w fun e w' => e = .returned (.tuple #[.agg (bcs (sealK key ep)).toArray, .int .i64 0]) ∧ St ⟨w, h, []⟩ h [] w' := by
  have hol : (bcs key).length = 32 := by rw [bcs_len, hk32]
  have hub : Bytes useS := by
    intro x hx
    simp only [useS, List.mem_cons, List.not_mem_nil, or_false] at hx
    omega
  have we : IntKind.u64.wrap ep = ep := wrap_u64 (by omega) (by omega)
  refine calls_enter Tryz.func77 rfl Tryz.ntmps77 rfl s ?_
  repeat' (first|(refine ycf ?_;apply ybk;(·first|(first|exact tk_|(refine qv_convert_int' rfl we)));(·rfl);(·rfl))|(refine ybg 0 rfl rfl rfl (by show (bcs key).toArray.size = 32;simpa using hol) (by show 0 + (bcs key).toArray.size ≤ _;rw [List.size_toArray, hol];exact nble rfl) (List.all_eq_true.2 (bcs_one key)) (ybh (by show (bcs key).length = _;rw [hol];rfl)) rfl rfl ?_ ?_ ?_;(·(exact to_));(·(exact to_)))|refine t1_ ?_|(refine ta_ ?_;intro _)|((fail_if_success (refine ybi rfl ?_));refine ybj rfl ?_ ?_<;>(intro ht;rw [ht];first|replace ht := oet_ ht|replace ht := oef_ ht|skip))|(refine ych ?_;first|(refine ybw rfl ?_ ?_<;>intro ht)|(refine ybx rfl ?_ ?_<;>intro ht)))
  refine rx_mark 0 rfl rfl rfl (by unfold maxLen; omega) rfl rfl rfl ybf ybf ?_
  refine rx_persist_s rfl fun h1 hle1 hu1 => ?_
  have hu1 : Sc h1 1 (.slice (some ⟨_, 0, none⟩) 4 4) 4 (bcs useS) := hu1
  repeat' (first|(refine ycf ?_;apply ybk;(·first|(first|exact tk_|(refine qv_convert_int' rfl we)));(·rfl);(·rfl))|refine t1_ ?_|(refine ta_ ?_;intro _)|((fail_if_success (refine ybi rfl ?_));refine ybj rfl ?_ ?_<;>(intro ht;rw [ht];first|replace ht := oet_ ht|replace ht := oef_ ht|skip))|(refine ych ?_;first|(refine ybw rfl ?_ ?_<;>intro ht)|(refine ybx rfl ?_ ?_<;>intro ht)))
  (refine yco (ycp Tryz.func74 rfl (by kernel_rfl) rfl) (PutHigh_sp ep 8 ⟨by omega, by omega⟩ (by omega) (by omega) h1) rfl rfl rfl ?_ ?_ ?_; (· (exact to_)); (· intro _ _ hle; (exact to_)); intro x px hle)
  have p8 := putLow_len 8 ep
  have pb := putLow_bytes' 8 ep
  have pl : (putLow 8 ep).reverse.length = 8 := by rw [List.length_reverse, p8]
  unfold sealK
  have hul : (useS ++ (putLow 8 ep).reverse).length = 12 := by rw [List.length_append, pl]; rfl
  have hyl : Bytes (useS ++ (putLow 8 ep).reverse) := cbytes_app hub pb
  refine rx_rowform 0 rfl (fun _ h1 _ => (by omega)) ?_
  rintro g8 cap8 rfl
  refine rx_append_full (sz := 1) rfl rfl hu1 (row_cells 0 rfl) (by rw [bcs_len, Nat.mul_one]) (by omega) rfl (by omega) (by unfold maxLen; rw [pl]; omega) (by rw [pl]; omega) rfl rfl rfl ybf (fun _ => ybf) ?_
  intro v1
  rw [← bcs_app, pl]
  refine rx_persist rfl fun h2 hle2 hv2 => ?_
  have hv2 : Sc h2 1 v1 12 (bcs (useS ++ (putLow 8 ep).reverse)) := hv2
  generalize useS ++ (putLow 8 ep).reverse = us at hul hyl hv2 ⊢
  have hv2 : Bs8 h2 v1 us := by unfold Bs8; rw [hul]; exact hv2
  obtain ⟨_, adu, capu, rfl, hcapu, _⟩ := id hv2
  clear px hle
  repeat' (first|refine tw_ ?_|(refine ta_ ?_;intro _)|((fail_if_success (refine ybi rfl ?_));refine ybj rfl ?_ ?_<;>(intro ht;rw [ht];first|replace ht := oet_ ht|replace ht := oef_ ht|skip))|(refine ych ?_;first|(refine ybw rfl ?_ ?_<;>intro ht)|(refine ybx rfl ?_ ?_<;>intro ht)))
  refine rx_perm (perm_at (k := 2) rfl) ?_
  refine rx_arr_view rfl hk32 fun h3 hle3 hm3 => ?_
  repeat' (first|(refine ycf ?_;apply ybk;(·first|(exact qv_slice_arr rfl));(·rfl);(·rfl))|refine t1_ ?_|(refine ta_ ?_;intro _)|((fail_if_success (refine ybi rfl ?_));refine ybj rfl ?_ ?_<;>(intro ht;rw [ht];first|replace ht := oet_ ht|replace ht := oef_ ht|skip))|(refine ych ?_;first|(refine ybw rfl ?_ ?_<;>intro ht)|(refine ybx rfl ?_ ?_<;>intro ht)))
  (refine yco (ycp Tryz.func72 rfl (by kernel_rfl) rfl) (expand_sp _ _ key us hk ⟨by omega, by omega⟩ hyl (by omega) h3 (by rw [hk32] at *; exact hm3) (hv2.mono hle3) (((hg.mono hle1).mono hle2).mono hle3)) rfl rfl rfl ?_ ?_ ?_; (· (exact to_)); (· intro _ _ hle; (exact to_)); intro x px hle)
  obtain ⟨h4, vk⟩ := x
  clear hle
  dsimp only at px ⊢
  have hkl := expandF_len key us
  generalize expandF key us = kk at hkl px ⊢
  obtain ⟨_, adk, capk, rfl, hcapk, _⟩ := id px
  obtain ⟨bk, ok, rfl⟩ := px.ad (by omega) (by omega)
  have hol2 : (bcs kk).length = 32 := by rw [bcs_len, hkl]
  repeat' (first|(refine ycf ?_;apply ybk;(·first|(first|exact tk_|(refine qv_arrptr rfl (by omega))|(apply yad;(·rfl);(·exact px.cells);(·exact hol2))));(·rfl);(·rfl))|(refine ybg 1 rfl rfl rfl (by show (bcs kk).toArray.size = 32;simpa using hol2) (by show 0 + (bcs kk).toArray.size ≤ _;rw [List.size_toArray, hol2];exact nble rfl) (List.all_eq_true.2 (bcs_one kk)) (ybh (by show (bcs kk).length = _;rw [hol2];rfl)) rfl rfl ?_ ?_ ?_;(·(exact to_));(·(exact to_)))|refine t1_ ?_|(refine ta_ ?_;intro _)|((fail_if_success (refine ybi rfl ?_));refine ybj rfl ?_ ?_<;>(intro ht;rw [ht];first|replace ht := oet_ ht|replace ht := oef_ ht|skip))|(refine ych ?_;first|(refine ybw rfl ?_ ?_<;>intro ht)|(refine ybx rfl ?_ ?_<;>intro ht)))
  exact nx_ret2 rfl (rv_cells rfl (yaz 1 rfl) (by show (bcs kk).toArray.toList.length = 32; simpa using hol2)) (rv_tmp rfl) (fun w' s' => ⟨rfl, s'.nil.base⟩)
theorem vkeys_sp (bv : Nat) (idl : Bool) (key : List Int) (a b c : Nat) (ep cl ct : Int) (hk : Bytes key) (hk32 : key.length = 32) (hok : sealOk ep cl ct) (h : View) (hv : Vb h bv idl key a b c) (hg : ShG h) (w : World) (s : St ⟨w, h, []⟩ h [] w) :
    Calls Tryz.prog 59 [.pointer (some ⟨bv, 0, none⟩), .int .i64 ep, .int .i64 cl, .int .i64 ct].toArray w fun e w' => e = .returned (.tuple #[.agg (bcs (sealK key ep)).toArray, .agg (bcs (nonceF cl ct)).toArray, .int .i64 0]) ∧ St ⟨w, h, []⟩ h [] w' := by
  have N1 := Nonce_sp cl ct h
  rw [if_pos hok.1] at N1
  have hnl := nonceF_len cl ct
  have hskl := sealK_len key ep
  have K1 := kSeal_sp key ep hk hk32 ⟨hok.2.1, hok.2.2⟩ h hg
  generalize nonceF cl ct = nn at N1 hnl ⊢
  generalize sealK key ep = kk at K1 hskl ⊢
  have hol : (bcs kk).length = 32 := by rw [bcs_len, hskl]
  have hon : (bcs nn).length = 12 := by rw [bcs_len, hnl]
  refine calls_enter Tryz.func59 rfl Tryz.ntmps59 rfl s ?_
  repeat' (first|(refine ycf ?_;apply ybk;(·first|(first|exact tk_|(apply qv_nilCheck;rfl)|(apply yad;(·rfl);(·exact hv.kb);(·rw [bcs_len, hk32]))));(·rfl);(·rfl))|(refine ybg 1 rfl rfl rfl (by show (bcs kk).toArray.size = 32;simpa using hol2) (by show 0 + (bcs kk).toArray.size ≤ _;rw [List.size_toArray, hol2];exact nble rfl) (List.all_eq_true.2 (bcs_one kk)) (ybh (by show (bcs kk).length = _;rw [hol2];rfl)) rfl rfl ?_ ?_ ?_;(·(exact to_));(·(exact to_)))|refine t1_ ?_|(refine ta_ ?_;intro _)|((fail_if_success (refine ybi rfl ?_));refine ybj rfl ?_ ?_<;>(intro ht;rw [ht];first|replace ht := oet_ ht|replace ht := oef_ ht|skip))|(refine ych ?_;first|(refine ybw rfl ?_ ?_<;>intro ht)|(refine ybx rfl ?_ ?_<;>intro ht)))
  (refine ycn (ycp Tryz.func77 rfl (by kernel_rfl) rfl) (K1) rfl rfl rfl ?_ ?_; (· (exact to_)))
  repeat' (first|(refine ycf ?_;apply ybk;(·first|(first|exact tk_|(apply qv_nilCheck;rfl)|(apply yad;(·rfl);(·exact hv.kb);(·rw [bcs_len, hk32]))));(·rfl);(·rfl))|(first|(refine ybg 0 rfl rfl rfl (by show (bcs kk).toArray.size = 32;simpa using hol) (by show 0 + (bcs kk).toArray.size ≤ _;rw [List.size_toArray, hol];exact nble rfl) (List.all_eq_true.2 (bcs_one kk)) (ybh (by show (bcs kk).length = _;rw [hol];rfl)) rfl rfl ?_ ?_ ?_;(·(exact to_));(·(exact to_))))|refine t1_ ?_|(refine ta_ ?_;intro _)|((fail_if_success (refine ybi rfl ?_));refine ybj rfl ?_ ?_<;>(intro ht;rw [ht];first|replace ht := oet_ ht|replace ht := oef_ ht|skip))|(refine ych ?_;first|(refine ybw rfl ?_ ?_<;>intro ht)|(refine ybx rfl ?_ ?_<;>intro ht)))
  (refine ycn (ycp Tryz.func76 rfl (by kernel_rfl) rfl) (N1) rfl rfl rfl ?_ ?_; (· (exact to_)))
  repeat' (first|(refine ycf ?_;apply ybk;(·first|(first|exact tk_|(apply yad;(·rfl);(·exact yaz 1 rfl);(·exact hol))|(apply yad;(·rfl);(·exact yaz 0 rfl);(·exact hon))));(·rfl);(·rfl))|(first|(refine ybg 0 rfl rfl rfl (by show (bcs nn).toArray.size = 12;simpa using hon) (by show 0 + (bcs nn).toArray.size ≤ _;rw [List.size_toArray, hon];exact nble rfl) (List.all_eq_true.2 (bcs_one nn)) (ybh (by show (bcs nn).length = _;rw [hon];rfl)) rfl rfl ?_ ?_ ?_;(·(exact to_));(·(exact to_)))|(refine ybg 3 rfl rfl rfl (by show (bcs kk).toArray.size = 32;simpa using hol) (by show 0 + (bcs kk).toArray.size ≤ _;rw [List.size_toArray, hol];exact nble rfl) (List.all_eq_true.2 (bcs_one kk)) (ybh (by show (bcs kk).length = _;rw [hol];rfl)) rfl rfl ?_ ?_ ?_;(·(exact to_));(·(exact to_)))|(refine ybg 2 rfl rfl rfl (by show (bcs nn).toArray.size = 12;simpa using hon) (by show 0 + (bcs nn).toArray.size ≤ _;rw [List.size_toArray, hon];exact nble rfl) (List.all_eq_true.2 (bcs_one nn)) (ybh (by show (bcs nn).length = _;rw [hon];rfl)) rfl rfl ?_ ?_ ?_;(·(exact to_));(·(exact to_))))|refine t1_ ?_|(refine ta_ ?_;intro _)|((fail_if_success (refine ybi rfl ?_));refine ybj rfl ?_ ?_<;>(intro ht;rw [ht];first|replace ht := oet_ ht|replace ht := oef_ ht|skip))|(refine ych ?_;first|(refine ybw rfl ?_ ?_<;>intro ht)|(refine ybx rfl ?_ ?_<;>intro ht)))
  rename_i b8 b9 b11 b13
  refine cx_region_draw [Res.blk b13 (.cells (bcs nn).toArray 143 (0, 0)), Res.blk b11 (.cells (bcs kk).toArray 25 (0, 0))] rfl (by kernel_rfl) ?_
  repeat' (refine ycf ?_;(first|(first|(apply ybm;(·(first|(first|exact tk_|(apply yad;(·rfl);(·exact yaz 1 rfl);(·exact hol))|(apply yad;(·rfl);(·exact yaz 0 rfl);(·exact hon)))|exact tq_));(·rfl);(·rfl);(·(exact fun _ s => Hd.sub s (Le.refl h) (fun r hr => List.mem_append_left [_, _] hr))))|refine ybl rfl rfl ?_|((fail_if_success (refine ybi rfl ?_));refine ybj rfl ?_ ?_<;>(intro ht;rw [ht];first|replace ht := oet_ ht|replace ht := oef_ ht|skip))|(refine tb_ ?_ ?_ ?_;(·(first|exact ybf|(refine .inl ?_;(exact fun _ s => Hd.sub s (Le.refl h) (fun r hr => List.mem_append_left [_, _] hr)))|exact to_));(·intro _;(first|exact ybf|(refine .inl ?_;(exact fun _ s => Hd.sub s (Le.refl h) (fun r hr => List.mem_append_left [_, _] hr)))|exact to_));intro _)|(first|(first|(refine ybg 0 rfl rfl rfl (by show (bcs nn).toArray.size = 12;simpa using hon) (by show 0 + (bcs nn).toArray.size ≤ _;rw [List.size_toArray, hon];exact nble rfl) (List.all_eq_true.2 (bcs_one nn)) (ybh (by show (bcs nn).length = _;rw [hon];rfl)) rfl rfl ?_ ?_ ?_;(·(first|exact ybf|(refine .inl ?_;(exact fun _ s => Hd.sub s (Le.refl h) (fun r hr => List.mem_append_left [_, _] hr)))|exact to_));(·(first|exact ybf|(refine .inl ?_;(exact fun _ s => Hd.sub s (Le.refl h) (fun r hr => List.mem_append_left [_, _] hr)))|exact to_)))|(refine ybg 3 rfl rfl rfl (by show (bcs kk).toArray.size = 32;simpa using hol) (by show 0 + (bcs kk).toArray.size ≤ _;rw [List.size_toArray, hol];exact nble rfl) (List.all_eq_true.2 (bcs_one kk)) (ybh (by show (bcs kk).length = _;rw [hol];rfl)) rfl rfl ?_ ?_ ?_;(·(first|exact ybf|(refine .inl ?_;(exact fun _ s => Hd.sub s (Le.refl h) (fun r hr => List.mem_append_left [_, _] hr)))|exact to_));(·(first|exact ybf|(refine .inl ?_;(exact fun _ s => Hd.sub s (Le.refl h) (fun r hr => List.mem_append_left [_, _] hr)))|exact to_)))|(refine ybg 2 rfl rfl rfl (by show (bcs nn).toArray.size = 12;simpa using hon) (by show 0 + (bcs nn).toArray.size ≤ _;rw [List.size_toArray, hon];exact nble rfl) (List.all_eq_true.2 (bcs_one nn)) (ybh (by show (bcs nn).length = _;rw [hon];rfl)) rfl rfl ?_ ?_ ?_;(·(first|exact ybf|(refine .inl ?_;(exact fun _ s => Hd.sub s (Le.refl h) (fun r hr => List.mem_append_left [_, _] hr)))|exact to_));(·(first|exact ybf|(refine .inl ?_;(exact fun _ s => Hd.sub s (Le.refl h) (fun r hr => List.mem_append_left [_, _] hr)))|exact to_))))|(refine tqs_ ?_ ?_ ?_;(·(first|exact ybf|(refine .inl ?_;(exact fun _ s => Hd.sub s (Le.refl h) (fun r hr => List.mem_append_left [_, _] hr)))|exact to_));(·(first|exact ybf|(refine .inl ?_;(exact fun _ s => Hd.sub s (Le.refl h) (fun r hr => List.mem_append_left [_, _] hr)))|exact to_))))|(apply ybn;(·(first|(first|exact tk_|(apply yad;(·rfl);(·exact yaz 1 rfl);(·exact hol))|(apply yad;(·rfl);(·exact yaz 0 rfl);(·exact hon)))|exact tq_));(·rfl);(·rfl);(·rfl);(·(first|exact ybf|(refine .inl ?_;(exact fun _ s => Hd.sub s (Le.refl h) (fun r hr => List.mem_append_left [_, _] hr)))|exact to_))))|refine ycg ?_))
  repeat' (first|(refine ycf ?_;apply ybk;(·first|(first|exact tk_|(apply yad;(·rfl);(·exact yaz 1 rfl);(·exact hol))|(apply yad;(·rfl);(·exact yaz 0 rfl);(·exact hon))));(·rfl);(·rfl))|(first|(refine ybg 0 rfl rfl rfl (by show (bcs nn).toArray.size = 12;simpa using hon) (by show 0 + (bcs nn).toArray.size ≤ _;rw [List.size_toArray, hon];exact nble rfl) (List.all_eq_true.2 (bcs_one nn)) (ybh (by show (bcs nn).length = _;rw [hon];rfl)) rfl rfl ?_ ?_ ?_;(·(first|exact ybf|(refine .inl ?_;(exact fun _ s => Hd.sub s (Le.refl h) (fun r hr => List.mem_append_left [_, _] hr)))|exact to_));(·(first|exact ybf|(refine .inl ?_;(exact fun _ s => Hd.sub s (Le.refl h) (fun r hr => List.mem_append_left [_, _] hr)))|exact to_)))|(refine ybg 3 rfl rfl rfl (by show (bcs kk).toArray.size = 32;simpa using hol) (by show 0 + (bcs kk).toArray.size ≤ _;rw [List.size_toArray, hol];exact nble rfl) (List.all_eq_true.2 (bcs_one kk)) (ybh (by show (bcs kk).length = _;rw [hol];rfl)) rfl rfl ?_ ?_ ?_;(·(first|exact ybf|(refine .inl ?_;(exact fun _ s => Hd.sub s (Le.refl h) (fun r hr => List.mem_append_left [_, _] hr)))|exact to_));(·(first|exact ybf|(refine .inl ?_;(exact fun _ s => Hd.sub s (Le.refl h) (fun r hr => List.mem_append_left [_, _] hr)))|exact to_)))|(refine ybg 2 rfl rfl rfl (by show (bcs nn).toArray.size = 12;simpa using hon) (by show 0 + (bcs nn).toArray.size ≤ _;rw [List.size_toArray, hon];exact nble rfl) (List.all_eq_true.2 (bcs_one nn)) (ybh (by show (bcs nn).length = _;rw [hon];rfl)) rfl rfl ?_ ?_ ?_;(·(first|exact ybf|(refine .inl ?_;(exact fun _ s => Hd.sub s (Le.refl h) (fun r hr => List.mem_append_left [_, _] hr)))|exact to_));(·(first|exact ybf|(refine .inl ?_;(exact fun _ s => Hd.sub s (Le.refl h) (fun r hr => List.mem_append_left [_, _] hr)))|exact to_))))|refine t1_ ?_|(refine ta_ ?_;intro _)|((fail_if_success (refine ybi rfl ?_));refine ybj rfl ?_ ?_<;>(intro ht;rw [ht];first|replace ht := oet_ ht|replace ht := oef_ ht|skip))|(refine ych ?_;first|(refine ybw rfl ?_ ?_<;>intro ht)|(refine ybx rfl ?_ ?_<;>intro ht)))
  exact nx_ret3 rfl (rv_cells rfl (yaz 3 rfl) (by show (bcs kk).toArray.toList.length = 32; simpa using hol)) (rv_cells rfl (yaz 2 rfl) (by show (bcs nn).toArray.toList.length = 12; simpa using hon)) (rv_tmp rfl) (fun w' s' => ⟨rfl, s'.nil⟩)
end Go.Proofs.YtaofgcahmfailaaGreatDoor
end
