/-
  Part 12 of a proof: AeA AeB CkFull KyB VaO.
  Conditions: each theorem states its own.
-/
import Derived.Test.YtgeepceieckooaaDoorVrDPM11
section
namespace Go.Proofs.YtgeepceieckooaaDoor
open Go Go.Ck
set_option maxRecDepth 100000
set_option maxHeartbeats 400000
set_option linter.unusedVariables false
def padQ (n : Nat) : Nat := (16 - n % 16) % 16
def padP (b : List Int) : List Int := b ++ List.replicate (padQ b.length) 0
theorem padQ_lt (n : Nat) : padQ n < 16 := Nat.mod_lt _ (by omega)
theorem padP_len (b : List Int) : (padP b).length = b.length + padQ b.length := by simp [padP]
theorem padP_by {b : List Int} (hb : Bytes b) : Bytes (padP b) := cbytes_app hb (zeros_by _)
theorem apadded_sp (v : Value) (b : List Int) (hl : b.length ≤ 400000) (h : View) (hv : Bs8 h v b) (w : World) (s : St ⟨w, h, []⟩ h [] w) :
    Calls Tryd.prog 54 [v].toArray w fun e w' => ∃ v, e = .returned v ∧ St ⟨w, h, []⟩ h [rowB v (padP b)] w' ∧ True := by
  obtain ⟨_, ad, cap, rfl, hcap, _⟩ := id hv
  refine calls_enter Tryd.func54 rfl Tryd.ntmps54 rfl s ?_
  repeat' (first|(refine ycf ?_;apply ybk;(·first|(exact tk_));(·rfl);(·rfl))|refine t1_ ?_|(refine ta_ ?_;intro _)|((fail_if_success (refine ybi rfl ?_));refine ybj rfl ?_ ?_<;>(intro ht;rw [ht];first|replace ht := oet_ ht|replace ht := oef_ ht|skip))|(refine ych ?_;first|(refine ybw rfl ?_ ?_<;>intro ht)|(refine ybx rfl ?_ ?_<;>intro ht)))
  refine yba ma_buildSlice0 rfl rfl rfl ybf (fun _ => ybf) ?_
  intro b0
  refine rx_rowOf 1 0 0 (by omega) (by unfold maxLen; omega) rfl ?_
  repeat' (first|(refine ycf ?_;apply ybk;(·first|(exact tk_));(·rfl);(·rfl))|refine t1_ ?_|(refine ta_ ?_;intro _)|((fail_if_success (refine ybi rfl ?_));refine ybj rfl ?_ ?_<;>(intro ht;rw [ht];first|replace ht := oet_ ht|replace ht := oef_ ht|skip))|(refine ych ?_;first|(refine ybw rfl ?_ ?_<;>intro ht)|(refine ybx rfl ?_ ?_<;>intro ht)))
  refine rx_append_sc (sz := 1) 0 rfl rfl rfl hv (bcs_one b) rfl (by omega) (by unfold maxLen; omega) (by omega) rfl rfl rfl ybf (fun _ => ybf) ?_
  intro v1 _
  repeat' (first|(refine ycf ?_;apply ybk;(·first|(exact tk_));(·rfl);(·rfl))|refine t1_ ?_|(refine ta_ ?_;intro _)|((fail_if_success (refine ybi rfl ?_));refine ybj rfl ?_ ?_<;>(intro ht;rw [ht];first|replace ht := oet_ ht|replace ht := oef_ ht|skip))|(refine ych ?_;first|(refine ybw rfl ?_ ?_<;>intro ht)|(refine ybx rfl ?_ ?_<;>intro ht)))
  refine cx_loop (X := Nat × Value) (fun y => [(3, y.2)]) (fun _ => h) (fun y => [rowB y.2 (b ++ List.replicate y.1 0)]) (fun y => y.1 ≤ padQ b.length) (fun y => padQ b.length - y.1) (0, v1) (Nat.zero_le _) ts_ (fun _ s => ?_) ?_
  · dsimp only
    unfold rowB
    simpa using s
  rintro ⟨k, v⟩ hk
  replace hk : k ≤ padQ b.length := hk
  dsimp only
  have hpz := padQ_lt b.length
  have hpm : (b.length + padQ b.length) % 16 = 0 := by unfold padQ; omega
  have hln : (b ++ List.replicate k (0 : Int)).length = b.length + k := by simp
  have hrem : (((b ++ List.replicate k (0 : Int)).length : Nat) : Int).tmod 16 = (((b.length + k) % 16 : Nat) : Int) := by rw [hln]; rfl
  refine cx_rowsl 0 rfl ?_
  rintro ad1 cap1 rfl
  by_cases hkz : k < padQ b.length
  · have hne : (b.length + k) % 16 ≠ 0 := by unfold padQ at hkz; omega
    repeat' (first|(refine ycf ?_;apply ybk;(·first|(first|(refine qv_remr rfl rfl (by decide) hrem)|exact tk_));(·rfl);(·rfl))|refine t1_ ?_|(refine ta_ ?_;intro _)|((fail_if_success (refine ybi rfl ?_));refine ybj rfl ?_ ?_<;>(intro ht;rw [ht];first|replace ht := oet_ ht|replace ht := oef_ ht|skip))|(refine ych ?_;first|(refine ybw rfl ?_ ?_<;>intro ht)|(refine ybx rfl ?_ ?_<;>intro ht)))
    refine rx_append (sz := 1) 1 rfl rfl rfl (yaz 0 rfl) rfl (bcs_one [0]) rfl (by omega) (by unfold maxLen; omega) (by omega) rfl rfl rfl ybf (fun _ => ybf) ?_
    intro v2 _
    repeat' (first|refine tw_ ?_|(refine ta_ ?_;intro _)|((fail_if_success (refine ybi rfl ?_));refine ybj rfl ?_ ?_<;>(intro ht;rw [ht];first|replace ht := oet_ ht|replace ht := oef_ ht|skip))|(refine ych ?_;first|(refine ybw rfl ?_ ?_<;>intro ht)|(refine ybx rfl ?_ ?_<;>intro ht)))
    refine nx_round (k + 1, v2) (by show k + 1 ≤ _; omega) (by show padQ b.length - (k + 1) < padQ b.length - k; omega) ts_ (fun _ s => ?_)
    dsimp only
    rw [List.replicate_succ', ← List.append_assoc]
    unfold rowB
    rw [List.length_append, bcs_app]
    exact s.tl
  · have ek : k = padQ b.length := by omega
    subst ek
    rw [hpm] at hrem
    repeat' (first|(refine ycf ?_;apply ybk;(·first|(first|(refine qv_remr rfl rfl (by decide) hrem)|exact tk_));(·rfl);(·rfl))|refine t1_ ?_|(refine ta_ ?_;intro _)|((fail_if_success (refine ybi rfl ?_));refine ybj rfl ?_ ?_<;>(intro ht;rw [ht];first|replace ht := oet_ ht|replace ht := oef_ ht|skip))|(refine ych ?_;first|(refine ybw rfl ?_ ?_<;>intro ht)|(refine ybx rfl ?_ ?_<;>intro ht)))
    exact nx_ret1 rfl (rv_tmp rfl) (fun w' s' => ⟨_, rfl, s', trivial⟩)
end Go.Proofs.YtgeepceieckooaaDoor
end

section
namespace Go.Proofs.YtgeepceieckooaaDoor
open Go Go.Ck
set_option maxRecDepth 100000
set_option maxHeartbeats 4000000
set_option linter.unusedVariables false
def aeadM (wth hid : List Int) : List Int := (padP wth ++ padP hid ++ putLow 8 (wth.length : Int)) ++ putLow 8 (hid.length : Int)
def aeadT (key nonce wth hid : List Int) : List Int := tagF ((blockF key 0 nonce).take 32) (aeadM wth hid)
theorem aeadM_by {a b : List Int} (ha : Bytes a) (hb : Bytes b) : Bytes (aeadM a b) := cbytes_app (cbytes_app (cbytes_app (padP_by ha) (padP_by hb)) (pLow_by _ _)) (pLow_by _ _)
theorem aeadM_len (a b : List Int) : (aeadM a b).length = a.length + padQ a.length + (b.length + padQ b.length) + 16 := by simp [aeadM, padP_len, putLow_len]; omega
theorem aeadT_len (key nonce wth hid : List Int) : (aeadT key nonce wth hid).length = 16 := tagF_len _ _
theorem atag_sp (va vb : Value) (key nonce a b : List Int) (hk : Bytes key) (hn : Bytes nonce) (hk32 : key.length = 32) (hn12 : nonce.length = 12) (ya : Bytes a) (yb : Bytes b) (la : a.length ≤ 400000) (lb : b.length ≤ 400000) (h : View) (ha : Bs8 h va a) (hb : Bs8 h vb b) (w : World) (s : St ⟨w, h, []⟩ h [] w) :
    Calls Tryd.prog 44 [.agg (bcs key).toArray, .agg (bcs nonce).toArray, va, vb].toArray w fun e w' => e = .returned (.agg (bcs (aeadT key nonce a b)).toArray) ∧ St ⟨w, h, []⟩ h [] w' := by
  obtain ⟨_, ada, capa, rfl, hcapa, _⟩ := id ha
  obtain ⟨_, adb, capb, rfl, hcapb, _⟩ := id hb
  have k1 : (bcs key).length = 32 := by rw [bcs_len, hk32]
  have k2 : (bcs nonce).length = 12 := by rw [bcs_len, hn12]
  have B1 := Block_sp key 0 nonce hk hn hk32 hn12 h
  have bl := blockF_len key 0 nonce
  have bb : Bytes (blockF key 0 nonce) := outF_by _ 16
  have pz1 := padQ_lt a.length
  have pz2 := padQ_lt b.length
  have pa := padP_len a
  have pb := padP_len b
  have p8 := putLow_len 8 (a.length : Int)
  have q8 := putLow_len 8 (b.length : Int)
  have hml := aeadM_len a b
  have hmb := aeadM_by ya yb
  unfold aeadT
  generalize blockF key 0 nonce = kb at B1 bl bb ⊢
  have hol : (bcs kb).length = 64 := by rw [bcs_len, bl]
  have wa : IntKind.u64.wrap (a.length : Int) = (a.length : Int) := wrap_u64 (by omega) (by omega)
  have wb : IntKind.u64.wrap (b.length : Int) = (b.length : Int) := wrap_u64 (by omega) (by omega)
  refine calls_enter Tryd.func44 rfl Tryd.ntmps44 rfl s ?_
  repeat' (first|(refine ycf ?_;apply ybk;(·first|(first|exact tk_|(apply yad;(·rfl);(·exact yaz 2 rfl);(·exact k1))|(apply yad;(·rfl);(·exact yaz 1 rfl);(·exact k2))));(·rfl);(·rfl))|refine t1_ ?_|(refine ta_ ?_;intro _)|((fail_if_success (refine ybi rfl ?_));refine ybj rfl ?_ ?_<;>(intro ht;rw [ht];first|replace ht := oet_ ht|replace ht := oef_ ht|skip))|(refine ych ?_;first|(refine ybw rfl ?_ ?_<;>intro ht)|(refine ybx rfl ?_ ?_<;>intro ht)))
  (refine ycn (ycp Tryd.func52 rfl (by kernel_rfl) rfl) (B1) rfl rfl rfl ?_ ?_; (· (exact to_)))
  repeat' (first|(refine ycf ?_;apply ybk;(·first|exact tk_);(·rfl);(·rfl))|(refine ybg 0 rfl rfl rfl (by show (bcs kb).toArray.size = 64;simpa using hol) (by show 0 + (bcs kb).toArray.size ≤ _;rw [List.size_toArray, hol];exact nble rfl) (List.all_eq_true.2 (bcs_one kb)) (ybh (by show (bcs kb).length = _;rw [hol];rfl)) rfl rfl ?_ ?_ ?_;(·(exact to_));(·(exact to_)))|refine t1_ ?_|(refine ta_ ?_;intro _)|((fail_if_success (refine ybi rfl ?_));refine ybj rfl ?_ ?_<;>(intro ht;rw [ht];first|replace ht := oet_ ht|replace ht := oef_ ht|skip))|(refine ych ?_;first|(refine ybw rfl ?_ ?_<;>intro ht)|(refine ybx rfl ?_ ?_<;>intro ht)))
  rename_i bk bn bo b9
  (refine yco (ycp Tryd.func54 rfl (by kernel_rfl) rfl) (apadded_sp _ a la h ha) rfl rfl rfl ?_ ?_ ?_; (· (exact to_)); (· intro _ _ hle; (exact to_)); intro x px hle)
  refine rx_rowsl 0 rfl ?_
  rintro ad1 cap1 rfl
  clear px hle
  repeat' (first|(refine ycf ?_;apply ybk;(·first|exact tk_);(·rfl);(·rfl))|refine t1_ ?_|(refine ta_ ?_;intro _)|((fail_if_success (refine ybi rfl ?_));refine ybj rfl ?_ ?_<;>(intro ht;rw [ht];first|replace ht := oet_ ht|replace ht := oef_ ht|skip))|(refine ych ?_;first|(refine ybw rfl ?_ ?_<;>intro ht)|(refine ybx rfl ?_ ?_<;>intro ht)))
  (refine yco (ycp Tryd.func54 rfl (by kernel_rfl) rfl) (apadded_sp _ b lb h hb) rfl rfl rfl ?_ ?_ ?_; (· (exact to_)); (· intro _ _ hle; (exact to_)); intro x px hle)
  refine rx_rowsl 0 rfl ?_
  rintro ad2 cap2 rfl
  clear px hle
  refine rx_persist rfl fun h1 hle1 hv1 => ?_
  have hv1 : Bs8 h1 (.slice ad2 (padP b).length cap2) (padP b) := hv1
  refine rx_append_sc (sz := 1) 0 rfl rfl rfl hv1 (bcs_one _) rfl (by omega) (by unfold maxLen; omega) (by omega) rfl rfl rfl ybf (fun _ => ybf) ?_
  intro v1 _
  rw [← bcs_app]
  repeat' (first|(refine ycf ?_;apply ybk;(·first|(first|exact tk_|(refine qv_convert_int' rfl wa)));(·rfl);(·rfl))|refine t1_ ?_|(refine ta_ ?_;intro _)|((fail_if_success (refine ybi rfl ?_));refine ybj rfl ?_ ?_<;>(intro ht;rw [ht];first|replace ht := oet_ ht|replace ht := oef_ ht|skip))|(refine ych ?_;first|(refine ybw rfl ?_ ?_<;>intro ht)|(refine ybx rfl ?_ ?_<;>intro ht)))
  (refine yco (ycp Tryd.func50 rfl (by kernel_rfl) rfl) (PutLow_sp (a.length : Int) 8 ⟨by omega, by omega⟩ (by omega) h1) rfl rfl rfl ?_ ?_ ?_; (· (exact to_)); (· intro _ _ hle; (exact to_)); intro x px hle)
  refine rx_rowform 0 rfl (fun _ h1 _ => (by omega)) ?_
  rintro g1 cap1 rfl
  clear px hle
  refine rx_append (sz := 1) 1 rfl rfl rfl (row_cells 0 rfl) (by rw [bcs_len, Nat.mul_one]) (bcs_one _) rfl (by omega) (by unfold maxLen; omega) (by omega) rfl rfl rfl ybf (fun _ => ybf) ?_
  intro v2 _
  rw [← bcs_app]
  repeat' (first|(refine ycf ?_;apply ybk;(·first|(first|exact tk_|(refine qv_convert_int' rfl wb)));(·rfl);(·rfl))|refine t1_ ?_|(refine ta_ ?_;intro _)|((fail_if_success (refine ybi rfl ?_));refine ybj rfl ?_ ?_<;>(intro ht;rw [ht];first|replace ht := oet_ ht|replace ht := oef_ ht|skip))|(refine ych ?_;first|(refine ybw rfl ?_ ?_<;>intro ht)|(refine ybx rfl ?_ ?_<;>intro ht)))
  (refine yco (ycp Tryd.func50 rfl (by kernel_rfl) rfl) (PutLow_sp (b.length : Int) 8 ⟨by omega, by omega⟩ (by omega) h1) rfl rfl rfl ?_ ?_ ?_; (· (exact to_)); (· intro _ _ hle; (exact to_)); intro x px hle)
  refine rx_rowform 0 rfl (fun _ h1 _ => (by omega)) ?_
  rintro g2 cap2 rfl
  clear px hle
  refine rx_append (sz := 1) 2 rfl rfl rfl (row_cells 0 rfl) (by rw [bcs_len, Nat.mul_one]) (bcs_one _) rfl (by omega) (by unfold maxLen; omega) (by omega) rfl rfl rfl ybf (fun _ => ybf) ?_
  intro v3 _
  rw [← bcs_app]
  have eM : padP a ++ padP b ++ putLow 8 (a.length : Int) ++ putLow 8 (b.length : Int) = aeadM a b := rfl
  rw [eM]
  refine rx_picks [2, 2, 2] ?_
  refine rx_persist rfl fun h2 hle2 hv3 => ?_
  have hv3 : Sc h2 1 v3 ((padP a).length + (padP b).length + (putLow 8 (a.length : Int)).length + (putLow 8 (b.length : Int)).length) (bcs (aeadM a b)) := hv3
  rw [show (padP a).length + (padP b).length + (putLow 8 (a.length : Int)).length + (putLow 8 (b.length : Int)).length = (aeadM a b).length by omega] at hv3
  have hv3 : Bs8 h2 v3 (aeadM a b) := hv3
  refine rx_bview 0 rfl rfl fun h3 hle3 hK => ?_
  have hK : h3 b9 = some (.cells (bcs kb).toArray 110 (0, 0)) := hK
  clear eM
  generalize aeadM a b = m at hml hmb hv3 ⊢
  have T1 := Tag_sp v3 (kb.take 32) m (bytes_take bb 32) (by simp; omega) hmb (by omega) h3 (hv3.mono hle3)
  have tl := tagF_len (kb.take 32) m
  generalize tagF (kb.take 32) m = out at T1 tl ⊢
  obtain ⟨_, ad3, cap3, rfl, hcap3, _⟩ := id hv3
  have hol3 : (bcs (kb.take 32)).length = 32 := by rw [bcs_len]; simp; omega
  have hot : (bcs out).length = 16 := by rw [bcs_len, tl]
  have ck : ∀ L, Cells h3 L ⟨b9, 0, none⟩ (bcs (kb.take 32)) := fun L => by
    have c : Cells h3 L ⟨b9, 0, none⟩ (bcs kb) := cells_view hK
    have := c.take 32
    rwa [show (bcs kb).take 32 = bcs (kb.take 32) by unfold bcs; rw [List.map_take]] at this
  repeat' (first|(refine ycf ?_;apply ybk;(·first|(first|exact tk_|exact (qv_slice_arr_to (j := 32) rfl rfl (by omega))|(refine qv_arrptr rfl (by omega))|(apply yad;(·rfl);(·exact ck _);(·exact hol3))));(·rfl);(·rfl))|refine t1_ ?_|(refine ta_ ?_;intro _)|((fail_if_success (refine ybi rfl ?_));refine ybj rfl ?_ ?_<;>(intro ht;rw [ht];first|replace ht := oet_ ht|replace ht := oef_ ht|skip))|(refine ych ?_;first|(refine ybw rfl ?_ ?_<;>intro ht)|(refine ybx rfl ?_ ?_<;>intro ht)))
  (refine ycn (ycp Tryd.func55 rfl (by kernel_rfl) rfl) (T1) rfl rfl rfl ?_ ?_; (· (exact to_)))
  repeat' (first|(refine ycf ?_;apply ybk;(·first|exact tk_);(·rfl);(·rfl))|(refine ybg 0 rfl rfl rfl (by show (bcs out).toArray.size = 16;simpa using hot) (by show 0 + (bcs out).toArray.size ≤ _;rw [List.size_toArray, hot];exact nble rfl) (List.all_eq_true.2 (bcs_one out)) (ybh (by show (bcs out).length = _;rw [hot];rfl)) rfl rfl ?_ ?_ ?_;(·(exact to_));(·(exact to_)))|refine t1_ ?_|(refine ta_ ?_;intro _)|((fail_if_success (refine ybi rfl ?_));refine ybj rfl ?_ ?_<;>(intro ht;rw [ht];first|replace ht := oet_ ht|replace ht := oef_ ht|skip))|(refine ych ?_;first|(refine ybw rfl ?_ ?_<;>intro ht)|(refine ybx rfl ?_ ?_<;>intro ht)))
  exact nx_ret1 rfl (rv_cells rfl (yaz 0 rfl) (by show (bcs out).toArray.toList.length = 16; simpa using hot)) (fun w' s' => ⟨rfl, s'.nil.base⟩)
def aeadS (key nonce wth b : List Int) : List Int := streamF key 1 nonce b ++ aeadT key nonce wth (streamF key 1 nonce b)
theorem aeadS_len (key nonce wth b : List Int) : (aeadS key nonce wth b).length = b.length + 16 := by rw [aeadS, List.length_append, streamF_len, aeadT_len]
theorem aSeal_sp (va vb : Value) (key nonce a b : List Int) (hk : Bytes key) (hn : Bytes nonce) (hk32 : key.length = 32) (hn12 : nonce.length = 12) (ya : Bytes a) (yb : Bytes b) (la : a.length ≤ 400000) (lb : b.length ≤ 400000) (h : View) (ha : Bs8 h va a) (hb : Bs8 h vb b) (w : World) (s : St ⟨w, h, []⟩ h [] w) :
    Calls Tryd.prog 34 [.agg (bcs key).toArray, .agg (bcs nonce).toArray, va, vb].toArray w fun e w' => ∃ v, e = .returned v ∧ St ⟨w, h, []⟩ h [rowB v (aeadS key nonce a b)] w' ∧ True := by
  obtain ⟨_, ada, capa, rfl, hcapa, _⟩ := id ha
  obtain ⟨_, adb, capb, rfl, hcapb, _⟩ := id hb
  have k1 : (bcs key).length = 32 := by rw [bcs_len, hk32]
  have k2 : (bcs nonce).length = 12 := by rw [bcs_len, hn12]
  have S1 := Stream_sp key 1 nonce _ b hk hn hk32 hn12 (by omega) yb h hb
  have sl := streamF_len key 1 nonce b
  have sb : Bytes (streamF key 1 nonce b) := strmF_by _ _ _ _ _
  unfold aeadS
  generalize streamF key 1 nonce b = hd at S1 sl sb ⊢
  refine calls_enter Tryd.func34 rfl Tryd.ntmps34 rfl s ?_
  repeat' (first|(refine ycf ?_;apply ybk;(·first|(first|exact tk_|(apply yad;(·rfl);(·exact yaz 1 rfl);(·exact k1))|(apply yad;(·rfl);(·exact yaz 0 rfl);(·exact k2))));(·rfl);(·rfl))|refine t1_ ?_|(refine ta_ ?_;intro _)|((fail_if_success (refine ybi rfl ?_));refine ybj rfl ?_ ?_<;>(intro ht;rw [ht];first|replace ht := oet_ ht|replace ht := oef_ ht|skip))|(refine ych ?_;first|(refine ybw rfl ?_ ?_<;>intro ht)|(refine ybx rfl ?_ ?_<;>intro ht)))
  (refine yco (ycp Tryd.func41 rfl (by kernel_rfl) rfl) (S1) rfl rfl rfl ?_ ?_ ?_; (· (exact to_)); (· intro _ _ hle; (exact to_)); intro x px hle)
  refine rx_rowsl 0 rfl ?_
  rintro ad1 cap1 rfl
  clear px hle
  repeat' (first|(refine ycf ?_;apply ybk;(·first|(first|exact tk_|(apply yad;(·rfl);(·exact yaz 2 rfl);(·exact k1))|(apply yad;(·rfl);(·exact yaz 1 rfl);(·exact k2))));(·rfl);(·rfl))|refine t1_ ?_|(refine ta_ ?_;intro _)|((fail_if_success (refine ybi rfl ?_));refine ybj rfl ?_ ?_<;>(intro ht;rw [ht];first|replace ht := oet_ ht|replace ht := oef_ ht|skip))|(refine ych ?_;first|(refine ybw rfl ?_ ?_<;>intro ht)|(refine ybx rfl ?_ ?_<;>intro ht)))
  refine rx_call_lend 0 (ycp Tryd.func44 rfl (by kernel_rfl) rfl) rfl (fun h' hle' hsc w s => atag_sp _ (.slice ad1 hd.length cap1) key nonce a hd hk hn hk32 hn12 ya sb la (by omega) h' (ha.mono hle') hsc w s) rfl rfl rfl ybf ?_
  have tl := aeadT_len key nonce a hd
  generalize aeadT key nonce a hd = t at tl ⊢
  have hot : (bcs t).length = 16 := by rw [bcs_len, tl]
  repeat' (first|(refine ycf ?_;apply ybk;(·first|(first|exact tk_|exact qv_slice_arr rfl));(·rfl);(·rfl))|(refine ybg 0 rfl rfl rfl (by show (bcs t).toArray.size = 16;simpa using hot) (by show 0 + (bcs t).toArray.size ≤ _;rw [List.size_toArray, hot];exact nble rfl) (List.all_eq_true.2 (bcs_one t)) (ybh (by show (bcs t).length = _;rw [hot];rfl)) rfl rfl ?_ ?_ ?_;(·(exact to_));(·(exact to_)))|refine t1_ ?_|(refine ta_ ?_;intro _)|((fail_if_success (refine ybi rfl ?_));refine ybj rfl ?_ ?_<;>(intro ht;rw [ht];first|replace ht := oet_ ht|replace ht := oef_ ht|skip))|(refine ych ?_;first|(refine ybw rfl ?_ ?_<;>intro ht)|(refine ybx rfl ?_ ?_<;>intro ht)))
  refine rx_append (sz := 1) 1 rfl rfl rfl (yaz 0 rfl) (by show (bcs t).length = 16 * 1; exact hot) (bcs_one _) rfl (by omega) (by unfold maxLen; omega) (by omega) rfl rfl rfl ybf (fun _ => ybf) ?_
  intro v3 _
  repeat' (first|(refine ycf ?_;apply ybk;(·first|(first|exact tk_|exact qv_slice_arr rfl));(·rfl);(·rfl))|refine t1_ ?_|(refine ta_ ?_;intro _)|((fail_if_success (refine ybi rfl ?_));refine ybj rfl ?_ ?_<;>(intro ht;rw [ht];first|replace ht := oet_ ht|replace ht := oef_ ht|skip))|(refine ych ?_;first|(refine ybw rfl ?_ ?_<;>intro ht)|(refine ybx rfl ?_ ?_<;>intro ht)))
  refine nx_ret1 rfl (rv_tmp rfl) (fun w' s' => ⟨v3, rfl, ?_, trivial⟩)
  unfold rowB
  rw [List.length_append, tl, bcs_app]
  exact s'.picks [1]
end Go.Proofs.YtgeepceieckooaaDoor
end

section
namespace Go.Ck
open Go
set_option linter.unusedVariables false
set_option linter.unusedSimpArgs false
section
variable {P : Program} {n : Nat} {K : Bs} {F : List (Nat × Value)} {h : View} {L : List Res} {Q : Exit → Act → World → Prop}
variable {dst : Option Nat} {ty : Nat} {pos : String} {af : Array Edge} {gd : Option (Nat × Bool)}
theorem rx_append_full {g : Rg} {i : Nat} {r : List (Nat × Oper)} {T e : Nat} {x y : Operand} {z : Value} {sz by' m0 m c gb go : Nat} {ad : Addr} {xs news : List Value} [tu : TyU P T (.slice e)] [tb : TyB P e z sz by'] (hx : ev F x = some (.slice (some ⟨gb, go, none⟩) m0 m0)) (hy : ev F y = some (.slice (some ad) m c))
    (hold : Sc h sz (.slice (some ⟨gb, go, none⟩) m0 m0) m0 xs) (hnews : Cells h L ad news) (hl : news.length = m * sz) (hm : 0 < m) (hzs : z.cells.size = sz) (hsz : 0 < sz) (h63 : m0 + m ≤ maxLen) (hbytes : (m0 + m) * by' ≤ 140737488355328)
    (hw : wantedF g.ops F ⟨dst, .call ⟨.builtin .append, #[x, y], #[T, T]⟩, ty, pos, af, gd⟩ = some true) (hd : okd n dst = true) (hlo : g.lo i = true) (o1 : Owe g i h L)
    (o2 : ∀ v', Owe g i h (Res.row e sz v' (m0 + m) (xs ++ news) :: L))
    (hn : ∀ v', RX P n K g r (putF dst v' F) h (Res.row e sz v' (m0 + m) (xs ++ news) :: L) Q) :
    RX P n K g ((i, ⟨dst, .call ⟨.builtin .append, #[x, y], #[T, T]⟩, ty, pos, af, gd⟩) :: r) F h L Q := by
  unfold RX at *
  intro a w f s
  obtain ⟨ii, hi, hz, hsize, hby⟩ := tb.ex
  subst hsize
  subst hby
  have hlen : (xs ++ news).length = (m0 + m) * ii.size := by rw [List.length_append, hold.1, hl, Nat.add_mul]
  have hsmall : m0 + m ≤ 9223372036854775807 := by simp only [maxLen] at h63; omega
  have hr := run_append_grow (P := P) w T ty e ii z tu.u hi hz ⟨gb, go, none⟩ m0 m0 xs hold.1 (fun j u hj => hold.cells w s.hd j u hj) ad m c news hl (hnews w s.hd) (by omega) (by omega) (growslice_fits (by omega) hbytes)
  have hge := grownCap_ge w (m0 + m) m0 e
  have hcm := grownCap_le_maxLen w (m0 + m) m0 e h63
  generalize grownCap w (m0 + m) m0 e = cap at hr hge hcm
  have s1 := s.drew.alloc (.cells (xs.toArray ++ news.toArray ++ Builtin.zeroCells z.cells (cap - (m0 + m))) e)
  have s2 := s1.rowOf (k := ii.size) (m := m0 + m) (cap := cap) hge hcm (by
    simp only [Array.size_append, List.size_toArray, size_zeroCells, hzs, hold.1, hl, ← Nat.add_mul]
    congr 1
    omega)
  have ht : ((xs.toArray ++ news.toArray ++ Builtin.zeroCells z.cells (cap - (m0 + m))).toList.take ((m0 + m) * ii.size)) = xs ++ news := by
    simp only [Array.toList_append, List.append_assoc]
    rw [← List.append_assoc, ← hlen]
    exact List.take_left
  rw [ht] at s2
  refine .inr (.inr ⟨wantedF_ok f hw, hlo, o1.out s, ?_⟩)
  unfold Oper.wp
  have : (execOp a.eval ⟨dst, .call ⟨.builtin .append, #[x, y], #[T, T]⟩, ty, pos, af, gd⟩).run P w = .ok (.value (.slice (some ⟨w.heap.size, 0, none⟩) (m0 + m) cap)) (w.drew.alloc (.cells (xs.toArray ++ news.toArray ++ Builtin.zeroCells z.cells (cap - (m0 + m))) e)) := by
    simp [execOp, resolve, invoke, builtin, f.ev hx, f.ev hy, hr]
  rw [this]
  exact ⟨(o2 _).out s2, hn _ _ _ (f.put hd _) s2⟩
end
end Go.Ck
end

section
namespace Go.Proofs.YtgeepceieckooaaDoor
open Go Go.Ck
set_option maxRecDepth 100000
set_option maxHeartbeats 4000000
set_option linter.unusedVariables false
def useS : List Int := [115, 101, 97, 108]
def sealK (key : List Int) (ep : Int) : List Int := expandF key (useS ++ (putLow 8 ep).reverse)
theorem sealK_len (key : List Int) (ep : Int) : (sealK key ep).length = 32 := expandF_len _ _
theorem sealK_by (key : List Int) (ep : Int) : Bytes (sealK key ep) := expandF_by _ _
theorem kSeal_sp (key : List Int) (ep : Int) (hk : Bytes key) (hk32 : key.length = 32) (he : 1 ≤ ep ∧ ep ≤ 1048576) (h : View) (hg : ShG h) (w : World) (s : St ⟨w, h, []⟩ h [] w) :
    Calls Tryd.prog 43 [.agg (bcs key).toArray, .int .i64 ep].toArray w fun e w' => e = .returned (.tuple #[.agg (bcs (sealK key ep)).toArray, .int .i64 0]) ∧ St ⟨w, h, []⟩ h [] w' := by
  have hol : (bcs key).length = 32 := by rw [bcs_len, hk32]
  have hub : Bytes useS := by
    intro x hx
    simp only [useS, List.mem_cons, List.not_mem_nil, or_false] at hx
    omega
  have we : IntKind.u64.wrap ep = ep := wrap_u64 (by omega) (by omega)
  refine calls_enter Tryd.func43 rfl Tryd.ntmps43 rfl s ?_
  repeat' (first|(refine ycf ?_;apply ybk;(·first|(first|exact tk_|(refine qv_convert_int' rfl we)));(·rfl);(·rfl))|(refine ybg 0 rfl rfl rfl (by show (bcs key).toArray.size = 32;simpa using hol) (by show 0 + (bcs key).toArray.size ≤ _;rw [List.size_toArray, hol];exact nble rfl) (List.all_eq_true.2 (bcs_one key)) (ybh (by show (bcs key).length = _;rw [hol];rfl)) rfl rfl ?_ ?_ ?_;(·(exact to_));(·(exact to_)))|refine t1_ ?_|(refine ta_ ?_;intro _)|((fail_if_success (refine ybi rfl ?_));refine ybj rfl ?_ ?_<;>(intro ht;rw [ht];first|replace ht := oet_ ht|replace ht := oef_ ht|skip))|(refine ych ?_;first|(refine ybw rfl ?_ ?_<;>intro ht)|(refine ybx rfl ?_ ?_<;>intro ht)))
  refine rx_mark 0 rfl rfl rfl (by unfold maxLen; omega) rfl rfl rfl ybf ybf ?_
  refine rx_persist_s rfl fun h1 hle1 hu1 => ?_
  have hu1 : Sc h1 1 (.slice (some ⟨_, 0, none⟩) 4 4) 4 (bcs useS) := hu1
  repeat' (first|(refine ycf ?_;apply ybk;(·first|(first|exact tk_|(refine qv_convert_int' rfl we)));(·rfl);(·rfl))|refine t1_ ?_|(refine ta_ ?_;intro _)|((fail_if_success (refine ybi rfl ?_));refine ybj rfl ?_ ?_<;>(intro ht;rw [ht];first|replace ht := oet_ ht|replace ht := oef_ ht|skip))|(refine ych ?_;first|(refine ybw rfl ?_ ?_<;>intro ht)|(refine ybx rfl ?_ ?_<;>intro ht)))
  (refine yco (ycp Tryd.func40 rfl (by kernel_rfl) rfl) (PutHigh_sp ep 8 ⟨by omega, by omega⟩ (by omega) (by omega) h1) rfl rfl rfl ?_ ?_ ?_; (· (exact to_)); (· intro _ _ hle; (exact to_)); intro x px hle)
  have p8 := putLow_len 8 ep
  have pb := putLow_bytes' 8 ep
  have pl : (putLow 8 ep).reverse.length = 8 := by rw [List.length_reverse, p8]
  unfold sealK
  have hul : (useS ++ (putLow 8 ep).reverse).length = 12 := by rw [List.length_append, pl]; rfl
  have hyl : Bytes (useS ++ (putLow 8 ep).reverse) := cbytes_app hub pb
  refine rx_rowform 0 rfl (fun _ h1 _ => (by omega)) ?_
  rintro g8 cap8 rfl
  refine rx_append_full (sz := 1) rfl rfl hu1 (row_cells 0 rfl) (by rw [bcs_len, Nat.mul_one]) (by omega) rfl (by omega) (by unfold maxLen; rw [pl]; omega) (by rw [pl]; omega) rfl rfl rfl ybf (fun _ => ybf) ?_
  intro v1
  rw [← bcs_app, pl]
  refine rx_persist rfl fun h2 hle2 hv2 => ?_
  have hv2 : Sc h2 1 v1 12 (bcs (useS ++ (putLow 8 ep).reverse)) := hv2
  generalize useS ++ (putLow 8 ep).reverse = us at hul hyl hv2 ⊢
  have hv2 : Bs8 h2 v1 us := by unfold Bs8; rw [hul]; exact hv2
  obtain ⟨_, adu, capu, rfl, hcapu, _⟩ := id hv2
  clear px hle
  repeat' (first|refine tw_ ?_|(refine ta_ ?_;intro _)|((fail_if_success (refine ybi rfl ?_));refine ybj rfl ?_ ?_<;>(intro ht;rw [ht];first|replace ht := oet_ ht|replace ht := oef_ ht|skip))|(refine ych ?_;first|(refine ybw rfl ?_ ?_<;>intro ht)|(refine ybx rfl ?_ ?_<;>intro ht)))
  refine rx_perm (perm_at (k := 2) rfl) ?_
  refine rx_arr_view rfl hk32 fun h3 hle3 hm3 => ?_
  repeat' (first|(refine ycf ?_;apply ybk;(·first|(exact qv_slice_arr rfl));(·rfl);(·rfl))|refine t1_ ?_|(refine ta_ ?_;intro _)|((fail_if_success (refine ybi rfl ?_));refine ybj rfl ?_ ?_<;>(intro ht;rw [ht];first|replace ht := oet_ ht|replace ht := oef_ ht|skip))|(refine ych ?_;first|(refine ybw rfl ?_ ?_<;>intro ht)|(refine ybx rfl ?_ ?_<;>intro ht)))
  (refine yco (ycp Tryd.func38 rfl (by kernel_rfl) rfl) (expand_sp _ _ key us hk ⟨by omega, by omega⟩ hyl (by omega) h3 (by rw [hk32] at *; exact hm3) (hv2.mono hle3) (((hg.mono hle1).mono hle2).mono hle3)) rfl rfl rfl ?_ ?_ ?_; (· (exact to_)); (· intro _ _ hle; (exact to_)); intro x px hle)
  obtain ⟨h4, vk⟩ := x
  clear hle
  dsimp only at px ⊢
  have hkl := expandF_len key us
  generalize expandF key us = kk at hkl px ⊢
  obtain ⟨_, adk, capk, rfl, hcapk, _⟩ := id px
  obtain ⟨bk, ok, rfl⟩ := px.ad (by omega) (by omega)
  have hol2 : (bcs kk).length = 32 := by rw [bcs_len, hkl]
  repeat' (first|(refine ycf ?_;apply ybk;(·first|(first|exact tk_|(refine qv_arrptr rfl (by omega))|(apply yad;(·rfl);(·exact px.cells);(·exact hol2))));(·rfl);(·rfl))|(refine ybg 1 rfl rfl rfl (by show (bcs kk).toArray.size = 32;simpa using hol2) (by show 0 + (bcs kk).toArray.size ≤ _;rw [List.size_toArray, hol2];exact nble rfl) (List.all_eq_true.2 (bcs_one kk)) (ybh (by show (bcs kk).length = _;rw [hol2];rfl)) rfl rfl ?_ ?_ ?_;(·(exact to_));(·(exact to_)))|refine t1_ ?_|(refine ta_ ?_;intro _)|((fail_if_success (refine ybi rfl ?_));refine ybj rfl ?_ ?_<;>(intro ht;rw [ht];first|replace ht := oet_ ht|replace ht := oef_ ht|skip))|(refine ych ?_;first|(refine ybw rfl ?_ ?_<;>intro ht)|(refine ybx rfl ?_ ?_<;>intro ht)))
  exact nx_ret2 rfl (rv_cells rfl (yaz 1 rfl) (by show (bcs kk).toArray.toList.length = 32; simpa using hol2)) (rv_tmp rfl) (fun w' s' => ⟨rfl, s'.nil.base⟩)
theorem vkeys_sp (bv : Nat) (idl : Bool) (key : List Int) (a b c : Nat) (ep cl ct : Int) (hk : Bytes key) (hk32 : key.length = 32) (hok : sealOk ep cl ct) (h : View) (hv : Vb h bv idl key a b c) (hg : ShG h) (w : World) (s : St ⟨w, h, []⟩ h [] w) :
    Calls Tryd.prog 33 [.pointer (some ⟨bv, 0, none⟩), .int .i64 ep, .int .i64 cl, .int .i64 ct].toArray w fun e w' => e = .returned (.tuple #[.agg (bcs (sealK key ep)).toArray, .agg (bcs (nonceF cl ct)).toArray, .int .i64 0]) ∧ St ⟨w, h, []⟩ h [] w' := by
  have N1 := Nonce_sp cl ct h
  rw [if_pos hok.1] at N1
  have hnl := nonceF_len cl ct
  have hskl := sealK_len key ep
  have K1 := kSeal_sp key ep hk hk32 ⟨hok.2.1, hok.2.2⟩ h hg
  generalize nonceF cl ct = nn at N1 hnl ⊢
  generalize sealK key ep = kk at K1 hskl ⊢
  have hol : (bcs kk).length = 32 := by rw [bcs_len, hskl]
  have hon : (bcs nn).length = 12 := by rw [bcs_len, hnl]
  refine calls_enter Tryd.func33 rfl Tryd.ntmps33 rfl s ?_
  repeat' (first|(refine ycf ?_;apply ybk;(·first|(first|exact tk_|(apply qv_nilCheck;rfl)|(apply yad;(·rfl);(·exact hv.kb);(·rw [bcs_len, hk32]))));(·rfl);(·rfl))|(refine ybg 1 rfl rfl rfl (by show (bcs kk).toArray.size = 32;simpa using hol2) (by show 0 + (bcs kk).toArray.size ≤ _;rw [List.size_toArray, hol2];exact nble rfl) (List.all_eq_true.2 (bcs_one kk)) (ybh (by show (bcs kk).length = _;rw [hol2];rfl)) rfl rfl ?_ ?_ ?_;(·(exact to_));(·(exact to_)))|refine t1_ ?_|(refine ta_ ?_;intro _)|((fail_if_success (refine ybi rfl ?_));refine ybj rfl ?_ ?_<;>(intro ht;rw [ht];first|replace ht := oet_ ht|replace ht := oef_ ht|skip))|(refine ych ?_;first|(refine ybw rfl ?_ ?_<;>intro ht)|(refine ybx rfl ?_ ?_<;>intro ht)))
  (refine ycn (ycp Tryd.func43 rfl (by kernel_rfl) rfl) (K1) rfl rfl rfl ?_ ?_; (· (exact to_)))
  repeat' (first|(refine ycf ?_;apply ybk;(·first|(first|exact tk_|(apply qv_nilCheck;rfl)|(apply yad;(·rfl);(·exact hv.kb);(·rw [bcs_len, hk32]))));(·rfl);(·rfl))|(first|(refine ybg 0 rfl rfl rfl (by show (bcs kk).toArray.size = 32;simpa using hol) (by show 0 + (bcs kk).toArray.size ≤ _;rw [List.size_toArray, hol];exact nble rfl) (List.all_eq_true.2 (bcs_one kk)) (ybh (by show (bcs kk).length = _;rw [hol];rfl)) rfl rfl ?_ ?_ ?_;(·(exact to_));(·(exact to_))))|refine t1_ ?_|(refine ta_ ?_;intro _)|((fail_if_success (refine ybi rfl ?_));refine ybj rfl ?_ ?_<;>(intro ht;rw [ht];first|replace ht := oet_ ht|replace ht := oef_ ht|skip))|(refine ych ?_;first|(refine ybw rfl ?_ ?_<;>intro ht)|(refine ybx rfl ?_ ?_<;>intro ht)))
  (refine ycn (ycp Tryd.func42 rfl (by kernel_rfl) rfl) (N1) rfl rfl rfl ?_ ?_; (· (exact to_)))
  repeat' (first|(refine ycf ?_;apply ybk;(·first|(first|exact tk_|(apply yad;(·rfl);(·exact yaz 1 rfl);(·exact hol))|(apply yad;(·rfl);(·exact yaz 0 rfl);(·exact hon))));(·rfl);(·rfl))|(first|(refine ybg 0 rfl rfl rfl (by show (bcs nn).toArray.size = 12;simpa using hon) (by show 0 + (bcs nn).toArray.size ≤ _;rw [List.size_toArray, hon];exact nble rfl) (List.all_eq_true.2 (bcs_one nn)) (ybh (by show (bcs nn).length = _;rw [hon];rfl)) rfl rfl ?_ ?_ ?_;(·(exact to_));(·(exact to_)))|(refine ybg 3 rfl rfl rfl (by show (bcs kk).toArray.size = 32;simpa using hol) (by show 0 + (bcs kk).toArray.size ≤ _;rw [List.size_toArray, hol];exact nble rfl) (List.all_eq_true.2 (bcs_one kk)) (ybh (by show (bcs kk).length = _;rw [hol];rfl)) rfl rfl ?_ ?_ ?_;(·(exact to_));(·(exact to_)))|(refine ybg 2 rfl rfl rfl (by show (bcs nn).toArray.size = 12;simpa using hon) (by show 0 + (bcs nn).toArray.size ≤ _;rw [List.size_toArray, hon];exact nble rfl) (List.all_eq_true.2 (bcs_one nn)) (ybh (by show (bcs nn).length = _;rw [hon];rfl)) rfl rfl ?_ ?_ ?_;(·(exact to_));(·(exact to_))))|refine t1_ ?_|(refine ta_ ?_;intro _)|((fail_if_success (refine ybi rfl ?_));refine ybj rfl ?_ ?_<;>(intro ht;rw [ht];first|replace ht := oet_ ht|replace ht := oef_ ht|skip))|(refine ych ?_;first|(refine ybw rfl ?_ ?_<;>intro ht)|(refine ybx rfl ?_ ?_<;>intro ht)))
  rename_i b8 b9 b11 b13
  refine cx_region_draw [Res.blk b13 (.cells (bcs nn).toArray 84 (0, 0)), Res.blk b11 (.cells (bcs kk).toArray 25 (0, 0))] rfl (by kernel_rfl) ?_
  repeat' (refine ycf ?_;(first|(first|(apply ybm;(·(first|(first|exact tk_|(apply yad;(·rfl);(·exact yaz 1 rfl);(·exact hol))|(apply yad;(·rfl);(·exact yaz 0 rfl);(·exact hon)))|exact tq_));(·rfl);(·rfl);(·(exact fun _ s => Hd.sub s (Le.refl h) (fun r hr => List.mem_append_left [_, _] hr))))|refine ybl rfl rfl ?_|((fail_if_success (refine ybi rfl ?_));refine ybj rfl ?_ ?_<;>(intro ht;rw [ht];first|replace ht := oet_ ht|replace ht := oef_ ht|skip))|(refine tb_ ?_ ?_ ?_;(·(first|exact ybf|(refine .inl ?_;(exact fun _ s => Hd.sub s (Le.refl h) (fun r hr => List.mem_append_left [_, _] hr)))|exact to_));(·intro _;(first|exact ybf|(refine .inl ?_;(exact fun _ s => Hd.sub s (Le.refl h) (fun r hr => List.mem_append_left [_, _] hr)))|exact to_));intro _)|(first|(first|(refine ybg 0 rfl rfl rfl (by show (bcs nn).toArray.size = 12;simpa using hon) (by show 0 + (bcs nn).toArray.size ≤ _;rw [List.size_toArray, hon];exact nble rfl) (List.all_eq_true.2 (bcs_one nn)) (ybh (by show (bcs nn).length = _;rw [hon];rfl)) rfl rfl ?_ ?_ ?_;(·(first|exact ybf|(refine .inl ?_;(exact fun _ s => Hd.sub s (Le.refl h) (fun r hr => List.mem_append_left [_, _] hr)))|exact to_));(·(first|exact ybf|(refine .inl ?_;(exact fun _ s => Hd.sub s (Le.refl h) (fun r hr => List.mem_append_left [_, _] hr)))|exact to_)))|(refine ybg 3 rfl rfl rfl (by show (bcs kk).toArray.size = 32;simpa using hol) (by show 0 + (bcs kk).toArray.size ≤ _;rw [List.size_toArray, hol];exact nble rfl) (List.all_eq_true.2 (bcs_one kk)) (ybh (by show (bcs kk).length = _;rw [hol];rfl)) rfl rfl ?_ ?_ ?_;(·(first|exact ybf|(refine .inl ?_;(exact fun _ s => Hd.sub s (Le.refl h) (fun r hr => List.mem_append_left [_, _] hr)))|exact to_));(·(first|exact ybf|(refine .inl ?_;(exact fun _ s => Hd.sub s (Le.refl h) (fun r hr => List.mem_append_left [_, _] hr)))|exact to_)))|(refine ybg 2 rfl rfl rfl (by show (bcs nn).toArray.size = 12;simpa using hon) (by show 0 + (bcs nn).toArray.size ≤ _;rw [List.size_toArray, hon];exact nble rfl) (List.all_eq_true.2 (bcs_one nn)) (ybh (by show (bcs nn).length = _;rw [hon];rfl)) rfl rfl ?_ ?_ ?_;(·(first|exact ybf|(refine .inl ?_;(exact fun _ s => Hd.sub s (Le.refl h) (fun r hr => List.mem_append_left [_, _] hr)))|exact to_));(·(first|exact ybf|(refine .inl ?_;(exact fun _ s => Hd.sub s (Le.refl h) (fun r hr => List.mem_append_left [_, _] hr)))|exact to_))))|(refine tqs_ ?_ ?_ ?_;(·(first|exact ybf|(refine .inl ?_;(exact fun _ s => Hd.sub s (Le.refl h) (fun r hr => List.mem_append_left [_, _] hr)))|exact to_));(·(first|exact ybf|(refine .inl ?_;(exact fun _ s => Hd.sub s (Le.refl h) (fun r hr => List.mem_append_left [_, _] hr)))|exact to_))))|(apply ybn;(·(first|(first|exact tk_|(apply yad;(·rfl);(·exact yaz 1 rfl);(·exact hol))|(apply yad;(·rfl);(·exact yaz 0 rfl);(·exact hon)))|exact tq_));(·rfl);(·rfl);(·rfl);(·(first|exact ybf|(refine .inl ?_;(exact fun _ s => Hd.sub s (Le.refl h) (fun r hr => List.mem_append_left [_, _] hr)))|exact to_))))|refine ycg ?_))
  repeat' (first|(refine ycf ?_;apply ybk;(·first|(first|exact tk_|(apply yad;(·rfl);(·exact yaz 1 rfl);(·exact hol))|(apply yad;(·rfl);(·exact yaz 0 rfl);(·exact hon))));(·rfl);(·rfl))|(first|(refine ybg 0 rfl rfl rfl (by show (bcs nn).toArray.size = 12;simpa using hon) (by show 0 + (bcs nn).toArray.size ≤ _;rw [List.size_toArray, hon];exact nble rfl) (List.all_eq_true.2 (bcs_one nn)) (ybh (by show (bcs nn).length = _;rw [hon];rfl)) rfl rfl ?_ ?_ ?_;(·(first|exact ybf|(refine .inl ?_;(exact fun _ s => Hd.sub s (Le.refl h) (fun r hr => List.mem_append_left [_, _] hr)))|exact to_));(·(first|exact ybf|(refine .inl ?_;(exact fun _ s => Hd.sub s (Le.refl h) (fun r hr => List.mem_append_left [_, _] hr)))|exact to_)))|(refine ybg 3 rfl rfl rfl (by show (bcs kk).toArray.size = 32;simpa using hol) (by show 0 + (bcs kk).toArray.size ≤ _;rw [List.size_toArray, hol];exact nble rfl) (List.all_eq_true.2 (bcs_one kk)) (ybh (by show (bcs kk).length = _;rw [hol];rfl)) rfl rfl ?_ ?_ ?_;(·(first|exact ybf|(refine .inl ?_;(exact fun _ s => Hd.sub s (Le.refl h) (fun r hr => List.mem_append_left [_, _] hr)))|exact to_));(·(first|exact ybf|(refine .inl ?_;(exact fun _ s => Hd.sub s (Le.refl h) (fun r hr => List.mem_append_left [_, _] hr)))|exact to_)))|(refine ybg 2 rfl rfl rfl (by show (bcs nn).toArray.size = 12;simpa using hon) (by show 0 + (bcs nn).toArray.size ≤ _;rw [List.size_toArray, hon];exact nble rfl) (List.all_eq_true.2 (bcs_one nn)) (ybh (by show (bcs nn).length = _;rw [hon];rfl)) rfl rfl ?_ ?_ ?_;(·(first|exact ybf|(refine .inl ?_;(exact fun _ s => Hd.sub s (Le.refl h) (fun r hr => List.mem_append_left [_, _] hr)))|exact to_));(·(first|exact ybf|(refine .inl ?_;(exact fun _ s => Hd.sub s (Le.refl h) (fun r hr => List.mem_append_left [_, _] hr)))|exact to_))))|refine t1_ ?_|(refine ta_ ?_;intro _)|((fail_if_success (refine ybi rfl ?_));refine ybj rfl ?_ ?_<;>(intro ht;rw [ht];first|replace ht := oet_ ht|replace ht := oef_ ht|skip))|(refine ych ?_;first|(refine ybw rfl ?_ ?_<;>intro ht)|(refine ybx rfl ?_ ?_<;>intro ht)))
  exact nx_ret3 rfl (rv_cells rfl (yaz 3 rfl) (by show (bcs kk).toArray.toList.length = 32; simpa using hol)) (rv_cells rfl (yaz 2 rfl) (by show (bcs nn).toArray.toList.length = 12; simpa using hon)) (rv_tmp rfl) (fun w' s' => ⟨rfl, s'.nil⟩)
end Go.Proofs.YtgeepceieckooaaDoor
end

section
namespace Go.Proofs.YtgeepceieckooaaDoor
open Go Go.Ck
set_option maxRecDepth 100000
set_option maxHeartbeats 4000000
set_option linter.unusedVariables false
def inF (del : Bool) (val : List Int) : List Int := if del then [0] else 1 :: val
theorem inF_by {del : Bool} {val : List Int} (h : Bytes val) : Bytes (inF del val) := by
  unfold inF
  split
  · intro x hx; rw [List.mem_singleton.1 hx]; omega
  · intro x hx
    rcases List.mem_cons.1 hx with rfl | hx
    · omega
    · exact h x hx
theorem inF_len {del : Bool} {val : List Int} (h : del = false → val.length ≤ 3999) : (inF del val).length ≤ 4000 := by
  unfold inF
  split
  · simp
  · rename_i hd
    have := h (by simpa using hd)
    simp; omega
theorem Hdr.ok.sealk {q : Hdr} (h : q.ok) : sealOk q.ep q.cl q.ct := by
  obtain ⟨⟨e1, e2⟩, ⟨c1, c2⟩, ⟨d1, d2⟩, ⟨n1, n2⟩, pl⟩ := h
  exact ⟨⟨d1, d2, c1, c2⟩, e1, e2⟩
def zEnv : Array Value := (envc (List.replicate 32 0) ⟨0, 0, 0, 0, []⟩ (.slice none 0 0) (.slice none 0 0)).toArray
theorem boundF_len {key : List Int} {q : Hdr} (hk : key.length = 32) : (boundF key q).length = 68 + q.past.length := by
  simp only [boundF, num8, List.length_append, List.length_reverse, putLow_len, num4_len]
  omega
theorem spl_seal {key : List Int} {q : Hdr} {pv s0 sv : Value} (hk : key.length = 32) : spl (envc key q pv s0) (0 + 37) [sv] = envc key q pv sv := by
  have hb : (bcs key).length = 32 := by rw [bcs_len, hk]
  unfold envc hdc
  generalize bcs key = l at hb ⊢
  have t37 : l.take 37 = l := List.take_of_length_le (by omega)
  have d38 : l.drop 38 = [] := List.drop_eq_nil_of_le (by omega)
  simp [spl, hb, List.take_append, List.drop_append, t37, d38]
theorem fill_env {key : List Int} {q : Hdr} {pv : Value} (hol : (bcs key).length = 32) : fillL (fun i : Nat => ([(0, 32), (32, 5), (37, 1)] : List (Nat × Nat))[i]?) zEnv.toList [(0, .agg (bcs key).toArray), (1, .agg (hdc q pv).toArray)] = some (envc key q pv (.slice none 0 0)) := by
  have hz : zEnv.toList = List.replicate 32 (.int .u8 0) ++ [.int .i64 0, .int .i64 0, .int .i64 0, .int .i64 0, .slice none 0 0, .slice none 0 0] := rfl
  rw [hz]
  unfold envc hdc
  generalize bcs key = l at hol ⊢
  have d37 : l.drop 37 = [] := List.drop_eq_nil_of_le (by omega)
  simp [fillL, spl, hol, Value.cells, List.drop_append, d37]
theorem ESeal_sp (bv : Nat) (key : List Int) (bn bu bt : Nat) (N : List (List Int)) (U : List UseK) (T : Tab) (nm val : List Int) (vn vv pv : Value) (q : Hdr) (del : Bool) (hk : Bytes key) (hk32 : key.length = 32)
    (hN : Names N) (hNl : N.length < 900000) (hU : U.length < 900000) (hT : Held U T) (hnm : Bytes nm) (hnl : 1 ≤ nm.length ∧ nm.length ≤ 64) (hok : q.ok) (hnew : (q.cl, q.ct) ∉ U) (yv : Bytes val) (hvl : del = false → val.length ≤ 3999)
    (h : View) (hv : Vb h bv true key bn bu bt) (hsn : Bs8 h vn nm) (hsv : Bs8 h vv val) (hsp : Bs8 h pv q.past) (w : World) (s : St ⟨w, h, doms [nmR bn N, usR bu U, tbR bt T]⟩ h [nmR bn N, usR bu U, tbR bt T] w) :
    Calls Tryd.prog 6 [.pointer (some ⟨bv, 0, none⟩), vn, .agg (hdc q pv).toArray, vv, .bool del].toArray w fun e w' => ∃ y : View × Value × Value × Value, e = .returned (.tuple #[.agg (envc (blindF key N nm) q y.2.1 y.2.2.1).toArray, .int .i64 0]) ∧
      St ⟨w, h, doms [nmR bn N, usR bu U, tbR bt T]⟩ y.1 [rowB y.2.1 q.past, rowB y.2.2.1 (sealF key U (padW (inF del val))), nmR bn (addN N nm), usR bu (U ++ [(q.cl, q.ct)]),
        tbR bt (T ++ [((q.cl, q.ct, q.ep, bstr (boundF (blindF key N nm) q), bstr (sealF key U (padW (inF del val)))), y.2.2.2, padW (inF del val))])] w' ∧ Bs8 y.1 y.2.2.2 (padW (inF del val)) := by
  obtain ⟨_, adn, capn, rfl, hcapn, _⟩ := id hsn
  obtain ⟨_, adv, capv, rfl, hcapv, _⟩ := id hsv
  obtain ⟨_, adp, capp, rfl, hcapp, _⟩ := id hsp
  have HR := hright_sp q _ h hsp
  have HN := name_sp _ nm h hsn
  have e1 : decide q.ok = true := by simpa using hok
  have e2 : decide (1 ≤ nm.length ∧ nm.length ≤ 64) = true := by simpa using hnl
  rw [e1] at HR
  rw [e2] at HN
  refine calls_enter Tryd.func6 rfl Tryd.ntmps6 rfl s ?_
  repeat' (first|(refine ycf ?_;apply ybk;(·first|(first|exact tk_|(apply qv_eql_pnil<;>rfl)|(apply qv_nilCheck;rfl)));(·rfl);(·rfl))|refine t1_ ?_|(refine ta_ ?_;intro _)|((fail_if_success (refine ybi rfl ?_));refine ybj rfl ?_ ?_<;>(intro ht;rw [ht];first|replace ht := oet_ ht|replace ht := oef_ ht|skip))|(refine ych ?_;first|(refine ybw rfl ?_ ?_<;>intro ht)|(refine ybx rfl ?_ ?_<;>intro ht)))
  (refine ycn (ycp Tryd.func12 rfl (by kernel_rfl) rfl) (HN) rfl rfl rfl ?_ ?_; (· (exact to_)))
  repeat' (first|(refine ycf ?_;apply ybk;(·first|(first|exact tk_|(apply qv_eql_pnil<;>rfl)|(apply qv_nilCheck;rfl)));(·rfl);(·rfl))|refine t1_ ?_|(refine ta_ ?_;intro _)|((fail_if_success (refine ybi rfl ?_));refine ybj rfl ?_ ?_<;>(intro ht;rw [ht];first|replace ht := oet_ ht|replace ht := oef_ ht|skip))|(refine ych ?_;first|(refine ybw rfl ?_ ?_<;>intro ht)|(refine ybx rfl ?_ ?_<;>intro ht)))
  (refine ycn (ycp Tryd.func13 rfl (by kernel_rfl) rfl) (HR) rfl rfl rfl ?_ ?_; (· (exact to_)))
  iterate 12 (first|(refine ycf ?_;apply ybk;(·first|(exact tk_));(·rfl);(·rfl))|refine t1_ ?_|(refine ta_ ?_;intro _)|((fail_if_success (refine ybi rfl ?_));refine ybj rfl ?_ ?_<;>(intro ht;rw [ht];first|replace ht := oet_ ht|replace ht := oef_ ht|skip))|(refine ych ?_;first|(refine ybw rfl ?_ ?_<;>intro ht)|(refine ybx rfl ?_ ?_<;>intro ht)))
  rename_i b7 b10 bi
  refine yby ?_
  refine ybo ?_
  have hil := inF_len hvl
  have hiy := inF_by (del := del) yv
  refine cx_cut (X := Value) (fun y => [(0, .pointer (some ⟨bv, 0, none⟩)), (1, .slice adn nm.length capn), (7, .pointer (some ⟨b7, 0, none⟩)), (10, .pointer (some ⟨b10, 0, none⟩)), (12, y)]) (fun _ => h) (fun y => [rowB y (inF del val), Res.blk b10 (.cells zEnv 32 (0, 0)), Res.blk b7 (.cells (hdc q (.slice adp q.past.length capp)).toArray 30 (0, 0)), nmR bn N, usR bu U, tbR bt T]) (fun _ => True) ?_ ?_
  · cases del with
    | true =>
      repeat' (first|(refine ycf ?_;apply ybk;(·first|(exact tk_));(·rfl);(·rfl))|refine t1_ ?_|(refine ta_ ?_;intro _)|((fail_if_success (refine ybi rfl ?_));refine ybj rfl ?_ ?_<;>(intro ht;rw [ht];first|replace ht := oet_ ht|replace ht := oef_ ht|skip))|(refine ych ?_;first|(refine ybw rfl ?_ ?_<;>intro ht)|(refine ybx rfl ?_ ?_<;>intro ht)))
      refine nx_cut (.slice (some ⟨bi, 0, none⟩) 1 1) trivial ts_ (fun w' s' => ?_)
      exact s'.rowOf (k := 1) (m := 1) (cap := 1) (Nat.le_refl _) (by unfold maxLen; omega) rfl
    | false =>
      have hvl := hvl rfl
      repeat' (first|(refine ycf ?_;apply ybk;(·first|(exact tk_));(·rfl);(·rfl))|refine t1_ ?_|(refine ta_ ?_;intro _)|((fail_if_success (refine ybi rfl ?_));refine ybj rfl ?_ ?_<;>(intro ht;rw [ht];first|replace ht := oet_ ht|replace ht := oef_ ht|skip))|(refine ych ?_;first|(refine ybw rfl ?_ ?_<;>intro ht)|(refine ybx rfl ?_ ?_<;>intro ht)))
      refine rx_rowOf 1 1 1 (Nat.le_refl _) (by unfold maxLen; omega) rfl ?_
      refine rx_append_sc (sz := 1) 0 rfl rfl rfl hsv (bcs_one val) rfl (by omega) (by unfold maxLen; omega) (by omega) rfl rfl rfl ybf (fun _ => ybf) ?_
      intro v2 _
      repeat' (first|(refine ycf ?_;apply ybk;(·first|(exact tk_));(·rfl);(·rfl))|refine t1_ ?_|(refine ta_ ?_;intro _)|((fail_if_success (refine ybi rfl ?_));refine ybj rfl ?_ ?_<;>(intro ht;rw [ht];first|replace ht := oet_ ht|replace ht := oef_ ht|skip))|(refine ych ?_;first|(refine ybw rfl ?_ ?_<;>intro ht)|(refine ybx rfl ?_ ?_<;>intro ht)))
      refine nx_cut v2 trivial ts_ (fun w' s' => ?_)
      have s2 := (s'.perm (perm_at (k := 1) rfl)).tl
      have e : (inF false val).length = 1 + val.length := by simp [inF]; omega
      unfold rowB
      rw [e]
      exact s2
  intro vi _
  generalize inF del val = ins at *
  have hpd := padW_len hil
  have hsz := sizeF_bd (n := (ins.length : Nat)) (by omega) (by omega)
  refine yby ?_
  repeat' (first|(refine ycf ?_;apply ybk;(·first|(exact tk_));(·rfl);(·rfl))|refine t1_ ?_|(refine ta_ ?_;intro _)|((fail_if_success (refine ybi rfl ?_));refine ybj rfl ?_ ?_<;>(intro ht;rw [ht];first|replace ht := oet_ ht|replace ht := oef_ ht|skip))|(refine ych ?_;first|(refine ybw rfl ?_ ?_<;>intro ht)|(refine ybx rfl ?_ ?_<;>intro ht)))
  refine rx_call_lendx (u := fun y : Value => .tuple #[y, .int .i64 0]) (LL := fun y => [rowB y (padW ins)]) 0 (ycp Tryd.func14 rfl (by kernel_rfl) rfl) rfl (fun h' _ hsc w s => Pad_sp vi ins hil h' hsc w s) rfl rfl rfl ybf (fun _ => ybf) ?_
  intro vp
  refine rx_persistA (by intro z hz; simp only [doms, List.flatMap_cons, List.flatMap_nil, List.mem_append, Res.mp, List.mem_singleton] at hz ⊢; simp; rcases hz with hz | hz | hz; (· simp_all); (· simp_all); (· simp_all)) fun h1 hle1 hvp => ?_
  have hvp : Bs8 h1 vp (padW ins) := hvp
  obtain ⟨_, adq, capq, rfl, hcapq, _⟩ := id hvp
  have hv1 := hv.mono hle1
  have hsn1 := hsn.mono hle1
  have hsp1 := hsp.mono hle1
  repeat' (first|(refine ycf ?_;apply ybk;(·first|(exact tk_));(·rfl);(·rfl))|refine t1_ ?_|(refine ta_ ?_;intro _)|((fail_if_success (refine ybi rfl ?_));refine ybj rfl ?_ ?_<;>(intro ht;rw [ht];first|replace ht := oet_ ht|replace ht := oef_ ht|skip))|(refine ych ?_;first|(refine ybw rfl ?_ ?_<;>intro ht)|(refine ybx rfl ?_ ?_<;>intro ht)))
  (refine rx_call_m (ycp Tryd.func15 rfl (by kernel_rfl) rfl) (perm_at (k := 3) rfl) (Blind_sp bv key bn bu bt N _ nm hk hk32 hN hNl hnm hnl h1 hv1 hsn1) rfl rfl rfl ?_ ?_ ?_; (· (exact to_)); (· intro _ _ hle; (exact to_)); intro x px hle)
  have hb32 : (blindF key N nm).length = 32 := drawF_len _ _ _ _ (by omega)
  have hby : Bytes (blindF key N nm) := drawF_by _ _ _ _
  generalize hbk : blindF key N nm = bk at hb32 hby ⊢
  have hol : (bcs bk).length = 32 := by rw [bcs_len, hb32]
  clear px hle
  repeat' (first|(refine ycf ?_;apply ybk;(·first|(exact tk_));(·rfl);(·rfl))|(refine ybg 0 rfl rfl rfl (by show (bcs bk).toArray.size = 32;simpa using hol) (by show 0 + (bcs bk).toArray.size ≤ _;rw [List.size_toArray, hol];exact nble rfl) (List.all_eq_true.2 (bcs_one bk)) (ybh (by show (bcs bk).length = _;rw [hol];rfl)) rfl rfl ?_ ?_ ?_;(·(exact to_));(·(exact to_)))|refine t1_ ?_|(refine ta_ ?_;intro _)|((fail_if_success (refine ybi rfl ?_));refine ybj rfl ?_ ?_<;>(intro ht;rw [ht];first|replace ht := oet_ ht|replace ht := oef_ ht|skip))|(refine ych ?_;first|(refine ybw rfl ?_ ?_<;>intro ht)|(refine ybx rfl ?_ ?_<;>intro ht)))
  have hpl : q.past.length ≤ 1000000 := by have := hok.2.2.2.2; omega
  (refine yco (ycp Tryd.func16 rfl (by kernel_rfl) rfl) (bclone_sp _ q.past h1 hsp1 hpl) rfl rfl rfl ?_ ?_ ?_; (· (exact to_)); (· intro _ _ hle; (exact to_)); intro x px hle)
  rename_i pc _ _
  refine rx_rowsl 0 rfl fun adx capx hpx => ?_
  subst hpx
  repeat' (first|(refine ycf ?_;apply ybk;(·first|(first|exact tk_|(apply yad;(·rfl);(·exact yaz 1 rfl);(·exact hol))|(apply yax (cs := envc bk q (.slice adx q.past.length capx) (.slice none 0 0));(·rfl);(·exact fill_env hol))));(·rfl);(·rfl))|refine t1_ ?_|(refine ta_ ?_;intro _)|((fail_if_success (refine ybi rfl ?_));refine ybj rfl ?_ ?_<;>(intro ht;rw [ht];first|replace ht := oet_ ht|replace ht := oef_ ht|skip))|(refine ych ?_;first|(refine ybw rfl ?_ ?_<;>intro ht)|(refine ybx rfl ?_ ?_<;>intro ht)))
  repeat' (first|(refine ycf ?_;apply ybk;(·first|(first|exact tk_|(apply yad;(·rfl);(·exact yaz 0 rfl);(·exact envc_len hb32))));(·rfl);(·rfl))|(refine ybg 0 rfl rfl rfl (by show (envc bk q _ _).toArray.size = 38;simpa using envc_len hb32) (by show 0 + (envc bk q _ _).toArray.size ≤ _;rw [List.size_toArray, envc_len hb32];exact nble rfl) (List.all_eq_true.2 (envc_one rfl rfl)) (ybh (by show (envc bk q _ _).length = _;rw [envc_len hb32];rfl)) rfl rfl ?_ ?_ ?_;(·(exact to_));(·(exact to_)))|refine t1_ ?_|(refine ta_ ?_;intro _)|((fail_if_success (refine ybi rfl ?_));refine ybj rfl ?_ ?_<;>(intro ht;rw [ht];first|replace ht := oet_ ht|replace ht := oef_ ht|skip))|(refine ych ?_;first|(refine ybw rfl ?_ ?_<;>intro ht)|(refine ybx rfl ?_ ?_<;>intro ht)))
  refine rx_call_lendx (u := fun y : Nat × Value => .pointer (some ⟨y.1, 0, none⟩)) (LL := fun y => [outR y.1 y.2 false, rowB y.2 (boundF bk q)]) 1 (ycp Tryd.func17 rfl (by kernel_rfl) rfl) rfl (fun h' _ hsc w s => bound_sp bk q _ _ hb32 hok rfl h' hsc w s) rfl rfl rfl ybf (fun _ => ybf) ?_
  rintro ⟨bo, vo⟩
  dsimp only
  have hbl := boundF_len (q := q) hb32
  repeat' (first|(refine ycf ?_;apply ybk;(·first|(exact tk_));(·rfl);(·rfl))|refine t1_ ?_|(refine ta_ ?_;intro _)|((fail_if_success (refine ybi rfl ?_));refine ybj rfl ?_ ?_<;>(intro ht;rw [ht];first|replace ht := oet_ ht|replace ht := oef_ ht|skip))|(refine ych ?_;first|(refine ybw rfl ?_ ?_<;>intro ht)|(refine ybx rfl ?_ ?_<;>intro ht)))
  (refine rx_call_2 (ycp Tryd.func18 rfl (by kernel_rfl) rfl) (Done_sp bo vo (boundF bk q) (by rw [hbl]; have := hok.2.2.2.2; omega) h1) rfl rfl rfl ?_ ?_ ?_; (· (exact to_)); (· intro _ _ hle; (exact to_)); intro x px hle)
  refine rx_persistA (by intro z hz; simp only [doms, List.flatMap_cons, List.flatMap_nil, List.mem_append, Res.mp, List.mem_singleton] at hz ⊢; simp; rcases hz with hz | hz | hz; (· simp_all); (· simp_all); (· simp_all)) fun h2 hle2 hvw => ?_
  have hvw : Bs8 h2 x (boundF bk q) := hvw
  obtain ⟨_, adw, capw, rfl, hcapw, _⟩ := id hvw
  have hv2 := hv1.mono hle2
  have hvp2 := hvp.mono hle2
  repeat' (first|(refine ycf ?_;apply ybk;(·first|(exact tk_)|(apply yae;(·rfl);(·(exact yay 8 rfl rfl))));(·rfl);(·rfl))|refine t1_ ?_|(refine ta_ ?_;intro _)|((fail_if_success (refine ybi rfl ?_));refine ybj rfl ?_ ?_<;>(intro ht;rw [ht];first|replace ht := oet_ ht|replace ht := oef_ ht|skip))|(refine ych ?_;first|(refine ybw rfl ?_ ?_<;>intro ht)|(refine ybx rfl ?_ ?_<;>intro ht)))
  have hpp : (padW ins).length ≤ 5000 := by omega
  refine rx_call_l (ycp Tryd.func19 rfl (by kernel_rfl) rfl) (pick2 9 9 rfl rfl) (VSeal_sp bv key bn bu bt U T q.ep q.cl q.ct _ _ (boundF bk q) (padW ins) hk hk32 hU hT hok.sealk hnew hpp h2 hv2 hvw hvp2) rfl rfl rfl ybf (fun _ _ _ => ybf) ?_
  rintro ⟨h3, vs, tv⟩ htv hle3
  dsimp only at htv hle3 ⊢
  refine rx_rowsl 0 rfl fun ads caps hps => ?_
  subst hps
  repeat' (first|(refine ycf ?_;apply ybk;(·first|(first|exact tk_|(apply yad;(·rfl);(·exact yaz 5 rfl);(·exact envc_len hb32))));(·rfl);(·rfl))|(first|(refine ybg 5 rfl rfl rfl rfl (by show 0 + 37 + 1 ≤ (envc bk q _ _).toArray.size;rw [List.size_toArray, envc_len hb32];omega) rfl (spl_seal hb32) rfl rfl ?_ ?_ ?_;(·(exact to_));(·(exact to_)))|(refine ybg 10 rfl rfl rfl (by show (envc bk q _ _).toArray.size = 38;simpa using envc_len hb32) (by show 0 + (envc bk q _ _).toArray.size ≤ _;rw [List.size_toArray, envc_len hb32];exact nble rfl) (List.all_eq_true.2 (envc_one rfl rfl)) (ybh (by show (envc bk q _ _).length = _;rw [envc_len hb32];rfl)) rfl rfl ?_ ?_ ?_;(·(exact to_));(·(exact to_))))|refine t1_ ?_|(refine ta_ ?_;intro _)|((fail_if_success (refine ybi rfl ?_));refine ybj rfl ?_ ?_<;>(intro ht;rw [ht];first|replace ht := oet_ ht|replace ht := oef_ ht|skip))|(refine ych ?_;first|(refine ybw rfl ?_ ?_<;>intro ht)|(refine ybx rfl ?_ ?_<;>intro ht)))
  refine nx_ret2 rfl (rv_cells rfl (yaz 10 rfl) (envc_len hb32)) (rv_tmp rfl) (fun w' s' => ⟨(h3, .slice adx q.past.length capx, .slice ads (sealF key U (padW ins)).length caps, tv), rfl, ?_, htv⟩)
  exact s'.picks [6, 0, 6, 0, 0]
end Go.Proofs.YtgeepceieckooaaDoor
end
