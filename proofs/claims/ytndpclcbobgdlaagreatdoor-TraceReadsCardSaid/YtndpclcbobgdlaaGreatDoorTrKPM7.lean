/-
  For every input the law TraceReads returns true, and the input reads as it did.
  Conditions: none.
-/
import Derived.Laws.MakeOwn
import Derived.Deep.Slices
import Derived.Carry
import Derived.DataReads
import Derived.DataShut
import GoSem.ClaimGoes
import Derived.Test.YtndpclcbobgdlaaGreatDoorRows
import Derived.WalkKit
import Derived.ProofKit
import Derived.OpenShut
import Derived.LaidMore
import Derived.Stop.Joined
import Derived.SevenTiedAt
import Derived.Test.YtndpclcbobgdlaaGreatDoorCards
import Derived.Test.YtndpclcbobgdlaaGreatDoorTie
import Derived.Test.YtndpclcbobgdlaaGreatDoorTrKPM6
section
namespace Go.Proofs.YtndpclcbobgdlaaGreatDoor
open Go Go.Ck
set_option maxRecDepth 100000
set_option maxHeartbeats 4000000
set_option linter.unusedVariables false
def r9 (ki cl ha bo k : Int) (nv vv sv rv : Value) : List Value := [.int .i64 ki, .int .i64 cl, .int .i64 ha, .int .i64 bo, .int .i64 k, nv, vv, sv, rv]
theorem endC_errT {s : RS} (h : s.2 ≠ 0) : endC s ≠ 0 := by
  unfold endC
  split
  · decide
  · exact h
theorem trp9_zero {s : RS} (h : (trp10 s).2.2 = 0) : (trp9 s).2.2 = 0 := by
  by_cases h9 : (trp9 s).2.2 = 0
  · exact h9
  · exfalso
    have : (trp10 s).2 = (trp9 s).2 := by unfold trp10; rw [byC_err h9]
    rw [this] at h
    exact h9 h
theorem rTRead_sp (l : List Int) (hb : Bytes l) (hl : l.length ≤ 1000000) (h : View) (w : World) (s : St ⟨w, h, []⟩ h [] w) :
    Calls Tryz.prog 12 [.string (bstr l)].toArray w fun en w' => ∃ x : View × Value × List Ts, en = .returned (.tuple #[x.2.1, .bool (trS l).1]) ∧ St ⟨w, h, []⟩ x.1 [] w' ∧ (Rts x.1 x.2.1 x.2.2 ∧ x.2.2.map Ts.a = (trS l).2) := by
  have hok0 : RsOk (tmS l).2 := tmS_ok hb hl
  have hbd := tmS_bd hb hl
  refine calls_enter Tryz.func12 rfl Tryz.ntmps12 rfl s ?_
  repeat' (first|refine tw_ ?_|(refine ta_ ?_;intro _)|((fail_if_success (refine ybi rfl ?_));refine ybj rfl ?_ ?_<;>(intro ht;rw [ht];first|replace ht := oet_ ht|replace ht := oef_ ht|skip))|(refine ych ?_;first|(refine ybw rfl ?_ ?_<;>intro ht)|(refine ybx rfl ?_ ?_<;>intro ht)))
  rename_i bi
  (refine rx_call_m (ycp Tryz.func28 rfl (by kernel_rfl) rfl) (perm_at (k := 0) rfl) (rNum_sp bi l 0 1000 hb (by omega) h) rfl rfl rfl ?_ ?_ ?_; (· (exact to_)); (· intro _ _ hle; (exact to_)); intro x px hle)
  rw [show numC (l, 0) 8 1000 = tmS l from rfl]
  have eS : trS l = if endC (tsC (tmS l).1.toNat (tmS l).2).2 = 0 then (true, (tsC (tmS l).1.toNat (tmS l).2).1) else (false, []) := rfl
  rw [eS]
  clear eS px hle
  generalize tmS l = M at hok0 hbd ⊢
  obtain ⟨nv, st⟩ := M
  dsimp only at hok0 hbd ⊢
  obtain ⟨n, rfl⟩ : ∃ n : Nat, nv = n := ⟨nv.toNat, by omega⟩
  rw [Int.toNat_natCast]
  repeat' (first|refine tw_ ?_|(refine ta_ ?_;intro _)|((fail_if_success (refine ybi rfl ?_));refine ybj rfl ?_ ?_<;>(intro ht;rw [ht];first|replace ht := oet_ ht|replace ht := oef_ ht|skip))|(refine ych ?_;first|(refine ybw rfl ?_ ?_<;>intro ht)|(refine ybx rfl ?_ ?_<;>intro ht)))
  refine cx_row 36 9 ?_
  refine cx_loop (X := Nat × View × Value × List Ts)
    (fun y => [(2, .slice none 0 0), (3, .bool false), (4, .pointer (some ⟨bi, 0, none⟩)), (5, y.2.2.1), (6, .int .i64 (n : Nat)), (7, .int .i64 (y.1 : Nat))])
    (fun y => y.2.1) (fun y => [Res.row 36 9 y.2.2.1 y.1 (y.2.2.2.flatMap rtc), rinR bi (tsC y.1 st).2.1 (tsC y.1 st).2.2])
    (fun y => y.1 ≤ n ∧ Le h y.2.1 ∧ (∀ z ∈ y.2.2.2, Rtv y.2.1 z) ∧ y.2.2.2.length = y.1 ∧ ((tsC y.1 st).2.2 = 0 → y.2.2.2.map Ts.a = (tsC y.1 st).1))
    (fun y => n - y.1) (0, h, .slice none 0 0, []) ⟨Nat.zero_le _, Le.refl _, (fun z hz => by cases hz), rfl, fun _ => rfl⟩ ts_ (fun _ s => s) ?_
  rintro ⟨k, hk, mv, zs⟩ ⟨q1, q2, q4, q6, q5⟩
  dsimp only at q1 q2 q4 q5 q6 ⊢
  obtain ⟨hok, hlen⟩ := tsC_ok hok0 k
  by_cases hgo : k < n ∧ (tsC k st).2.2 = 0
  · obtain ⟨hkn, hz⟩ := hgo
    have eD : tsC (k + 1) st = ((tsC k st).1 ++ [taC (tsC k st).2], (trp10 (tsC k st).2).2) := rfl
    generalize tsC k st = D at hok hlen q5 eD hz ⊢
    obtain ⟨A, ss⟩ := D
    dsimp only at hok hlen q5 eD hz ⊢
    have k1 := trp1_ok hok
    have k2 := trp2_ok hok
    have k3 := trp3_ok hok
    have k4 := trp4_ok hok
    have k5 := trp5_ok hok
    obtain ⟨k6, y6, l6⟩ := trp6_ok hok
    obtain ⟨k7, y7, l7⟩ := trp7_ok hok
    have k8 := trp8_ok hok
    have d8 := trp8_bd hok
    repeat' (first|(refine ycf ?_;apply ybk;(·first|(first|(apply qv_nilCheck;rfl)|exact tk_));(·rfl);(·rfl))|refine t1_ ?_|(refine ta_ ?_;intro _)|((fail_if_success (refine ybi rfl ?_));refine ybj rfl ?_ ?_<;>(intro ht;rw [ht];first|replace ht := oet_ ht|replace ht := oef_ ht|skip))|(refine ych ?_;first|(refine ybw rfl ?_ ?_<;>intro ht)|(refine ybx rfl ?_ ?_<;>intro ht)))
    (refine rx_call_m (ycp Tryz.func29 rfl (by kernel_rfl) rfl) (perm_at (k := 1) rfl) (rSmall_sp bi ss.1 ss.2 255 hok.b (by omega) hk) rfl rfl rfl ?_ ?_ ?_; (· (exact to_)); (· intro _ _ hle; (exact to_)); intro x px hle)
    rw [show numC (ss.1, ss.2) 1 255 = trp1 ss from rfl]
    repeat' (first|(refine ycf ?_;apply ybk;(·first|(first|(apply qv_nilCheck;rfl)|exact tk_));(·rfl);(·rfl))|refine t1_ ?_|(refine ta_ ?_;intro _)|((fail_if_success (refine ybi rfl ?_));refine ybj rfl ?_ ?_<;>(intro ht;rw [ht];first|replace ht := oet_ ht|replace ht := oef_ ht|skip))|(refine ych ?_;first|(refine ybw rfl ?_ ?_<;>intro ht)|(refine ybx rfl ?_ ?_<;>intro ht)))
    rename_i b8
    refine rx_perm (L' := [rinR bi (trp1 ss).2.1 (trp1 ss).2.2, Res.blk b8 (.cells (r9 (trp1 ss).1 0 0 0 0 (.string ⟨#[]⟩) (.string ⟨#[]⟩) (.slice none 0 0) (.string ⟨#[]⟩)).toArray 36 (0, 0)), Res.row 36 9 mv k (zs.flatMap rtc)]) (List.Perm.swap _ _ _) ?_
    (refine rx_call_m (ycp Tryz.func29 rfl (by kernel_rfl) rfl) (perm_at (k := 0) rfl) (rSmall_sp bi (trp1 ss).2.1 (trp1 ss).2.2 255 k1.b (by omega) hk) rfl rfl rfl ?_ ?_ ?_; (· (exact to_)); (· intro _ _ hle; (exact to_)); intro x px hle)
    rw [show numC ((trp1 ss).2.1, (trp1 ss).2.2) 1 255 = trp2 ss from rfl]
    repeat' (first|(refine ycf ?_;apply ybk;(·first|(first|(apply qv_nilCheck;rfl)|exact tk_));(·rfl);(·rfl))|refine t1_ ?_|(refine ta_ ?_;intro _)|((fail_if_success (refine ybi rfl ?_));refine ybj rfl ?_ ?_<;>(intro ht;rw [ht];first|replace ht := oet_ ht|replace ht := oef_ ht|skip))|(refine ych ?_;first|(refine ybw rfl ?_ ?_<;>intro ht)|(refine ybx rfl ?_ ?_<;>intro ht)))
    refine rx_perm (L' := [rinR bi (trp2 ss).2.1 (trp2 ss).2.2, Res.blk b8 (.cells (r9 (trp1 ss).1 (trp2 ss).1 0 0 0 (.string ⟨#[]⟩) (.string ⟨#[]⟩) (.slice none 0 0) (.string ⟨#[]⟩)).toArray 36 (0, 0)), Res.row 36 9 mv k (zs.flatMap rtc)]) (.refl _) ?_
    (refine rx_call_m (ycp Tryz.func28 rfl (by kernel_rfl) rfl) (perm_at (k := 0) rfl) (rNum_sp bi (trp2 ss).2.1 (trp2 ss).2.2 4611686018427387904 k2.b (by omega) hk) rfl rfl rfl ?_ ?_ ?_; (· (exact to_)); (· intro _ _ hle; (exact to_)); intro x px hle)
    rw [show numC ((trp2 ss).2.1, (trp2 ss).2.2) 8 4611686018427387904 = trp3 ss from rfl]
    repeat' (first|(refine ycf ?_;apply ybk;(·first|(first|(apply qv_nilCheck;rfl)|exact tk_));(·rfl);(·rfl))|refine t1_ ?_|(refine ta_ ?_;intro _)|((fail_if_success (refine ybi rfl ?_));refine ybj rfl ?_ ?_<;>(intro ht;rw [ht];first|replace ht := oet_ ht|replace ht := oef_ ht|skip))|(refine ych ?_;first|(refine ybw rfl ?_ ?_<;>intro ht)|(refine ybx rfl ?_ ?_<;>intro ht)))
    refine rx_perm (L' := [rinR bi (trp3 ss).2.1 (trp3 ss).2.2, Res.blk b8 (.cells (r9 (trp1 ss).1 (trp2 ss).1 (trp3 ss).1 0 0 (.string ⟨#[]⟩) (.string ⟨#[]⟩) (.slice none 0 0) (.string ⟨#[]⟩)).toArray 36 (0, 0)), Res.row 36 9 mv k (zs.flatMap rtc)]) (.refl _) ?_
    (refine rx_call_m (ycp Tryz.func28 rfl (by kernel_rfl) rfl) (perm_at (k := 0) rfl) (rNum_sp bi (trp3 ss).2.1 (trp3 ss).2.2 4611686018427387904 k3.b (by omega) hk) rfl rfl rfl ?_ ?_ ?_; (· (exact to_)); (· intro _ _ hle; (exact to_)); intro x px hle)
    rw [show numC ((trp3 ss).2.1, (trp3 ss).2.2) 8 4611686018427387904 = trp4 ss from rfl]
    repeat' (first|(refine ycf ?_;apply ybk;(·first|(first|(apply qv_nilCheck;rfl)|exact tk_));(·rfl);(·rfl))|refine t1_ ?_|(refine ta_ ?_;intro _)|((fail_if_success (refine ybi rfl ?_));refine ybj rfl ?_ ?_<;>(intro ht;rw [ht];first|replace ht := oet_ ht|replace ht := oef_ ht|skip))|(refine ych ?_;first|(refine ybw rfl ?_ ?_<;>intro ht)|(refine ybx rfl ?_ ?_<;>intro ht)))
    refine rx_perm (L' := [rinR bi (trp4 ss).2.1 (trp4 ss).2.2, Res.blk b8 (.cells (r9 (trp1 ss).1 (trp2 ss).1 (trp3 ss).1 (trp4 ss).1 0 (.string ⟨#[]⟩) (.string ⟨#[]⟩) (.slice none 0 0) (.string ⟨#[]⟩)).toArray 36 (0, 0)), Res.row 36 9 mv k (zs.flatMap rtc)]) (.refl _) ?_
    (refine rx_call_m (ycp Tryz.func28 rfl (by kernel_rfl) rfl) (perm_at (k := 0) rfl) (rNum_sp bi (trp4 ss).2.1 (trp4 ss).2.2 4611686018427387904 k4.b (by omega) hk) rfl rfl rfl ?_ ?_ ?_; (· (exact to_)); (· intro _ _ hle; (exact to_)); intro x px hle)
    rw [show numC ((trp4 ss).2.1, (trp4 ss).2.2) 8 4611686018427387904 = trp5 ss from rfl]
    repeat' (first|(refine ycf ?_;apply ybk;(·first|(first|(apply qv_nilCheck;rfl)|exact tk_));(·rfl);(·rfl))|refine t1_ ?_|(refine ta_ ?_;intro _)|((fail_if_success (refine ybi rfl ?_));refine ybj rfl ?_ ?_<;>(intro ht;rw [ht];first|replace ht := oet_ ht|replace ht := oef_ ht|skip))|(refine ych ?_;first|(refine ybw rfl ?_ ?_<;>intro ht)|(refine ybx rfl ?_ ?_<;>intro ht)))
    refine rx_perm (L' := [rinR bi (trp5 ss).2.1 (trp5 ss).2.2, Res.blk b8 (.cells (r9 (trp1 ss).1 (trp2 ss).1 (trp3 ss).1 (trp4 ss).1 (trp5 ss).1 (.string ⟨#[]⟩) (.string ⟨#[]⟩) (.slice none 0 0) (.string ⟨#[]⟩)).toArray 36 (0, 0)), Res.row 36 9 mv k (zs.flatMap rtc)]) (.refl _) ?_
    (refine rx_call_m (ycp Tryz.func30 rfl (by kernel_rfl) rfl) (perm_at (k := 0) rfl) (rInBytes_sp bi (trp5 ss).2.1 (trp5 ss).2.2 255 k5.b (by omega) k5.l hk) rfl rfl rfl ?_ ?_ ?_; (· (exact to_)); (· intro _ _ hle; (exact to_)); intro x px hle)
    rw [show byC ((trp5 ss).2.1, (trp5 ss).2.2) 255 = trp6 ss from rfl]
    repeat' (first|(refine ycf ?_;apply ybk;(·first|(first|(apply qv_nilCheck;rfl)|exact tk_));(·rfl);(·rfl))|refine t1_ ?_|(refine ta_ ?_;intro _)|((fail_if_success (refine ybi rfl ?_));refine ybj rfl ?_ ?_<;>(intro ht;rw [ht];first|replace ht := oet_ ht|replace ht := oef_ ht|skip))|(refine ych ?_;first|(refine ybw rfl ?_ ?_<;>intro ht)|(refine ybx rfl ?_ ?_<;>intro ht)))
    refine rx_perm (L' := [rinR bi (trp6 ss).2.1 (trp6 ss).2.2, Res.blk b8 (.cells (r9 (trp1 ss).1 (trp2 ss).1 (trp3 ss).1 (trp4 ss).1 (trp5 ss).1 (.string (bstr (trp6 ss).1)) (.string ⟨#[]⟩) (.slice none 0 0) (.string ⟨#[]⟩)).toArray 36 (0, 0)), Res.row 36 9 mv k (zs.flatMap rtc)]) (.refl _) ?_
    (refine rx_call_m (ycp Tryz.func30 rfl (by kernel_rfl) rfl) (perm_at (k := 0) rfl) (rInBytes_sp bi (trp6 ss).2.1 (trp6 ss).2.2 65536 k6.b (by omega) k6.l hk) rfl rfl rfl ?_ ?_ ?_; (· (exact to_)); (· intro _ _ hle; (exact to_)); intro x px hle)
    rw [show byC ((trp6 ss).2.1, (trp6 ss).2.2) 65536 = trp7 ss from rfl]
    repeat' (first|(refine ycf ?_;apply ybk;(·first|(first|(apply qv_nilCheck;rfl)|exact tk_));(·rfl);(·rfl))|refine t1_ ?_|(refine ta_ ?_;intro _)|((fail_if_success (refine ybi rfl ?_));refine ybj rfl ?_ ?_<;>(intro ht;rw [ht];first|replace ht := oet_ ht|replace ht := oef_ ht|skip))|(refine ych ?_;first|(refine ybw rfl ?_ ?_<;>intro ht)|(refine ybx rfl ?_ ?_<;>intro ht)))
    refine rx_perm (L' := [rinR bi (trp7 ss).2.1 (trp7 ss).2.2, Res.blk b8 (.cells (r9 (trp1 ss).1 (trp2 ss).1 (trp3 ss).1 (trp4 ss).1 (trp5 ss).1 (.string (bstr (trp6 ss).1)) (.string (bstr (trp7 ss).1)) (.slice none 0 0) (.string ⟨#[]⟩)).toArray 36 (0, 0)), Res.row 36 9 mv k (zs.flatMap rtc)]) (.refl _) ?_
    (refine rx_call_m (ycp Tryz.func28 rfl (by kernel_rfl) rfl) (perm_at (k := 0) rfl) (rNum_sp bi (trp7 ss).2.1 (trp7 ss).2.2 1000 k7.b (by omega) hk) rfl rfl rfl ?_ ?_ ?_; (· (exact to_)); (· intro _ _ hle; (exact to_)); intro x px hle)
    rw [show numC ((trp7 ss).2.1, (trp7 ss).2.2) 8 1000 = trp8 ss from rfl]
    obtain ⟨m, hm⟩ : ∃ m : Nat, (trp8 ss).1 = m := ⟨(trp8 ss).1.toNat, by omega⟩
    rw [hm] at d8 ⊢
    repeat' (first|(refine ycf ?_;apply ybk;(·first|(first|(apply qv_nilCheck;rfl)|exact tk_));(·rfl);(·rfl))|refine t1_ ?_|(refine ta_ ?_;intro _)|((fail_if_success (refine ybi rfl ?_));refine ybj rfl ?_ ?_<;>(intro ht;rw [ht];first|replace ht := oet_ ht|replace ht := oef_ ht|skip))|(refine ych ?_;first|(refine ybw rfl ?_ ?_<;>intro ht)|(refine ybx rfl ?_ ?_<;>intro ht)))
    refine cx_row 4 1 ?_
    refine cx_loop (X := Nat × Value) (fun y => [(2, .slice none 0 0), (3, .bool false), (4, .pointer (some ⟨bi, 0, none⟩)), (5, mv), (6, .int .i64 (n : Nat)), (7, .int .i64 (k : Nat)), (8, .pointer (some ⟨b8, 0, none⟩)), (9, .int .i64 (m : Nat)), (10, .int .i64 (y.1 : Nat))]) (fun _ => hk)
      (fun y => [Res.row 4 1 y.2 y.1 (bls (stC y.1 (trp8 ss).2).1), rinR bi (stC y.1 (trp8 ss).2).2.1 (stC y.1 (trp8 ss).2).2.2, Res.blk b8 (.cells (r9 (trp1 ss).1 (trp2 ss).1 (trp3 ss).1 (trp4 ss).1 (trp5 ss).1 (.string (bstr (trp6 ss).1)) (.string (bstr (trp7 ss).1)) y.2 (.string ⟨#[]⟩)).toArray 36 (0, 0)), Res.row 36 9 mv k (zs.flatMap rtc)])
      (fun y => y.1 ≤ m) (fun y => m - y.1) (0, .slice none 0 0) (Nat.zero_le _) ts_ (fun _ s => s.picks [0, 0, 0, 0]) ?_
    rintro ⟨j, sv⟩ hj
    replace hj : j ≤ m := hj
    dsimp only
    obtain ⟨oj, ljn⟩ := stC_ok k8 j
    by_cases hjo : j < m ∧ (stC j (trp8 ss).2).2.2 = 0
    · obtain ⟨hjm, hz2⟩ := hjo
      have eS : stC (j + 1) (trp8 ss).2 = ((stC j (trp8 ss).2).1 ++ [decide ((numC (stC j (trp8 ss).2).2 1 1).1 = 1)], (numC (stC j (trp8 ss).2).2 1 1).2) := rfl
      generalize stC j (trp8 ss).2 = E at oj ljn hz2 eS ⊢
      obtain ⟨B, ls, e⟩ := E
      dsimp only at oj ljn hz2 eS ⊢
      subst hz2
      repeat' (first|(refine ycf ?_;apply ybk;(·first|(first|(apply qv_nilCheck;rfl)|exact tk_));(·rfl);(·rfl))|refine t1_ ?_|(refine ta_ ?_;intro _)|((fail_if_success (refine ybi rfl ?_));refine ybj rfl ?_ ?_<;>(intro ht;rw [ht];first|replace ht := oet_ ht|replace ht := oef_ ht|skip))|(refine ych ?_;first|(refine ybw rfl ?_ ?_<;>intro ht)|(refine ybx rfl ?_ ?_<;>intro ht)))
      refine cx_region_draw [Res.blk b8 (.cells (r9 (trp1 ss).1 (trp2 ss).1 (trp3 ss).1 (trp4 ss).1 (trp5 ss).1 (.string (bstr (trp6 ss).1)) (.string (bstr (trp7 ss).1)) sv (.string ⟨#[]⟩)).toArray 36 (0, 0))] rfl (by kernel_rfl) ?_
      repeat' (refine ycf ?_;(first|(first|(apply ybm;(·exact tq_);(·rfl);(·rfl);(·(first|exact hd_at 2 rfl|exact hd_at 3 rfl)))|refine ybl rfl rfl ?_|((fail_if_success (refine ybi rfl ?_));refine ybj rfl ?_ ?_<;>(intro ht;rw [ht];first|replace ht := oet_ ht|replace ht := oef_ ht|skip))|(refine tb_ ?_ ?_ ?_;(·(first|exact ybf|(refine .inl ?_;(first|exact hd_at 2 rfl|exact hd_at 3 rfl))|exact to_));(·intro _;(first|exact ybf|(refine .inl ?_;(first|exact hd_at 2 rfl|exact hd_at 3 rfl))|exact to_));intro _)|(first|(refine tqs_ ?_ ?_ ?_;(·(first|exact ybf|(refine .inl ?_;(first|exact hd_at 2 rfl|exact hd_at 3 rfl))|exact to_));(·(first|exact ybf|(refine .inl ?_;(first|exact hd_at 2 rfl|exact hd_at 3 rfl))|exact to_))))|(apply ybn;(·exact tq_);(·rfl);(·rfl);(·rfl);(·(first|exact ybf|(refine .inl ?_;(first|exact hd_at 2 rfl|exact hd_at 3 rfl))|exact to_))))|refine ycg ?_))
      (refine rx_call_m (ycp Tryz.func29 rfl (by kernel_rfl) rfl) (perm_at (k := 1) rfl) (rSmall_sp bi ls 0 1 oj.b (by omega) hk) rfl rfl rfl ?_ ?_ ?_;(·(first|exact ybf|(refine .inl ?_;(first|exact hd_at 2 rfl|exact hd_at 3 rfl))|exact to_));(·intro _ _ hle;(first|exact ybf|(refine .inl ?_;(first|exact hd_at 2 rfl|exact hd_at 3 rfl))|exact to_));intro x px hle)
      repeat' (refine ycf ?_;(first|(first|(apply ybm;(·exact tq_);(·rfl);(·rfl);(·(first|exact hd_at 2 rfl|exact hd_at 3 rfl)))|refine ybl rfl rfl ?_|((fail_if_success (refine ybi rfl ?_));refine ybj rfl ?_ ?_<;>(intro ht;rw [ht];first|replace ht := oet_ ht|replace ht := oef_ ht|skip))|(refine tb_ ?_ ?_ ?_;(·(first|exact ybf|(refine .inl ?_;(first|exact hd_at 2 rfl|exact hd_at 3 rfl))|exact to_));(·intro _;(first|exact ybf|(refine .inl ?_;(first|exact hd_at 2 rfl|exact hd_at 3 rfl))|exact to_));intro _)|(first|(refine tqs_ ?_ ?_ ?_;(·(first|exact ybf|(refine .inl ?_;(first|exact hd_at 2 rfl|exact hd_at 3 rfl))|exact to_));(·(first|exact ybf|(refine .inl ?_;(first|exact hd_at 2 rfl|exact hd_at 3 rfl))|exact to_))))|(apply ybn;(·exact tq_);(·rfl);(·rfl);(·rfl);(·(first|exact ybf|(refine .inl ?_;(first|exact hd_at 2 rfl|exact hd_at 3 rfl))|exact to_))))|refine ycg ?_))
      refine rx_append (sz := 1) 2 rfl rfl rfl (yaz 0 rfl) rfl (fun u hu => by have hu : u ∈ [Value.bool _] := hu;rw [List.mem_singleton.1 hu];rfl) rfl (by omega) (by unfold maxLen;omega) (by omega) rfl rfl rfl (by (first|exact ybf|(refine .inl ?_;(first|exact hd_at 2 rfl|exact hd_at 3 rfl))|exact to_)) (fun _ => by (first|exact ybf|(refine .inl ?_;(first|exact hd_at 2 rfl|exact hd_at 3 rfl))|exact to_)) ?_
      intro v9 _
      refine rx_rowform 2 rfl (fun _ h1 _ => (by omega)) ?_
      rintro g9 cap9 rfl
      repeat' (refine ycf ?_;(first|(first|(apply ybm;(·exact tq_);(·rfl);(·rfl);(·(first|exact hd_at 2 rfl|exact hd_at 3 rfl)))|refine ybl rfl rfl ?_|((fail_if_success (refine ybi rfl ?_));refine ybj rfl ?_ ?_<;>(intro ht;rw [ht];first|replace ht := oet_ ht|replace ht := oef_ ht|skip))|(refine tb_ ?_ ?_ ?_;(·(first|exact ybf|(refine .inl ?_;(first|exact hd_at 2 rfl|exact hd_at 3 rfl))|exact to_));(·intro _;(first|exact ybf|(refine .inl ?_;(first|exact hd_at 2 rfl|exact hd_at 3 rfl))|exact to_));intro _)|(first|(refine ybg 3 rfl rfl rfl rfl (by decide) rfl rfl rfl rfl ?_ ?_ ?_;(·(first|exact ybf|(refine .inl ?_;(first|exact hd_at 2 rfl|exact hd_at 3 rfl))|exact to_));(·exact .inr (by kernel_rfl)))|(refine tqs_ ?_ ?_ ?_;(·(first|exact ybf|(refine .inl ?_;(first|exact hd_at 2 rfl|exact hd_at 3 rfl))|exact to_));(·(first|exact ybf|(refine .inl ?_;(first|exact hd_at 2 rfl|exact hd_at 3 rfl))|exact to_))))|(apply ybn;(·exact tq_);(·rfl);(·rfl);(·rfl);(·(first|exact ybf|(refine .inl ?_;(first|exact hd_at 2 rfl|exact hd_at 3 rfl))|exact to_))))|refine ycg ?_))
      repeat' (first|(refine ycf ?_;apply ybk;(·first|(exact tk_));(·rfl);(·rfl))|refine t1_ ?_|(refine ta_ ?_;intro _)|((fail_if_success (refine ybi rfl ?_));refine ybj rfl ?_ ?_<;>(intro ht;rw [ht];first|replace ht := oet_ ht|replace ht := oef_ ht|skip))|(refine ych ?_;first|(refine ybw rfl ?_ ?_<;>intro ht)|(refine ybx rfl ?_ ?_<;>intro ht)))
      refine nx_round (j + 1, .slice (some ⟨g9, 0, none⟩) (j + 1) cap9) (by show j + 1 ≤ m; omega) (by show m - (j + 1) < m - j; omega) ts_ (fun _ s => ?_)
      dsimp only
      rw [eS, bls_app]
      exact s.picks [2, 1, 1, 1]
    · have e0 : trp9 ss = stC m (trp8 ss).2 := by unfold trp9; rw [hm, Int.toNat_natCast]
      have hX : (j < m ∧ (stC j (trp8 ss).2).2.2 ≠ 0) ∨ m ≤ j := by
        rcases Nat.lt_or_ge j m with hjm | hjm
        · exact .inl ⟨hjm, fun hx => hjo ⟨hjm, hx⟩⟩
        · exact .inr hjm
      have e9 : (stC j (trp8 ss).2).2 = (trp9 ss).2 := by
        rw [e0]
        rcases hX with ⟨hjm, hz2⟩ | hjm
        · have := stC_err hz2 (m - j)
          rw [Nat.add_sub_cancel' hj] at this
          exact this.symm
        · obtain rfl : j = m := by omega
          rfl
      rw [e9] at hX
      have e10 : (trp10 ss).2.2 = 0 → (stC j (trp8 ss).2).1 = (trp9 ss).1 := fun h10 => by
        have h9 := trp9_zero h10
        obtain rfl : j = m := by
          rcases hX with ⟨hjm, hz2⟩ | hjm
          · exact absurd h9 hz2
          · omega
        rw [e0]
      obtain ⟨ok9, _⟩ := trp9_ok hok
      rw [e9]
      generalize (stC j (trp8 ss).2).1 = B at ljn e10 ⊢
      clear hjo e9 oj
      rcases hX with ⟨hjm, hz2⟩ | hjm
      all_goals
        repeat' (first|(refine ycf ?_;apply ybk;(·first|(first|(apply qv_nilCheck;rfl)|exact tk_));(·rfl);(·rfl))|refine t1_ ?_|(refine ta_ ?_;intro _)|((fail_if_success (refine ybi rfl ?_));refine ybj rfl ?_ ?_<;>(intro ht;rw [ht];first|replace ht := oet_ ht|replace ht := oef_ ht|skip))|(refine ych ?_;first|(refine ybw rfl ?_ ?_<;>intro ht)|(refine ybx rfl ?_ ?_<;>intro ht)))
        refine rx_persist rfl fun h3 hle3 hsm => ?_
        have hsm : Sc h3 1 sv j (bls B) := hsm
        obtain ⟨_, ads, caps, rfl, _, _⟩ := id hsm
        (refine rx_call_m (ycp Tryz.func30 rfl (by kernel_rfl) rfl) (perm_at (k := 0) rfl) (rInBytes_sp bi (trp9 ss).2.1 (trp9 ss).2.2 65536 ok9.b (by omega) ok9.l h3) rfl rfl rfl ?_ ?_ ?_; (· (exact to_)); (· intro _ _ hle; (exact to_)); intro x px hle)
        rw [show byC ((trp9 ss).2.1, (trp9 ss).2.2) 65536 = trp10 ss from rfl]
        obtain ⟨z, ez⟩ : ∃ z : Ts, z = ⟨⟨(trp1 ss).1, (trp2 ss).1, (trp3 ss).1, (trp4 ss).1, (trp5 ss).1, (trp6 ss).1, (trp7 ss).1, B, (trp10 ss).1⟩, .string (bstr (trp6 ss).1), .string (bstr (trp7 ss).1), .slice ads j caps, .string (bstr (trp10 ss).1)⟩ := ⟨_, rfl⟩
        have vz : Rtv h3 z := by
          rw [ez]
          refine ⟨rfl, rfl, ?_, rfl⟩
          dsimp only
          rw [ljn]
          exact hsm
        have za : (trp10 ss).2.2 = 0 → z.a = taC ss := fun h10 => by
          rw [ez, e10 h10]
          rfl
        have zc : rtc z = r9 (trp1 ss).1 (trp2 ss).1 (trp3 ss).1 (trp4 ss).1 (trp5 ss).1 (.string (bstr (trp6 ss).1)) (.string (bstr (trp7 ss).1)) (.slice ads j caps) (.string (bstr (trp10 ss).1)) := by rw [ez]; rfl
        have vone := vz.ones
        have zl := rtc_len z
        rw [zc] at vone zl
        repeat' (first|(refine ycf ?_;apply ybk;(·first|(first|(apply qv_nilCheck;rfl)|exact tk_));(·rfl);(·rfl))|refine t1_ ?_|(refine ta_ ?_;intro _)|((fail_if_success (refine ybi rfl ?_));refine ybj rfl ?_ ?_<;>(intro ht;rw [ht];first|replace ht := oet_ ht|replace ht := oef_ ht|skip))|(refine ych ?_;first|(refine ybw rfl ?_ ?_<;>intro ht)|(refine ybx rfl ?_ ?_<;>intro ht)))
        refine rx_append (sz := 9) 3 rfl rfl rfl (yaz 0 rfl) rfl (fun u hu => vone u hu) rfl (by omega) (by unfold maxLen; omega) (by omega) rfl rfl rfl ybf (fun _ => ybf) ?_
        intro v9 _
        repeat' (first|(refine ycf ?_;apply ybk;(·first|(first|(apply qv_nilCheck;rfl)|exact tk_));(·rfl);(·rfl))|refine t1_ ?_|(refine ta_ ?_;intro _)|((fail_if_success (refine ybi rfl ?_));refine ybj rfl ?_ ?_<;>(intro ht;rw [ht];first|replace ht := oet_ ht|replace ht := oef_ ht|skip))|(refine ych ?_;first|(refine ybw rfl ?_ ?_<;>intro ht)|(refine ybx rfl ?_ ?_<;>intro ht)))
        refine nx_round (k + 1, h3, v9, zs ++ [z]) ⟨by show k + 1 ≤ n; omega, q2.trans hle3, fun y hy => ?_, by show (zs ++ [z]).length = k + 1; rw [List.length_append, q6]; rfl, fun h10 => ?_⟩ (by show n - (k + 1) < n - k; omega) ts_ (fun _ s => ?_)
        · rcases List.mem_append.1 hy with hy | hy
          · exact (q4 y hy).mono hle3
          · rw [List.mem_singleton.1 hy]; exact vz
        · dsimp only at h10 ⊢
          rw [eD] at h10 ⊢
          rw [List.map_append, q5 hz, ← za h10]
          rfl
        · dsimp only
          rw [eD, List.flatMap_append, show [z].flatMap rtc = rtc z by simp, zc]
          exact s.picks [3, 1]
  · by_cases hkn : k < n
    · have hz : (tsC k st).2.2 ≠ 0 := fun hx => hgo ⟨hkn, hx⟩
      have hbad : (if endC (tsC n st).2 = 0 then (true, (tsC n st).1) else (false, [])) = ((false, []) : Bool × List Ta) := if_neg fun hx => by
        have h1 := tsC_err hz (n - k)
        rw [Nat.add_sub_cancel' q1] at h1
        refine endC_errT ?_ hx
        rw [h1]; exact hz
      rw [hbad]
      generalize tsC k st = D at hok hlen q5 hz ⊢
      obtain ⟨A, ls, e⟩ := D
      dsimp only at hok hlen q5 hz ⊢
      have hee : endC (ls, e) ≠ 0 := endC_errT hz
      repeat' (first|(refine ycf ?_;apply ybk;(·first|(first|(apply qv_nilCheck;rfl)|exact tk_));(·rfl);(·rfl))|refine t1_ ?_|(refine ta_ ?_;intro _)|((fail_if_success (refine ybi rfl ?_));refine ybj rfl ?_ ?_<;>(intro ht;rw [ht];first|replace ht := oet_ ht|replace ht := oef_ ht|skip))|(refine ych ?_;first|(refine ybw rfl ?_ ?_<;>intro ht)|(refine ybx rfl ?_ ?_<;>intro ht)))
      (refine rx_call_m (ycp Tryz.func31 rfl (by kernel_rfl) rfl) (perm_at (k := 1) rfl) (rEnd_sp bi ls e hk) rfl rfl rfl ?_ ?_ ?_; (· (exact to_)); (· intro _ _ hle; (exact to_)); intro x px hle)
      generalize endC (ls, e) = ez at hee ⊢
      repeat' (first|(refine ycf ?_;apply ybk;(·first|(first|(apply qv_nilCheck;rfl)|exact tk_));(·rfl);(·rfl))|refine t1_ ?_|(refine ta_ ?_;intro _)|((fail_if_success (refine ybi rfl ?_));refine ybj rfl ?_ ?_<;>(intro ht;rw [ht];first|replace ht := oet_ ht|replace ht := oef_ ht|skip))|(refine ych ?_;first|(refine ybw rfl ?_ ?_<;>intro ht)|(refine ybx rfl ?_ ?_<;>intro ht)))
      exact nx_ret2 rfl (rv_tmp rfl) (rv_tmp rfl) (fun w' s' => ⟨(hk, .slice none 0 0, []), rfl, s'.nil, ⟨Sc.nil hk 9 none 0, fun z hz => by cases hz⟩, rfl⟩)
    · obtain rfl : k = n := by omega
      generalize tsC k st = D at hok hlen q5 ⊢
      obtain ⟨A, ls, e⟩ := D
      dsimp only at hok hlen q5 ⊢
      repeat' (first|(refine ycf ?_;apply ybk;(·first|(first|(apply qv_nilCheck;rfl)|exact tk_));(·rfl);(·rfl))|refine t1_ ?_|(refine ta_ ?_;intro _)|((fail_if_success (refine ybi rfl ?_));refine ybj rfl ?_ ?_<;>(intro ht;rw [ht];first|replace ht := oet_ ht|replace ht := oef_ ht|skip))|(refine ych ?_;first|(refine ybw rfl ?_ ?_<;>intro ht)|(refine ybx rfl ?_ ?_<;>intro ht)))
      refine rx_persist rfl fun h6 hle6 hsm => ?_
      rw [← q6] at hsm
      have S6 : Rts h6 mv zs := ⟨hsm, fun z hz => (q4 z hz).mono hle6⟩
      obtain ⟨_, ad6, cap6, rfl, _, _⟩ := id S6.1
      (refine rx_call_m (ycp Tryz.func31 rfl (by kernel_rfl) rfl) (perm_at (k := 0) rfl) (rEnd_sp bi ls e h6) rfl rfl rfl ?_ ?_ ?_; (· (exact to_)); (· intro _ _ hle; (exact to_)); intro x px hle)
      by_cases hE : endC (ls, e) = 0
      · have he0 : e = 0 := Decidable.byContradiction fun hx => endC_errT hx hE
        rw [hE, if_pos rfl]
        repeat' (first|(refine ycf ?_;apply ybk;(·first|(first|(apply qv_nilCheck;rfl)|exact tk_));(·rfl);(·rfl))|refine t1_ ?_|(refine ta_ ?_;intro _)|((fail_if_success (refine ybi rfl ?_));refine ybj rfl ?_ ?_<;>(intro ht;rw [ht];first|replace ht := oet_ ht|replace ht := oef_ ht|skip))|(refine ych ?_;first|(refine ybw rfl ?_ ?_<;>intro ht)|(refine ybx rfl ?_ ?_<;>intro ht)))
        exact nx_ret2 rfl (rv_tmp rfl) (rv_tmp rfl) (fun w' s' => ⟨(h6, _, zs), rfl, s'.nil, S6, q5 he0⟩)
      · rw [if_neg hE]
        generalize endC (ls, e) = ez at hE ⊢
        repeat' (first|(refine ycf ?_;apply ybk;(·first|(first|(apply qv_nilCheck;rfl)|exact tk_));(·rfl);(·rfl))|refine t1_ ?_|(refine ta_ ?_;intro _)|((fail_if_success (refine ybi rfl ?_));refine ybj rfl ?_ ?_<;>(intro ht;rw [ht];first|replace ht := oet_ ht|replace ht := oef_ ht|skip))|(refine ych ?_;first|(refine ybw rfl ?_ ?_<;>intro ht)|(refine ybx rfl ?_ ?_<;>intro ht)))
        exact nx_ret2 rfl (rv_tmp rfl) (rv_tmp rfl) (fun w' s' => ⟨(h6, .slice none 0 0, []), rfl, s'.nil, ⟨Sc.nil h6 9 none 0, fun z hz => by cases hz⟩, rfl⟩)
end Go.Proofs.YtndpclcbobgdlaaGreatDoor
end

section
namespace Go.Proofs.YtndpclcbobgdlaaGreatDoor
open Go Go.Ck
set_option maxRecDepth 100000
set_option maxHeartbeats 1000000
set_option linter.unusedVariables false
theorem cwithin_no (n a b : Int) (hna : n < a) (h : View) (w : World) (s : St ⟨w, h, []⟩ h [] w) :
    Calls Tryz.prog 105 [.int .i64 n, .int .i64 a, .int .i64 b].toArray w fun e w' => e = .returned (.bool false) ∧ St ⟨w, h, []⟩ h [] w' := by
  refine calls_enter Tryz.func105 rfl Tryz.ntmps105 rfl s ?_
  repeat' (first|(refine ycf ?_;apply ybk;(·first|(exact tk_));(·rfl);(·rfl))|refine t1_ ?_|(refine ta_ ?_;intro _)|((fail_if_success (refine ybi rfl ?_));refine ybj rfl ?_ ?_<;>(intro ht;rw [ht];first|replace ht := oet_ ht|replace ht := oef_ ht|skip))|(refine ych ?_;first|(refine ybw rfl ?_ ?_<;>intro ht)|(refine ybx rfl ?_ ?_<;>intro ht)))
  exact nx_ret1 rfl (rv_tmp rfl) (fun w' s' => ⟨rfl, s'⟩)
def z7 : List Value := [.int .i64 0, .int .i64 0, .int .i64 0, .int .i64 0, .int .i64 0, .int .i64 0, .int .i64 0]
def zCfg : List Value := z7 ++ ([.int .i64 0, .bool false] ++ List.replicate 32 (.int .u8 0))
theorem zCfg_seven {h : View} {L : List Res} {b : Nat} (c : Cells h L ⟨b, 0, none⟩ zCfg) : Cells h L ⟨b, 0 + 0, none⟩ z7 := c.take 7
theorem ccheck0_sp (h : View) (w : World) (s : St ⟨w, h, []⟩ h [] w) :
    Calls Tryz.prog 75 [.agg z7.toArray].toArray w fun e w' => e = .returned (.int .i64 1) ∧ St ⟨w, h, []⟩ h [] w' := by
  refine calls_enter Tryz.func75 rfl Tryz.ntmps75 rfl s ?_
  repeat' (first|(refine ycf ?_;apply ybk;(·first|(exact tk_));(·rfl);(·rfl))|refine t1_ ?_|(refine ta_ ?_;intro _)|((fail_if_success (refine ybi rfl ?_));refine ybj rfl ?_ ?_<;>(intro ht;rw [ht];first|replace ht := oet_ ht|replace ht := oef_ ht|skip))|(refine ych ?_;first|(refine ybw rfl ?_ ?_<;>intro ht)|(refine ybx rfl ?_ ?_<;>intro ht)))
  (refine ycn (ycp Tryz.func105 rfl (by kernel_rfl) rfl) (cwithin_no 0 1 8 (by omega) h) rfl rfl rfl ?_ ?_; (· (exact to_)))
  repeat' (first|(refine ycf ?_;apply ybk;(·first|(exact tk_));(·rfl);(·rfl))|refine t1_ ?_|(refine ta_ ?_;intro _)|((fail_if_success (refine ybi rfl ?_));refine ybj rfl ?_ ?_<;>(intro ht;rw [ht];first|replace ht := oet_ ht|replace ht := oef_ ht|skip))|(refine ych ?_;first|(refine ybw rfl ?_ ?_<;>intro ht)|(refine ybx rfl ?_ ?_<;>intro ht)))
  exact nx_ret1 rfl (rv_tmp rfl) (fun w' s' => ⟨rfl, s'.nil⟩)
theorem scheck0_sp (h : View) (w : World) (s : St ⟨w, h, []⟩ h [] w) :
    Calls Tryz.prog 56 [.agg zCfg.toArray].toArray w fun e w' => e = .returned (.int .i64 1) ∧ St ⟨w, h, []⟩ h [] w' := by
  refine calls_enter Tryz.func56 rfl Tryz.ntmps56 rfl s ?_
  repeat' (first|(refine ycf ?_;apply ybk;(·first|(apply yad (vs := z7);(·rfl);(·exact zCfg_seven (yaz 0 rfl));(·rfl)));(·rfl);(·rfl))|refine t1_ ?_|(refine ta_ ?_;intro _)|((fail_if_success (refine ybi rfl ?_));refine ybj rfl ?_ ?_<;>(intro ht;rw [ht];first|replace ht := oet_ ht|replace ht := oef_ ht|skip))|(refine ych ?_;first|(refine ybw rfl ?_ ?_<;>intro ht)|(refine ybx rfl ?_ ?_<;>intro ht)))
  (refine ycn (ycp Tryz.func75 rfl (by kernel_rfl) rfl) (ccheck0_sp h) rfl rfl rfl ?_ ?_; (· (exact to_)))
  repeat' (first|refine tw_ ?_|(refine ta_ ?_;intro _)|((fail_if_success (refine ybi rfl ?_));refine ybj rfl ?_ ?_<;>(intro ht;rw [ht];first|replace ht := oet_ ht|replace ht := oef_ ht|skip))|(refine ych ?_;first|(refine ybw rfl ?_ ?_<;>intro ht)|(refine ybx rfl ?_ ?_<;>intro ht)))
  exact nx_ret1 rfl (rv_tmp rfl) (fun w' s' => ⟨rfl, s'.nil⟩)
theorem snew0_sp (h : View) (w : World) (s : St ⟨w, h, []⟩ h [] w) :
    Calls Tryz.prog 41 [.agg zCfg.toArray].toArray w fun e w' => e = .returned (.tuple #[.pointer none, .int .i64 1]) ∧ St ⟨w, h, []⟩ h [] w' := by
  refine calls_enter Tryz.func41 rfl Tryz.ntmps41 rfl s ?_
  repeat' (first|(refine ycf ?_;apply ybk;(·first|(apply yad (vs := zCfg);(·rfl);(·exact yaz 0 rfl);(·rfl)));(·rfl);(·rfl))|refine t1_ ?_|(refine ta_ ?_;intro _)|((fail_if_success (refine ybi rfl ?_));refine ybj rfl ?_ ?_<;>(intro ht;rw [ht];first|replace ht := oet_ ht|replace ht := oef_ ht|skip))|(refine ych ?_;first|(refine ybw rfl ?_ ?_<;>intro ht)|(refine ybx rfl ?_ ?_<;>intro ht)))
  (refine ycn (ycp Tryz.func56 rfl (by kernel_rfl) rfl) (scheck0_sp h) rfl rfl rfl ?_ ?_; (· (exact to_)))
  repeat' (first|refine tw_ ?_|(refine ta_ ?_;intro _)|((fail_if_success (refine ybi rfl ?_));refine ybj rfl ?_ ?_<;>(intro ht;rw [ht];first|replace ht := oet_ ht|replace ht := oef_ ht|skip))|(refine ych ?_;first|(refine ybw rfl ?_ ?_<;>intro ht)|(refine ybx rfl ?_ ?_<;>intro ht)))
  exact nx_ret2 rfl (rv_tmp rfl) (rv_tmp rfl) (fun w' s' => ⟨rfl, s'.nil⟩)
theorem play0_sp (h : View) (w : World) (s : St ⟨w, h, []⟩ h [] w) :
    Calls Tryz.prog 23 [.agg zCfg.toArray, .slice none 0 0].toArray w fun e w' => e = .returned (.tuple #[.slice none 0 0, .int .i64 1]) ∧ St ⟨w, h, []⟩ h [] w' := by
  refine calls_enter Tryz.func23 rfl Tryz.ntmps23 rfl s ?_
  repeat' (first|(refine ycf ?_;apply ybk;(·first|(apply yad (vs := zCfg);(·rfl);(·exact yaz 0 rfl);(·rfl)));(·rfl);(·rfl))|refine t1_ ?_|(refine ta_ ?_;intro _)|((fail_if_success (refine ybi rfl ?_));refine ybj rfl ?_ ?_<;>(intro ht;rw [ht];first|replace ht := oet_ ht|replace ht := oef_ ht|skip))|(refine ych ?_;first|(refine ybw rfl ?_ ?_<;>intro ht)|(refine ybx rfl ?_ ?_<;>intro ht)))
  (refine ycn (ycp Tryz.func41 rfl (by kernel_rfl) rfl) (snew0_sp h) rfl rfl rfl ?_ ?_; (· (exact to_)))
  repeat' (first|refine tw_ ?_|(refine ta_ ?_;intro _)|((fail_if_success (refine ybi rfl ?_));refine ybj rfl ?_ ?_<;>(intro ht;rw [ht];first|replace ht := oet_ ht|replace ht := oef_ ht|skip))|(refine ych ?_;first|(refine ybw rfl ?_ ?_<;>intro ht)|(refine ybx rfl ?_ ?_<;>intro ht)))
  exact nx_ret2 rfl (rv_tmp rfl) (rv_tmp rfl) (fun w' s' => ⟨rfl, s'.nil⟩)
end Go.Proofs.YtndpclcbobgdlaaGreatDoor
end

section
namespace Go.Ck
open Go
section
variable {P : Program} {n : Nat} {F : List (Nat × Value)} {h : View} {L : List Res} {dst : Option Nat} {ty : Nat} {pos : String} {af : Array Edge} {gd : Option (Nat × Bool)}
theorem ma_makeBytes {T e m : Nat} {x y : Operand} {kx ky : IntKind} {i : Int} [tu : TyU P T (.slice e)] [tb : TyB P e (.int .u8 0) 1 1] (hx : ev F x = some (.int kx i)) (hy : ev F y = some (.int ky i)) (hi : i = (m : Nat)) (hm : m ≤ 1000000) :
    MA P n F h L ⟨dst, .makeSlice T x y, ty, pos, af, gd⟩ (fun b => .slice (some ⟨b, 0, none⟩) m m) (.cells (List.replicate m (Value.int .u8 0)).toArray e) := .mk fun a w f s => by
  subst hi
  obtain ⟨inf, h1, h2, h3, h4⟩ := tb.ex
  have hr := run_make (P := P) w T e inf (.int .u8 0) tu.u h1 h2 kx ky m m (by omega) (Int.le_refl _) (by rw [h4]; omega) (by omega)
  have hc : madeCells (Value.int .u8 0).cells ((m : Int).toNat * inf.size) = (List.replicate m (Value.int .u8 0)).toArray := by
    rw [h3, Nat.mul_one, Int.toNat_natCast]
    apply Array.ext
    · simp [madeCells]
    · intro k hk1 hk2
      simp [madeCells, Value.cells, Nat.mod_one]
  rw [hc] at hr
  simp [execOp, f.ev hx, f.ev hy, hr]
end
end Go.Ck
end

section
namespace Go.Ck
open Go
theorem cx_region_drawT {P : Program} {n : Nat} {K : Bs} {F : List (Nat × Value)} {h : View} {L : List Res} {Q : Exit → Act → World → Prop} {id : Nat} {ops : Array Oper} (LS : List Res) (lou : List Nat) (hm : P.follows .mixedOrders = true) (hB : lexOkAt ops (masks ops) (fun i => lou.contains i) (barOf ops) = true)
    (hx : RX P n K ⟨ops, Hd h LS, fun i => lou.contains i, barOf ops⟩ (enumFrom 0 ops.toList) F h L Q) : CX P n K (.region id ops true) F h L Q := by
  unfold CX
  unfold RX at hx
  exact fun a w f s => wp_region_lexL hm hB (hx a w.drew ⟨f.size, f.dfs, f.get⟩ s.drew)
end Go.Ck
namespace Go.Proofs.YtndpclcbobgdlaaGreatDoor
open Go Go.Ck
set_option maxRecDepth 100000
set_option maxHeartbeats 1000000
set_option linter.unusedVariables false
theorem trS_one : trS [1] = (false, []) := rfl
theorem traces_sp (h : View) (w : World) (s : St ⟨w, h, []⟩ h [] w) :
    Calls Tryz.prog 8 [].toArray w fun e w' => ∃ h' : View, e = .returned (.bool true) ∧ St ⟨w, h, []⟩ h' [] w' ∧ True := by
  have W0 : ∀ (w : World), St ⟨w, h, []⟩ h [] w → Calls Tryz.prog 7 [.slice none 0 0].toArray w fun e w' => ∃ x : View × Value, e = .returned (.tuple #[x.2, .int .i64 0]) ∧ St ⟨w, h, []⟩ x.1 [] w' ∧ Bs8 x.1 x.2 [0, 0, 0, 0, 0, 0, 0, 0] := fun w s =>
    TWrite_sp (.slice none 0 0) [] h ⟨Sc.nil h 9 none 0, fun x hx => by cases hx⟩ (by simp) (by simp) w s
  refine calls_enter Tryz.func8 rfl Tryz.ntmps8 rfl s ?_
  repeat' (first|refine tw_ ?_|(refine ta_ ?_;intro _)|((fail_if_success (refine ybi rfl ?_));refine ybj rfl ?_ ?_<;>(intro ht;rw [ht];first|replace ht := oet_ ht|replace ht := oef_ ht|skip))|(refine ych ?_;first|(refine ybw rfl ?_ ?_<;>intro ht)|(refine ybx rfl ?_ ?_<;>intro ht)))
  (refine yco (ycp Tryz.func7 rfl (by kernel_rfl) rfl) (W0) rfl rfl rfl ?_ ?_ ?_; (· (exact to_)); (· intro _ _ hle; (exact to_)); intro x px hle)
  obtain ⟨h1, v1⟩ := x
  dsimp only at px hle ⊢
  have hle1 : Le h h1 := hle
  clear hle W0
  have px : Bs8 h1 v1 [0, 0, 0, 0, 0, 0, 0, 0] := px
  obtain ⟨_, ad1, cap1, rfl, _, _⟩ := id px
  repeat' (first|refine tw_ ?_|(refine ta_ ?_;intro _)|((fail_if_success (refine ybi rfl ?_));refine ybj rfl ?_ ?_<;>(intro ht;rw [ht];first|replace ht := oet_ ht|replace ht := oef_ ht|skip))|(refine ych ?_;first|(refine ybw rfl ?_ ?_<;>intro ht)|(refine ybx rfl ?_ ?_<;>intro ht)))
  refine rx_rowOf 1 1 1 (by omega) (by unfold maxLen; omega) rfl ?_
  refine rx_persist rfl fun h2 hle2 hs2 => ?_
  have hs2 : Bs8 h2 _ [1] := hs2
  have R1 := TRead_sp _ [1] (by intro b hb; rw [List.mem_singleton.1 hb]; omega) (by simp) h2 hs2
  rw [trS_one] at R1
  have px2 := px.mono hle2
  clear px
  (refine yco (ycp Tryz.func11 rfl (by kernel_rfl) rfl) (R1) rfl rfl rfl ?_ ?_ ?_; (· (exact to_)); (· intro _ _ hle; (exact to_)); intro x px hle)
  obtain ⟨h3, v3, zs⟩ := x
  dsimp only at px hle ⊢
  have hle3 : Le h2 h3 := hle
  clear hle R1
  have px3 := px2.mono hle3
  obtain ⟨_, ad3, cap3, rfl, _, _⟩ := id px.1.1
  repeat' (first|(refine ycf ?_;apply ybk;(·first|(apply yax (cs := zCfg);(·rfl);(·rfl)));(·rfl);(·rfl))|refine t1_ ?_|(refine ta_ ?_;intro _)|((fail_if_success (refine ybi rfl ?_));refine ybj rfl ?_ ?_<;>(intro ht;rw [ht];first|replace ht := oet_ ht|replace ht := oef_ ht|skip))|(refine ych ?_;first|(refine ybw rfl ?_ ?_<;>intro ht)|(refine ybx rfl ?_ ?_<;>intro ht)))
  (refine ycn (ycp Tryz.func23 rfl (by kernel_rfl) rfl) (play0_sp h3) rfl rfl rfl ?_ ?_; (· (exact to_)))
  repeat' (first|refine tw_ ?_|(refine ta_ ?_;intro _)|((fail_if_success (refine ybi rfl ?_));refine ybj rfl ?_ ?_<;>(intro ht;rw [ht];first|replace ht := oet_ ht|replace ht := oef_ ht|skip))|(refine ych ?_;first|(refine ybw rfl ?_ ?_<;>intro ht)|(refine ybx rfl ?_ ?_<;>intro ht)))
  refine cx_region_drawT [] [5, 6] rfl (by kernel_rfl) ?_
  repeat' (refine ycf ?_;(first|(first|(apply ybm;(·(first|(first|exact tk_|(refine qv_str_bs rfl px3))|exact tq_));(·rfl);(·rfl);(·(exact fun _ s => Hd.sub s (Le.refl h3) (fun r hr => (by cases hr)))))|refine ybl rfl rfl ?_|((fail_if_success (refine ybi rfl ?_));refine ybj rfl ?_ ?_<;>(intro ht;rw [ht];first|replace ht := oet_ ht|replace ht := oef_ ht|skip))|(refine tb_ ?_ ?_ ?_;(·(first|exact ybf|(refine .inl ?_;(exact fun _ s => Hd.sub s (Le.refl h3) (fun r hr => (by cases hr))))|exact to_));(·intro _;(first|exact ybf|(refine .inl ?_;(exact fun _ s => Hd.sub s (Le.refl h3) (fun r hr => (by cases hr))))|exact to_));intro _)|(first|(refine tqs_ ?_ ?_ ?_;(·(first|exact ybf|(refine .inl ?_;(exact fun _ s => Hd.sub s (Le.refl h3) (fun r hr => (by cases hr))))|exact to_));(·(first|exact ybf|(refine .inl ?_;(exact fun _ s => Hd.sub s (Le.refl h3) (fun r hr => (by cases hr))))|exact to_))))|(apply ybn;(·(first|(first|exact tk_|(refine qv_str_bs rfl px3))|exact tq_));(·rfl);(·rfl);(·rfl);(·(first|exact ybf|(refine .inl ?_;(exact fun _ s => Hd.sub s (Le.refl h3) (fun r hr => (by cases hr))))|exact to_))))|refine ycg ?_))
  refine yba (ma_makeBytes (m := 8) rfl rfl (by omega) (by omega)) rfl rfl rfl (by (first|exact ybf|(refine .inl ?_;(exact fun _ s => Hd.sub s (Le.refl h3) (fun r hr => (by cases hr))))|exact to_)) (fun _ => by (first|exact ybf|(refine .inl ?_;(exact fun _ s => Hd.sub s (Le.refl h3) (fun r hr => (by cases hr))))|exact to_)) ?_
  intro b
  repeat' (refine ycf ?_;(first|(first|(apply ybm;(·(first|(first|exact tk_|(refine qv_str_of (l := [0, 0, 0, 0, 0, 0, 0, 0]) rfl (yaz 0 rfl))|(refine qv_eql_str rfl rfl (beq_self_eq_true _)))|exact tq_));(·rfl);(·rfl);(·(exact fun _ s => Hd.sub s (Le.refl h3) (fun r hr => (by cases hr)))))|refine ybl rfl rfl ?_|((fail_if_success (refine ybi rfl ?_));refine ybj rfl ?_ ?_<;>(intro ht;rw [ht];first|replace ht := oet_ ht|replace ht := oef_ ht|skip))|(refine tb_ ?_ ?_ ?_;(·(first|exact ybf|(refine .inl ?_;(exact fun _ s => Hd.sub s (Le.refl h3) (fun r hr => (by cases hr))))|exact to_));(·intro _;(first|exact ybf|(refine .inl ?_;(exact fun _ s => Hd.sub s (Le.refl h3) (fun r hr => (by cases hr))))|exact to_));intro _)|(first|(refine tqs_ ?_ ?_ ?_;(·(first|exact ybf|(refine .inl ?_;(exact fun _ s => Hd.sub s (Le.refl h3) (fun r hr => (by cases hr))))|exact to_));(·(first|exact ybf|(refine .inl ?_;(exact fun _ s => Hd.sub s (Le.refl h3) (fun r hr => (by cases hr))))|exact to_))))|(apply ybn;(·(first|(first|exact tk_|(refine qv_str_of (l := [0, 0, 0, 0, 0, 0, 0, 0]) rfl (yaz 0 rfl))|(refine qv_eql_str rfl rfl (beq_self_eq_true _)))|exact tq_));(·rfl);(·rfl);(·rfl);(·(first|exact ybf|(refine .inl ?_;(exact fun _ s => Hd.sub s (Le.refl h3) (fun r hr => (by cases hr))))|exact to_))))|refine ycg ?_))
  repeat' (first|refine tw_ ?_|(refine ta_ ?_;intro _)|((fail_if_success (refine ybi rfl ?_));refine ybj rfl ?_ ?_<;>(intro ht;rw [ht];first|replace ht := oet_ ht|replace ht := oef_ ht|skip))|(refine ych ?_;first|(refine ybw rfl ?_ ?_<;>intro ht)|(refine ybx rfl ?_ ?_<;>intro ht)))
  exact nx_ret1 rfl (rv_tmp rfl) (fun w' s' => ⟨h3, rfl, s'.nil, trivial⟩)
end Go.Proofs.YtndpclcbobgdlaaGreatDoor
end

section
namespace Go.Proofs.YtndpclcbobgdlaaGreatDoor
open Go Go.Ck
set_option maxRecDepth 100000
set_option maxHeartbeats 4000000
set_option linter.unusedVariables false
theorem qv_minT {P : Program} {n : Nat} {F : List (Nat × Value)} {h : View} {L : List Res} {dst : Option Nat} {ty : Nat} {pos : String} {af : Array Edge} {gd : Option (Nat × Bool)} {ts : Array TypeId} {x y : Operand} {k : IntKind} {i j r : Int} (hx : ev F x = some (.int k i)) (hy : ev F y = some (.int k j)) (hr : (if j < i then j else i) = r) :
    QV P n F h L ⟨dst, .call ⟨.builtin .min, #[x, y], ts⟩, ty, pos, af, gd⟩ (.int k r) := by
  subst hr
  exact .mk fun a w f s => by simp [execOp, resolve, invoke, builtin, Builtin.min_, f.ev hx, f.ev hy, Builtin.min2]
theorem allR_of {A : List Ta} (h : ∀ a ∈ A, TaOk a) : allR A = true := List.all_eq_true.2 fun a ha => decide_eq_true (h a ha).r
theorem TraceReads_sp (bv : Value) (l : List Int) (h : View) (hb : Bytes l) (hs : Bs8 h bv l) (hl : l.length ≤ 9223372036854775807) (w : World) (s : St ⟨w, h, []⟩ h [] w) :
    Calls Tryz.prog 4 [bv].toArray w fun e w' => ∃ h', e = .returned (.bool true) ∧ St ⟨w, h, []⟩ h' [] w' := by
  obtain ⟨_, ad, cap, rfl, hcap, _⟩ := id hs
  refine calls_enter Tryz.func4 rfl Tryz.ntmps4 rfl s ?_
  have hj : (if (900 : Int) < (l.length : Int) then (900 : Int) else (l.length : Int)) = ((min l.length 900 : Nat) : Int) := by split<;>omega
  generalize hJ : min l.length 900 = j at hj
  have hjl : j ≤ l.length := by omega
  have hst : Bs8 h (.slice ad j cap) (l.take j) := by
    have htl : (l.take j).length = j := by simp; omega
    have := sc_take hs hjl
    unfold Bs8
    rw [htl]
    simpa [bcs, List.map_take] using this
  have hbm : Bytes (l.take j) := fun b hb' => hb b (List.mem_of_mem_take hb')
  have hml : (l.take j).length ≤ 900 := by simp; omega
  have hjm : (l.take j).length = j := by simp; omega
  generalize l.take j = m at hst hbm hml hjm
  subst hjm
  repeat' (first|(refine ycf ?_;apply ybk;(·first|(first|(refine qv_minT rfl rfl hj)|(apply qv_slice_to;(·rfl);(·rfl);(·omega);(·omega))));(·rfl);(·rfl))|refine t1_ ?_|(refine ta_ ?_;intro _)|((fail_if_success (refine ybi rfl ?_));refine ybj rfl ?_ ?_<;>(intro ht;rw [ht];first|replace ht := oet_ ht|replace ht := oef_ ht|skip))|(refine ych ?_;first|(refine ybw rfl ?_ ?_<;>intro ht)|(refine ybx rfl ?_ ?_<;>intro ht)))
  (refine yco (ycp Tryz.func11 rfl (by kernel_rfl) rfl) (TRead_sp _ m hbm (by omega) h hst) rfl rfl rfl ?_ ?_ ?_; (· (exact to_)); (· intro _ _ hle; (exact to_)); intro x px hle)
  obtain ⟨h1, v1, zs⟩ := x
  dsimp only at px hle ⊢
  obtain ⟨S1, e1⟩ := px
  have hle1 : Le h h1 := hle
  clear hle
  have b1 : Bs8 h1 (.slice ad m.length cap) m := hst.mono hle1
  have R1 := rTRead_sp m hbm (by omega) h1
  obtain ⟨_, p1, q1, rfl, _, _⟩ := id S1.1
  repeat' (first|(refine ycf ?_;apply ybk;(·first|(exact qv_str_bs rfl b1));(·rfl);(·rfl))|refine t1_ ?_|(refine ta_ ?_;intro _)|((fail_if_success (refine ybi rfl ?_));refine ybj rfl ?_ ?_<;>(intro ht;rw [ht];first|replace ht := oet_ ht|replace ht := oef_ ht|skip))|(refine ych ?_;first|(refine ybw rfl ?_ ?_<;>intro ht)|(refine ybx rfl ?_ ?_<;>intro ht)))
  (refine yco (ycp Tryz.func12 rfl (by kernel_rfl) rfl) (R1) rfl rfl rfl ?_ ?_ ?_; (· (exact to_)); (· intro _ _ hle; (exact to_)); intro x px hle)
  obtain ⟨h2, v2, ws⟩ := x
  dsimp only at px hle ⊢
  obtain ⟨S2, e2⟩ := px
  have hle2 : Le h1 h2 := hle
  clear hle R1
  obtain ⟨_, p2, q2, rfl, _, _⟩ := id S2.1
  have b2 := b1.mono hle2
  have S12 := S1.mono hle2
  have ew : zs.length = ws.length := by rw [← List.length_map (f := Ts.a), e1, ← e2, List.length_map]
  have TK := @trS_took m hbm (by omega)
  generalize trS m = R at e1 e2 TK ⊢
  obtain ⟨t, A⟩ := R
  dsimp only at e1 e2 TK ⊢
  repeat' (first|refine tw_ ?_|(refine ta_ ?_;intro _)|((fail_if_success (refine ybi rfl ?_));refine ybj rfl ?_ ?_<;>(intro ht;rw [ht];first|replace ht := oet_ ht|replace ht := oef_ ht|skip))|(refine ych ?_;first|(refine ybw rfl ?_ ?_<;>intro ht)|(refine ybx rfl ?_ ?_<;>intro ht)))
  (refine yco (ycp Tryz.func8 rfl (by kernel_rfl) rfl) (traces_sp h2) rfl rfl rfl ?_ ?_ ?_; (· (exact to_)); (· intro _ _ hle; (exact to_)); intro x px hle)
  obtain ⟨h3, rfl⟩ : ∃ y, y = x := ⟨x, rfl⟩
  have hle3 : Le h2 h3 := hle
  clear px hle
  have b3 := b2.mono hle3
  cases t with
  | false =>
    rw [if_neg (by decide)]
    repeat' (first|(refine ycf ?_;apply ybk;(·first|(first|(apply qv_neq_bool (t := false);(·rfl);(·rfl);(·rfl))|exact tk_));(·rfl);(·rfl))|refine t1_ ?_|(refine ta_ ?_;intro _)|((fail_if_success (refine ybi rfl ?_));refine ybj rfl ?_ ?_<;>(intro ht;rw [ht];first|replace ht := oet_ ht|replace ht := oef_ ht|skip))|(refine ych ?_;first|(refine ybw rfl ?_ ?_<;>intro ht)|(refine ybx rfl ?_ ?_<;>intro ht)))
    exact nx_ret1 rfl (rv_tmp rfl) (fun w' s' => ⟨h3, rfl, s'.nil⟩)
  | true =>
    rw [if_pos rfl]
    obtain ⟨k1, k2, k3⟩ := TK rfl
    have hzl : zs.length ≤ 1000 := by rw [← List.length_map (f := Ts.a), e1]; exact k3
    have hsz : ((zs.map Ts.a).flatMap encT).length ≤ 900000 := by
      have := congrArg List.length k1
      unfold encL at this
      rw [List.length_append] at this
      rw [e1]
      omega
    have W3 := TWrite_sp _ zs h3 (S12.mono hle3) hzl hsz
    rw [e1, allR_of k2, if_pos rfl, if_pos rfl, k1] at W3
    repeat' (first|(refine ycf ?_;apply ybk;(·first|(first|(apply qv_neq_bool (t := false);(·rfl);(·rfl);(·rfl))|exact tk_));(·rfl);(·rfl))|refine t1_ ?_|(refine ta_ ?_;intro _)|((fail_if_success (refine ybi rfl ?_));refine ybj rfl ?_ ?_<;>(intro ht;rw [ht];first|replace ht := oet_ ht|replace ht := oef_ ht|skip))|(refine ych ?_;first|(refine ybw rfl ?_ ?_<;>intro ht)|(refine ybx rfl ?_ ?_<;>intro ht)))
    (refine yco (ycp Tryz.func7 rfl (by kernel_rfl) rfl) (W3) rfl rfl rfl ?_ ?_ ?_; (· (exact to_)); (· intro _ _ hle; (exact to_)); intro x px hle)
    obtain ⟨h4, v4⟩ := x
    dsimp only at px hle ⊢
    have hle4 : Le h3 h4 := hle
    have b4 := b3.mono hle4
    repeat' (first|(refine ycf ?_;apply ybk;(·first|(first|exact qv_str_bs rfl b4|exact qv_str_bs rfl px|(apply qv_eql_str (t := true);(·rfl);(·rfl);(·simp))|exact tk_));(·rfl);(·rfl))|refine t1_ ?_|(refine ta_ ?_;intro _)|((fail_if_success (refine ybi rfl ?_));refine ybj rfl ?_ ?_<;>(intro ht;rw [ht];first|replace ht := oet_ ht|replace ht := oef_ ht|skip))|(refine ych ?_;first|(refine ybw rfl ?_ ?_<;>intro ht)|(refine ybx rfl ?_ ?_<;>intro ht)))
    exact nx_ret1 rfl (rv_tmp rfl) (fun w' s' => ⟨h4, rfl, s'.nil⟩)
end Go.Proofs.YtndpclcbobgdlaaGreatDoor
end

section
namespace Go.Ck
open Go Go.ChangeShapes
set_option linter.unusedVariables false
set_option maxHeartbeats 1000000
section
variable {H : Type} {enc : TypeId × Value → H} {P : Program} {w : World} {base : Nat} {spare : Nat → Bool} {held : Bool}
theorem cells_get' {a : Addr} {n : Nat} {cs : List Value} (h : w.cells? base a n = some cs) {j : Nat} {u : Value} (hj : cs[j]? = some u) : w.cell? (a.add j) = some u := by
  unfold World.cells? at h
  split at h
  · have hl := mapM_some_length h
    have hjl : j < cs.length := (List.getElem?_eq_some_iff.1 hj).1
    have := mapM_some_get h j j (by rw [List.length_range] at hl; exact List.getElem?_range (by omega))
    rw [this, hj]
  · cases h
theorem trod_slice_of {T e k : Nat} {α : Type} {en : α → List Value} {R : α → Prop} (tu : P.underlying T = some (.slice e)) (hc : P.cellsOf e = k) (hk0 : 0 < k) (hlen : ∀ x, (en x).length = k)
    (hel : ∀ (m : Nat) (cs : List Value) (y : DataW H × List MemPlace), DataW.trod enc P w base spare held m e cs = some y → ∃ x : α, R x ∧ cs = en x)
    {m : Nat} {cs : List Value} {y : DataW H × List MemPlace} (h : DataW.trod enc P w base spare held m T cs = some y) :
    ∃ (v : Value) (l : List α), cs = [v] ∧ Sc (fun b => w.heap[b]?) k v l.length (l.flatMap en) ∧ l.length ≤ maxLen ∧ ∀ x ∈ l, R x := by
  subst hc
  rcases Go.Deep.open_slice tu h with ⟨rfl, _⟩ | ⟨a, len, cap, q, n, D, Pl, rfl, _, h1, h2, hk, _, hall⟩
  · exact ⟨_, [], rfl, Sc.nil _ _ none 0, Nat.zero_le _, fun x hx => by cases hx⟩
  · have hkl : len ≤ q := by rw [hk]; split <;> omega
    have hex : ∀ i, i < len → ∃ d : α, R d ∧ w.cells? base (a.add (i * P.cellsOf e)) (P.cellsOf e) = some (en d) := fun i hi => by
      obtain ⟨cs', e1, e2⟩ := hall i (by omega)
      obtain ⟨d, hr, rfl⟩ := hel _ _ _ e2
      exact ⟨d, hr, e1⟩
    generalize P.cellsOf e = k at hex hk0 hlen ⊢
    by_cases h0 : len = 0
    · subst h0
      exact ⟨_, [], rfl, ⟨by simp, some a, cap, rfl, Nat.zero_le _, .inl rfl⟩, Nat.zero_le _, fun x hx => by cases hx⟩
    obtain ⟨d0, _⟩ := hex 0 (by omega)
    obtain ⟨f, hf'⟩ : ∃ f : Nat → α, ∀ i, i < len → R (f i) ∧ w.cells? base (a.add (i * k)) k = some (en (f i)) := by
      classical
      exact ⟨fun i => if hi : i < len then (hex i hi).choose else d0, fun i hi => by
        dsimp only
        rw [dif_pos hi]
        exact (hex i hi).choose_spec⟩
    have hf := fun i hi => (hf' i hi).2
    refine ⟨_, (List.range len).map f, rfl, ⟨?_, some a, cap, by simp, by simpa using h1, ?_⟩, by simp; omega, fun x hx => ?_⟩
    · rw [flat_len hlen]
    · refine .inr ?_
      have hc00 : 0 < (en (f 0)).length := by rw [hlen]; exact hk0
      have hc0 := cells_get' (hf 0 (by omega)) (j := 0) (List.getElem?_eq_getElem hc00)
      obtain ⟨b, o, sp⟩ := a
      have hadd : ∀ i j, ((⟨b, o, sp⟩ : Addr).add i).add j = (⟨b, o, sp⟩ : Addr).add (i + j) := fun i j => Go.Deep.add_add _ i j
      rw [hadd] at hc0
      have hblk : ((⟨b, o, sp⟩ : Addr).add (0 * k + 0)) = ⟨b, o, sp⟩ := by simp [Addr.add]
      rw [hblk] at hc0
      unfold World.cell? at hc0
      split at hc0
      · rename_i c e fz hb
        split at hc0
        · cases hc0
        · rename_i hsp
          have hsp' : sp = none := by simpa using hsp
          subst hsp'
          refine ⟨b, o, c, e, fz, rfl, hb, fun j u hj => ?_⟩
          have hjl : j < len * k := by
            have := (List.getElem?_eq_some_iff.1 hj).1
            rw [flat_len hlen] at this
            simpa using this
          have hjk : j / k < len := Nat.div_lt_of_lt_mul (by rw [Nat.mul_comm]; exact hjl)
          have hd : j / k < ((List.range len).map f).length := by simpa using hjk
          have e1 : (((List.range len).map f).flatMap en)[j]? = (en (f (j / k)))[j % k]? := by
            have := flat_at hlen ((List.range len).map f) (j / k) hd
            have e3 : ((List.range len).map f)[j / k] = f (j / k) := by simp
            rw [e3] at this
            rw [← this, List.getElem?_take_of_lt (Nat.mod_lt _ hk0), List.getElem?_drop]
            congr 1
            rw [Nat.mul_comm]
            exact (Nat.div_add_mod j k).symm
          rw [e1] at hj
          have := cells_get' (hf (j / k) hjk) hj
          rw [hadd, Addr.add_off] at this
          unfold World.cell? at this
          simp only [hb] at this
          simp only [Option.isSome_none, Bool.false_eq_true, if_false] at this
          have ej : j / k * k + j % k = j := by rw [Nat.mul_comm]; exact Nat.div_add_mod j k
          rw [ej] at this
          exact this
      · cases hc0
    · obtain ⟨i, hi, rfl⟩ := List.mem_map.1 hx
      exact (hf' i (by simpa using hi)).1
end
end Go.Ck
end

section
namespace Go.Proofs.YtndpclcbobgdlaaGreatDoor
open Go Go.Ck Go.ChangeShapes
set_option maxRecDepth 100000
set_option maxHeartbeats 1000000
set_option linter.unusedVariables false
theorem cellsByte : Tryz.prog.cellsOf 5 = 1 := by kernel_rfl
theorem bcs_flat (l : List Int) : l.flatMap (fun n => [Value.int .u8 n]) = bcs l := by
  induction l with
  | nil => rfl
  | cons x l ih => rw [List.flatMap_cons, ih]; rfl
theorem trod_bs {H : Type} {enc : TypeId × Value → H} {w : World} {base : Nat} {spare : Nat → Bool} {held : Bool} {m : Nat} {cs : List Value} {y : DataW H × List MemPlace} (h : DataW.trod enc Tryz.prog w base spare held m 28 cs = some y) :
    ∃ (v : Value) (l : List Int), cs = [v] ∧ Bs8 (fun b => w.heap[b]?) v l ∧ Bytes l ∧ l.length ≤ maxLen := by
  obtain ⟨v, l, h1, h2, h3, h4⟩ := trod_slice_of (en := fun n : Int => [Value.int .u8 n]) (R := fun n => 0 ≤ n ∧ n < 256) Tryz.underlying28 cellsByte (by decide) (fun _ => rfl) (fun m cs y hy => by
    obtain ⟨n, e1, _, e3⟩ := DataW.trod_int Tryz.underlying5 hy
    obtain ⟨q1, q2⟩ := (Lit.wf_int_iff .u8 n).1 e3
    have m1 : IntKind.u8.min = 0 := by decide
    have m2 : IntKind.u8.max = 255 := by decide
    exact ⟨n, ⟨by omega, by omega⟩, e1⟩) h
  rw [bcs_flat] at h2
  exact ⟨v, l, h1, h2, h4, h3⟩
end Go.Proofs.YtndpclcbobgdlaaGreatDoor
end

section
namespace Go.Ck
open Go
theorem goes_none {P : Program} (h : (P.funcs.toList.all fun f => !f.goes) = true) (f : FuncId) : P.goes f = false := by
  have h1 : ∀ fn ∈ P.funcs, fn.goes = false := fun fn hf => by
    have := List.all_eq_true.1 h fn (Array.mem_toList_iff.2 hf)
    simpa using this
  unfold Program.goes
  rw [Bool.or_eq_false_iff]
  refine ⟨?_, ?_⟩
  · rw [Bool.eq_false_iff]
    intro hx
    rw [List.any_eq_true] at hx
    obtain ⟨g, _, hg⟩ := hx
    cases e : P.funcs[g]? with
    | none => rw [e] at hg; cases hg
    | some fn =>
      rw [e] at hg
      have hm : fn ∈ P.funcs := Array.mem_of_getElem? e
      have := h1 fn hm
      simp [this] at hg
  · have : P.funcs.any Func.goes = false := by
      rw [Bool.eq_false_iff]
      intro hx
      rw [Array.any_eq_true'] at hx
      obtain ⟨fn, hm, hg⟩ := hx
      rw [h1 fn hm] at hg
      cases hg
    rw [this, Bool.and_false]
theorem goesBy_none {P : Program} {c : OpenClaim} (hs : c.start = .entering) (h : (P.funcs.toList.all fun f => !f.goes) = true) : false = c.goesBy P := by
  unfold OpenClaim.goesBy Program.goesAt Program.goesFrom
  rw [hs]
  cases e : P.funcNamed c.func with
  | none => rfl
  | some f =>
    show false = (P.goes f || false)
    rw [goes_none h f]
    rfl
end Go.Ck
end

section
namespace Go.Proofs.YtndpclcbobgdlaaGreatDoor.traceReads
open Go Go.Ck Go.ChangeShapes Go.WideShapes Go.ChangeAt Go.RowKit
set_option maxRecDepth 100000
set_option maxHeartbeats 1000000
set_option linter.unusedVariables false
theorem laidOut : laidOutB Tryz.prog = true := by kernel_rfl
theorem own : ownKnob Tryz.prog.godebug = none := by kernel_rfl
theorem door_met (os : Os) (args : Array Value) : laidMetH Tryz.prog Rows.traceReadsRow.laid ((World.doorLaid Tryz.prog 400 os).forCall (fun _ _ => 0) ⟨#[], args, []⟩).memory :=
  laidMetH_of_parts3 (fuel := 8) (laidMet_of_run' 8 (by kernel_rfl) (by kernel_rfl)) (by kernel_rfl) (by kernel_rfl)
theorem contract (H : Type) (enc : TypeId × Value → H) (W : World) (base : Nat) (args : Array Value) (ds gs : List (DataW H)) (before : List MemPlace)
    (hval : ∀ (j : Nat) t v, Tryz.f4.params[j]? = some t → args[j]? = some v → Value.okWide Tryz.prog W .any base t v)
    (hW : DataW.Whole enc Tryz.prog Tryz.f4.params.toList Rows.traceReadsSpec.vars false W args.toList ds gs before) (hL : laidMetH Tryz.prog Rows.traceReadsRow.laid W) :
    Calls Tryz.prog 4 args W fun e W' => ∃ v, e = .returned v ∧ Rows.traceReadsSpec.post enc Tryz.prog Tryz.f4 false true false false W args v W' := by
  have hW' := hW
  obtain ⟨p, q, hA0, hV, rfl, hfz, hnd⟩ := hW
  have hA : DataW.TrodAll enc Tryz.prog W 0 (fun _ => true) true Tryz.f4.params.toList args.toList ds p := hA0
  rw [Tryz.params4] at hA hval
  obtain ⟨v0, vs0, d0, ds0, p0, q0, hargs0, rfl, rfl, h0, r0⟩ := trodAll_cons hA
  obtain ⟨rfl, rfl, rfl⟩ := trodAll_nil r0
  obtain rfl : args = #[v0] := by cases args; simp_all
  obtain ⟨rfl, rfl⟩ := trodVars_none hV
  obtain ⟨a0, len0, cap0, rfl⟩ := okWide_slice Tryz.underlying28 (hval 0 28 v0 rfl rfl)
  obtain ⟨fu0, g0⟩ := id h0
  obtain ⟨sv0, l0, hsv0, hd0, hb0, hl0⟩ := trod_bs g0
  obtain rfl : Value.slice a0 len0 cap0 = sv0 := by
    have e : (Value.slice a0 len0 cap0).cells.toList = [Value.slice a0 len0 cap0] := rfl
    rw [e] at hsv0
    exact (List.cons.inj hsv0).1
  have hl0 : l0.length ≤ 9223372036854775807 := by unfold maxLen at hl0; omega
  have hst : St ⟨W, fun b => W.heap[b]?, []⟩ (fun b => W.heap[b]?) [] W := St.start (L := []) ⟨fun b o hb => hb, fun r hr => (by cases hr)⟩ (by simp [doms]) (fun b hb => (by simp [doms] at hb))
  refine (TraceReads_sp _ l0 _ hb0 hd0 hl0 W hst).mono fun e W' ⟨h', he, s'⟩ => ?_
  subst he
  have hb : Below W.heap.size W W' := ⟨s'.os, s'.tape, s'.output, s'.size, fun k hk => s'.keep k hk (by simp)⟩
  simp only [List.append_nil] at hW'
  have hlt0 : ∀ x ∈ p0, x.block < W.heap.size := fun x hx => by simpa using hW'.lt x (by simp [hx])
  exact ⟨_, rfl, _, _, _, [], p0, [], hW', trodAll_cons_mk (shut_bool Tryz.underlying4 _) trodAll_mk0,
    by
      have h := (trodAll_cons_mk (Below.trod laidOut (by kernel_rfl) (oet_ (by kernel_rfl)) h0 hb hlt0) trodAll_mk0)
      simp only [List.append_nil] at h
      exact h,
    rfl, hb.frame _, fun h => by cases h⟩
set_option maxRecDepth 100000 in
theorem lifted (os : Os) (started : os.Started) (H : Type) (enc : TypeId × Value → H) :
    ReturnsInHanded {} Tryz.checked os 4 .any (fun w args => (Rows.traceReadsSpec.pre enc Tryz.prog Tryz.f4 Rows.traceReadsRow.domain false w args ∧ laidMetH Tryz.prog Rows.traceReadsRow.laid w) ∧ sizedMet enc Tryz.prog Tryz.f4 (OpenSpec.ofChange Rows.traceReadsSpec) false w args) (Rows.traceReadsSpec.post enc Tryz.prog Tryz.f4 false true false false) := by
  refine returnsInHanded_of_change_and (C := Tryz.checked) (X := fun w _ => laidMetH Tryz.prog Rows.traceReadsRow.laid w) (fun _ _ _ hh h => h.of_heap hh) own started (by kernel_rfl) Tryz.func4
    (ChangeSpec.witness_shaped (enc := enc) (C := Tryz.checked) (os := os) (X := fun w _ => laidMetH Tryz.prog Rows.traceReadsRow.laid w) false (World.doorLaid Tryz.prog 400 os) #[.slice none 0 0] 8 rfl (World.shaped_of_RefB (by kernel_rfl) (by kernel_rfl)) (by kernel_rfl) (by kernel_rfl) (by kernel_rfl) (door_met os _)) ?_
  intro W base args ds gs before hval hW _ _ hL _
  exact contract H enc W base args ds gs before hval hW hL
theorem c_laid : laidOutB Tryz.pinned.checked.prog = true := by kernel_rfl
theorem c_maps : mapsRowed Tryz.pinned.checked.prog = true := by kernel_rfl
theorem c_inPlace : (Rows.traceReadsRow.inPlace == Tryz.pinned.checked.prog.inPlace 4) = true := by kernel_rfl
theorem c_unf : (Rows.traceReadsRow.unfollowed == Tryz.pinned.checked.prog.unfollowed 4) = true := by kernel_rfl
theorem c_rec : (Rows.traceReadsRow.recurses == Tryz.pinned.checked.prog.recurses 4) = true := by kernel_rfl
theorem c_named : (Rows.traceReadsRow.named == Tryz.pinned.checked.prog.varsNamed 4) = true := by kernel_rfl
theorem closed : joinedFacts Tryz.pinned.checked.prog 4 Tryz.f4 Rows.traceReadsSpec Rows.traceReadsRow = true := by
  unfold joinedFacts
  rw [c_laid, c_maps, c_inPlace, c_unf, c_rec, c_named]
  kernel_rfl
theorem over : Rows.TraceReadsSaid :=
  OpenClaim.holds_of_wide 4 Tryz.f4 rfl rfl rfl rfl rfl rfl rfl ⟨rfl, rfl, rfl, rfl, rfl⟩ rfl rfl rfl rfl rfl (by kernel_rfl) Tryz.func4 closed
    (oet_ (by kernel_rfl)) (by unfold Func.isWrapper;first|(rw [if_pos (by decide +kernel)];kernel_rfl)|(rw [if_neg (by decide +kernel)];exact ⟨rfl, rfl⟩))
    (fun os started H enc _ => lifted os started H enc)
theorem proved : Rows.TraceReadsCardSaid :=
  Claim7.holds_tied_plain_at .later [] Rows.traceReadsCard.laidKinds true Rows.traceReadsCard.stood.harness false
    over (fun _ h => by cases h) (by kernel_rfl) (fun _ h => by cases h) traceReads_row_tie rfl ⟨rfl, rfl⟩ (by kernel_rfl) rfl
    (fun f fn hf hfn => by
      obtain rfl : f = 4 := Option.some.inj ((show Tryz.prog.funcNamed "casket/casketlaw34.TraceReads" = some 4 by kernel_rfl).symm.trans hf) |>.symm
      obtain rfl : fn = Tryz.f4 := (Option.some.inj (Tryz.func4.symm.trans hfn)).symm
      exact ⟨by kernel_rfl, fun j t ht => by
        rw [Tryz.params4] at ht
        have hm : t ∈ [28] := by simpa using Array.mem_of_getElem? ht
        have hall : ([28].all fun u => !Tryz.prog.wantsStandIn u) = true := by kernel_rfl
        exact (show Tryz.prog.wantsStandIn t = false by simpa using List.all_eq_true.1 hall t hm)⟩)
    (goesBy_none rfl (by kernel_rfl))
end Go.Proofs.YtndpclcbobgdlaaGreatDoor.traceReads
end
