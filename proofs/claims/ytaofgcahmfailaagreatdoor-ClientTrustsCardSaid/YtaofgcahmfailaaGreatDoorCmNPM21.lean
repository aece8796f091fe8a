/-
  Part 21 of a proof: CmN CkTrod CkTrodS CkWeigh DotO BitN SbV CiL CmO.
  Conditions: each theorem states its own.
-/
import Derived.Deep.Slices
import Derived.Carry
import Derived.DataReads
import GoSem.ClaimJoined
import Derived.DataShut
import Derived.Test.YtaofgcahmfailaaGreatDoorCmNPM20
set_option maxRecDepth 100000
set_option linter.unusedVariables false
set_option linter.unusedSimpArgs false
section
namespace Go.Proofs.YtaofgcahmfailaaGreatDoor
open Go Go.Ck
set_option maxHeartbeats 4000000
theorem ClientTrusts_sp (row : List ActD) (vr : Value) (ac : ActD) (h : View) (hR : Acts h vr row) (hRl : row.length ≤ 9223372036854775807) (hRx : ∀ x ∈ row, x.val.length ≤ 9223372036854775807 ∧ x.l.length ≤ 9223372036854775807) (hx : Av h ac) (hw : ac.which.length ≤ 9223372036854775807) (hrl : ac.raw.length ≤ 9223372036854775807)
    (hrw : ∀ s ∈ ac.raw, s.l.length ≤ 8796093022208 ∧ s.b.length ≤ 140737488355328) (w : World) (s : St ⟨w, h, []⟩ h [] w) :
    Calls Tryz.prog 5 [vr, .agg (acc ac).toArray].toArray w fun e w' => ∃ h', e = .returned (.bool true) ∧ St ⟨w, h, []⟩ h' [] w' := by
  have hk : Bytes (key1 5) := key1_by (by omega)
  have hal := acc_len ac
  have hone := acc_oneT hx
  obtain ⟨_, adr, capr, evr, hcapr, _⟩ := id hR.1
  refine calls_enter Tryz.func5 rfl Tryz.ntmps5 rfl s ?_
  repeat' (first|(refine ybg 0 rfl rfl rfl (by show (acc ac).toArray.size = 25;rw [List.size_toArray, hal]) (by show 0 + (acc ac).toArray.size ≤ 25;rw [List.size_toArray, hal];omega) hone (ybh (by show (acc ac).length = 25;rw [hal])) rfl rfl ?_ ?_ ?_;(·(exact to_));(·(exact to_)))|refine t1_ ?_|(refine ta_ ?_;intro _)|((fail_if_success (refine ybi rfl ?_));refine ybj rfl ?_ ?_<;>(intro ht;rw [ht];first|replace ht := oet_ ht|replace ht := oef_ ht|skip))|(refine ych ?_;first|(refine ybw rfl ?_ ?_<;>intro ht)|(refine ybx rfl ?_ ?_<;>intro ht)))
  rename_i b3
  (refine yco (ycp Tryz.func12 rfl (by kernel_rfl) rfl) (begin7_sp true h) rfl rfl rfl ?_ ?_ ?_; (· (exact to_)); (· intro _ _ hle; (exact to_)); intro x px hle)
  obtain ⟨h1, ⟨bv, bn, bu, bt⟩, ⟨c1, m1, c2, m2⟩, bW, d1, d2⟩ := x
  dsimp only at px hle ⊢
  have hv1 : Vb h1 bv true (key1 5) bn bu bt := px
  have hle1 : Le h h1 := hle
  clear px hle
  repeat' (first|refine tw_ ?_|(refine ta_ ?_;intro _)|((fail_if_success (refine ybi rfl ?_));refine ybj rfl ?_ ?_<;>(intro ht;rw [ht];first|replace ht := oet_ ht|replace ht := oef_ ht|skip))|(refine ych ?_;first|(refine ybw rfl ?_ ?_<;>intro ht)|(refine ybx rfl ?_ ?_<;>intro ht)))
  (refine yco (ycp Tryz.func8 rfl (by kernel_rfl) rfl) (clients_sp h1) rfl rfl rfl ?_ ?_ ?_; (· (exact to_)); (· intro _ _ hle; (exact to_)); intro x px hle)
  obtain ⟨h2, rfl⟩ : ∃ y, y = x := ⟨x, rfl⟩
  have hle2 : Le h1 h2 := hle
  clear px hle
  have hle12 : Le h h2 := hle1.trans hle2
  repeat' ((fail_if_success (refine ybq ?_));(first|(refine ycf ?_;apply ybk;(·first|(first|exact tk_|(apply qv_eql_pnil<;>rfl)));(·rfl);(·rfl))|refine t1_ ?_|(refine ta_ ?_;intro _)|((fail_if_success (refine ybi rfl ?_));refine ybj rfl ?_ ?_<;>(intro ht;rw [ht];first|replace ht := oet_ ht|replace ht := oef_ ht|skip))|(refine ych ?_;first|(refine ybw rfl ?_ ?_<;>intro ht)|(refine ybx rfl ?_ ?_<;>intro ht))))
  refine cx_row 77 20 (cx_row 9 1 (cx_row 67 22 ?_))
  refine cx_piece (loop1_sp w h (Res.blk b3 (.cells (acc ac).toArray 41 (0, 0))) vr (.pointer (some ⟨b3, 0, none⟩)) row bW bv c1 c2 m1 m2 d1 d2 bn bu bt (key1 5) hk rfl h2 ⟨hR.1.mono hle12, fun a ha => (hR.2 a ha).mono hle12⟩ hRl hRx (hv1.mono hle2) _ rfl) ts_ (fun _ s => s.picks [3, 3, 3, 3, 3, 3, 3, 3, 0, 0, 0, 0]) ?_
  rintro ⟨i, y, va, vm, lv⟩ ⟨hi8, ok, hle3⟩
  dsimp only at hi8 ok hle3 ⊢
  refine yby ?_
  unfold LRT
  refine cx_picks [8, 8, 8, 0, 0, 3, 4, 4] ?_
  refine cx_persist rfl fun h4 hle4 hA4 => ?_
  refine cx_persist rfl fun h5 hle5 hM5 => ?_
  refine cx_persist rfl fun h6 hle6 hL6 => ?_
  have hle46 : Le h4 h6 := hle5.trans hle6
  have hle36 : Le y.hh h6 := hle4.trans hle46
  have hle6a : Le h h6 := (hle12.trans hle3).trans hle36
  have hA6 := hA4.mono hle46
  have hM6 := hM5.mono hle6
  have hRs6 : Rs h6 lv y.LL := ⟨hL6, fun s hs => (ok.lv s hs).1.mono hle36⟩
  have hLl : y.LL.length ≤ 1000 := by have := ok.ll; omega
  have hAl : y.AA.length ≤ 1000 := by have := ok.an; omega
  have hx6 := hx.mono hle6a
  obtain ⟨AA, hAA⟩ : ∃ AA, AA = y.AA := ⟨_, rfl⟩
  obtain ⟨MM, hMM⟩ : ∃ MM, MM = y.MM := ⟨_, rfl⟩
  repeat' (first|(refine ycf ?_;apply ybk;(·first|(first|exact tk_|(apply yad (vs := acc ac);(·rfl);(·exact yaz 4 rfl);(·exact hal))));(·rfl);(·rfl))|refine t1_ ?_|(refine ta_ ?_;intro _)|((fail_if_success (refine ybi rfl ?_));refine ybj rfl ?_ ?_<;>(intro ht;rw [ht];first|replace ht := oet_ ht|replace ht := oef_ ht|skip))|(refine ych ?_;first|(refine ybw rfl ?_ ?_<;>intro ht)|(refine ybx rfl ?_ ?_<;>intro ht)))
  (refine rx_call_m (ycp Tryz.func21 rfl (by kernel_rfl) rfl) (perm_at (k := 0) rfl) (siblings7_sp bW bv c1 c2 d1 d2 lv y.LL ac h6 hRs6 (fun s hs => ⟨(ok.lv s hs).2.1, (ok.lv s hs).2.2.1⟩) hLl hx6 hw) rfl rfl rfl ?_ ?_ ?_; (· (exact to_)); (· intro _ _ hle; (exact to_)); intro x px hle)
  obtain ⟨h7, v17, S⟩ := x
  obtain ⟨hS4, hS⟩ := px
  dsimp only at hS4 hS hle ⊢
  have hle7 : Le h6 h7 := hle
  clear hle
  have hS7 : ∀ s ∈ S, Rv h7 s ∧ s.l.length ≤ 8796093022208 ∧ s.b.length ≤ 140737488355328 := fun s hs => by
    obtain ⟨q1, q2, z, hz, q3⟩ := hS s hs
    have := (ok.lv z hz).2.2.2
    exact ⟨q1, by rw [q3]; omega, by omega⟩
  repeat' ((fail_if_success (refine ybq ?_));(first|(refine ycf ?_;apply ybk;(·first|(exact tk_));(·rfl);(·rfl))|refine t1_ ?_|(refine ta_ ?_;intro _)|((fail_if_success (refine ybi rfl ?_));refine ybj rfl ?_ ?_<;>(intro ht;rw [ht];first|replace ht := oet_ ht|replace ht := oef_ ht|skip))|(refine ych ?_;first|(refine ybw rfl ?_ ?_<;>intro ht)|(refine ybx rfl ?_ ?_<;>intro ht))))
  refine cx_piece (loop2_sp w h (clR (ccK c1 c2 false) (idK false) bv (y.e false) (y.t false) (ccK m1 m2 false)) (nmR bn y.N) (tbR bt y.T) va vm bW bv c1 c2 d1 d2 b3 lv y.LL ac v17 S hS4 h7 (hRs6.mono hle7) hLl (fun s hs => (ok.lv s hs).2.2.1) (hx6.mono hle7) hrl hrw hS7 _ rfl) ts_ (fun _ s => s.picks [0, 4, 0, 0, 0, 0]) ?_
  rintro ⟨v17b, S2⟩ ⟨hS6, hS2⟩
  dsimp only at hS6 hS2 ⊢
  refine yby ?_
  refine cx_persist rfl fun h8 hle8 hS8 => ?_
  have hR8 : Rs h8 v17b S2 := ⟨hS8, fun s hs => (hS2 s hs).1.mono hle8⟩
  repeat' ((fail_if_success (refine ybq ?_));(first|(refine ycf ?_;apply ybk;(·first|(exact tk_));(·rfl);(·rfl))|refine t1_ ?_|(refine ta_ ?_;intro _)|((fail_if_success (refine ybi rfl ?_));refine ybj rfl ?_ ?_<;>(intro ht;rw [ht];first|replace ht := oet_ ht|replace ht := oef_ ht|skip))|(refine ych ?_;first|(refine ybw rfl ?_ ?_<;>intro ht)|(refine ybx rfl ?_ ?_<;>intro ht))))
  refine cx_row 47 20 ?_
  refine cx_piece (loop3_sp w h (Res.blk b3 (.cells (acc ac).toArray 41 (0, 0))) (wlR bW bv c1 c2 d1 d2 lv) (clR (ccK c1 c2 false) (idK false) bv (y.e false) (y.t false) (ccK m1 m2 false)) (nmR bn y.N) (tbR bt y.T) (.pointer (some ⟨b3, 0, none⟩)) (.pointer (some ⟨bW, 0, none⟩)) va vm v17b S2 hS6 h8 hR8 (fun s hs => (hS2 s hs).2) _ rfl) ts_ (fun _ s => s) ?_
  rintro ⟨h9, vin, I⟩ ⟨hle9, hIa, hI⟩
  dsimp only at hle9 hIa hI ⊢
  refine yby ?_
  refine cx_persist rfl fun h10 hle10 hI10 => ?_
  have hIs : Ss h10 vin I := ⟨hI10, fun s hs => (hI s hs).mono hle10⟩
  obtain ⟨adi, capi, rfl⟩ : ∃ a c, vin = .slice a I.length c := by obtain ⟨_, a, c, e, _⟩ := hIs.1; exact ⟨a, c, e⟩
  have hIl : I.length ≤ 6 := by
    have := congrArg List.length hIa
    simp at this
    omega
  refine ybo ?_
  refine cx_region_drawW [wlR bW bv c1 c2 d1 d2 lv] [5, 11, 12, 13] rfl (by kernel_rfl) ?_
  repeat' (refine ycf ?_;(first|(first|(apply ybm;(·(first|(first|exact tk_|(apply qv_nilCheck;rfl))|(apply yae;(·rfl);(·(exact cellat_eq (wl_cl (yaz 0 rfl) false rfl) rfl)))|exact tq_));(·rfl);(·rfl);(·(first|exact hd_one' (Le.refl h10) tmm_|exact hd_one' hle tmm_)))|refine ybl rfl rfl ?_|((fail_if_success (refine ybi rfl ?_));refine ybj rfl ?_ ?_<;>(intro ht;rw [ht];first|replace ht := oet_ ht|replace ht := oef_ ht|skip))|(refine tb_ ?_ ?_ ?_;(·(first|exact ybf|(refine .inl ?_;(first|exact hd_one' (Le.refl h10) tmm_|exact hd_one' hle tmm_))|exact to_));(·intro _;(first|exact ybf|(refine .inl ?_;(first|exact hd_one' (Le.refl h10) tmm_|exact hd_one' hle tmm_))|exact to_));intro _)|(first|(refine tqs_ ?_ ?_ ?_;(·(first|exact ybf|(refine .inl ?_;(first|exact hd_one' (Le.refl h10) tmm_|exact hd_one' hle tmm_))|exact to_));(·(first|exact ybf|(refine .inl ?_;(first|exact hd_one' (Le.refl h10) tmm_|exact hd_one' hle tmm_))|exact to_))))|(apply ybn;(·(first|(first|exact tk_|(apply qv_nilCheck;rfl))|(apply yae;(·rfl);(·(exact cellat_eq (wl_cl (yaz 0 rfl) false rfl) rfl)))|exact tq_));(·rfl);(·rfl);(·rfl);(·(first|exact ybf|(refine .inl ?_;(first|exact hd_one' (Le.refl h10) tmm_|exact hd_one' hle tmm_))|exact to_))))|refine ycg ?_))
  (refine rx_call_m (ycp Tryz.func19 rfl (by kernel_rfl) rfl) (perm_at (k := 2) rfl) (Epoch_sp (ccK c1 c2 false) (idK false) bv (y.e false) (y.t false) (ccK m1 m2 false) h10) rfl rfl rfl ?_ ?_ ?_;(·(first|exact ybf|(refine .inl ?_;(first|exact hd_one' (Le.refl h10) tmm_|exact hd_one' hle tmm_))|exact to_));(·intro _ _ hle;(first|exact ybf|(refine .inl ?_;(first|exact hd_one' (Le.refl h10) tmm_|exact hd_one' hle tmm_))|exact to_));intro x px hle)
  clear px hle x
  repeat' (refine ycf ?_;(first|(first|(apply ybm;(·(first|(first|exact tk_|(apply qv_nilCheck;rfl))|(apply yae;(·rfl);(·(exact cellat_eq (wl_cl (yaz 0 rfl) false rfl) rfl)))|exact tq_));(·rfl);(·rfl);(·(first|exact hd_one' (Le.refl h10) tmm_|exact hd_one' hle tmm_)))|refine ybl rfl rfl ?_|((fail_if_success (refine ybi rfl ?_));refine ybj rfl ?_ ?_<;>(intro ht;rw [ht];first|replace ht := oet_ ht|replace ht := oef_ ht|skip))|(refine tb_ ?_ ?_ ?_;(·(first|exact ybf|(refine .inl ?_;(first|exact hd_one' (Le.refl h10) tmm_|exact hd_one' hle tmm_))|exact to_));(·intro _;(first|exact ybf|(refine .inl ?_;(first|exact hd_one' (Le.refl h10) tmm_|exact hd_one' hle tmm_))|exact to_));intro _)|(first|(refine tqs_ ?_ ?_ ?_;(·(first|exact ybf|(refine .inl ?_;(first|exact hd_one' (Le.refl h10) tmm_|exact hd_one' hle tmm_))|exact to_));(·(first|exact ybf|(refine .inl ?_;(first|exact hd_one' (Le.refl h10) tmm_|exact hd_one' hle tmm_))|exact to_))))|(apply ybn;(·(first|(first|exact tk_|(apply qv_nilCheck;rfl))|(apply yae;(·rfl);(·(exact cellat_eq (wl_cl (yaz 0 rfl) false rfl) rfl)))|exact tq_));(·rfl);(·rfl);(·rfl);(·(first|exact ybf|(refine .inl ?_;(first|exact hd_one' (Le.refl h10) tmm_|exact hd_one' hle tmm_))|exact to_))))|refine ycg ?_))
  (refine rx_call_m (ycp Tryz.func10 rfl (by kernel_rfl) rfl) (perm_at (k := 0) rfl) (Sealed_sp (ccK c1 c2 false) (idK false) bv (y.e false) (y.t false) (ccK m1 m2 false) h10) rfl rfl rfl ?_ ?_ ?_;(·(first|exact ybf|(refine .inl ?_;(first|exact hd_one' (Le.refl h10) tmm_|exact hd_one' hle tmm_))|exact to_));(·intro _ _ hle;(first|exact ybf|(refine .inl ?_;(first|exact hd_one' (Le.refl h10) tmm_|exact hd_one' hle tmm_))|exact to_));intro x px hle)
  clear px hle x
  repeat' (refine ycf ?_;(first|(first|(apply ybm;(·(first|(first|exact tk_|(apply qv_nilCheck;rfl))|exact tq_));(·rfl);(·rfl);(·(first|exact hd_one' (Le.refl h10) tmm_|exact hd_one' hle tmm_)))|refine ybl rfl rfl ?_|((fail_if_success (refine ybi rfl ?_));refine ybj rfl ?_ ?_<;>(intro ht;rw [ht];first|replace ht := oet_ ht|replace ht := oef_ ht|skip))|(refine tb_ ?_ ?_ ?_;(·(first|exact ybf|(refine .inl ?_;(first|exact hd_one' (Le.refl h10) tmm_|exact hd_one' hle tmm_))|exact to_));(·intro _;(first|exact ybf|(refine .inl ?_;(first|exact hd_one' (Le.refl h10) tmm_|exact hd_one' hle tmm_))|exact to_));intro _)|(first|(refine tqs_ ?_ ?_ ?_;(·(first|exact ybf|(refine .inl ?_;(first|exact hd_one' (Le.refl h10) tmm_|exact hd_one' hle tmm_))|exact to_));(·(first|exact ybf|(refine .inl ?_;(first|exact hd_one' (Le.refl h10) tmm_|exact hd_one' hle tmm_))|exact to_))))|(apply ybn;(·(first|(first|exact tk_|(apply qv_nilCheck;rfl))|exact tq_));(·rfl);(·rfl);(·rfl);(·(first|exact ybf|(refine .inl ?_;(first|exact hd_one' (Le.refl h10) tmm_|exact hd_one' hle tmm_))|exact to_))))|refine ycg ?_))
  refine yby ?_
  refine cx_less [(3, .pointer (some ⟨b3, 0, none⟩)), (5, .pointer (some ⟨bW, 0, none⟩)), (6, va), (7, vm), (20, .slice adi I.length capi), (22, .int .i64 (y.e false)), (23, .int .i64 (y.t false))] ts_ ?_
  refine cx_picks [1, 1, 0, 0, 0] ?_
  have hle610 : Le h6 h10 := ((hle7.trans hle8).trans hle9).trans hle10
  have hle10a : Le h h10 := hle6a.trans hle610
  refine ybo ?_
  refine cx_region_drawW [wlR bW bv c1 c2 d1 d2 lv, Res.blk b3 (.cells (acc ac).toArray 41 (0, 0))] [7, 9, 14, 15, 16] rfl (by kernel_rfl) ?_
  repeat' (refine ycf ?_;(first|(first|(apply ybm;(·(first|(first|exact tk_|(apply qv_nilCheck;rfl))|(apply yae;(·rfl);(·(first|exact cellat_eq (wl_cl (yaz 0 rfl) false rfl) rfl|exact ac_name (yaz 1 rfl))))|exact tq_));(·rfl);(·rfl);(·(first|exact hd_l (Le.refl h10) (fun r hr => tm2T tmm_ tmm_ hr)|exact hd_l hle (fun r hr => tm2T tmm_ tmm_ hr))))|refine ybl rfl rfl ?_|((fail_if_success (refine ybi rfl ?_));refine ybj rfl ?_ ?_<;>(intro ht;rw [ht];first|replace ht := oet_ ht|replace ht := oef_ ht|skip))|(refine tb_ ?_ ?_ ?_;(·(first|exact ybf|(refine .inl ?_;(first|exact hd_l (Le.refl h10) (fun r hr => tm2T tmm_ tmm_ hr)|exact hd_l hle (fun r hr => tm2T tmm_ tmm_ hr)))|exact to_));(·intro _;(first|exact ybf|(refine .inl ?_;(first|exact hd_l (Le.refl h10) (fun r hr => tm2T tmm_ tmm_ hr)|exact hd_l hle (fun r hr => tm2T tmm_ tmm_ hr)))|exact to_));intro _)|(first|(refine tqs_ ?_ ?_ ?_;(·(first|exact ybf|(refine .inl ?_;(first|exact hd_l (Le.refl h10) (fun r hr => tm2T tmm_ tmm_ hr)|exact hd_l hle (fun r hr => tm2T tmm_ tmm_ hr)))|exact to_));(·(first|exact ybf|(refine .inl ?_;(first|exact hd_l (Le.refl h10) (fun r hr => tm2T tmm_ tmm_ hr)|exact hd_l hle (fun r hr => tm2T tmm_ tmm_ hr)))|exact to_))))|(apply ybn;(·(first|(first|exact tk_|(apply qv_nilCheck;rfl))|(apply yae;(·rfl);(·(first|exact cellat_eq (wl_cl (yaz 0 rfl) false rfl) rfl|exact ac_name (yaz 1 rfl))))|exact tq_));(·rfl);(·rfl);(·rfl);(·(first|exact ybf|(refine .inl ?_;(first|exact hd_l (Le.refl h10) (fun r hr => tm2T tmm_ tmm_ hr)|exact hd_l hle (fun r hr => tm2T tmm_ tmm_ hr)))|exact to_))))|refine ycg ?_))
  (refine yco (ycp Tryz.func14 rfl (by kernel_rfl) rfl) (name7_sp ac.name h10) rfl rfl rfl ?_ ?_ ?_;(·(first|exact ybf|(refine .inl ?_;(first|exact hd_l (Le.refl h10) (fun r hr => tm2T tmm_ tmm_ hr)|exact hd_l hle (fun r hr => tm2T tmm_ tmm_ hr)))|exact to_));(·intro _ _ hle;(first|exact ybf|(refine .inl ?_;(first|exact hd_l (Le.refl h10) (fun r hr => tm2T tmm_ tmm_ hr)|exact hd_l hle (fun r hr => tm2T tmm_ tmm_ hr)))|exact to_));intro x px hle)
  obtain ⟨h11, vn⟩ := x
  dsimp only at px hle ⊢
  have hle11 : Le h10 h11 := hle
  have hn11 : Bs8 h11 vn (nmB ac.name) := px
  clear px hle
  obtain ⟨adn, capn, rfl⟩ : ∃ a c, vn = .slice a (nmB ac.name).length c := by obtain ⟨_, a, c, e, _⟩ := hn11; exact ⟨a, c, e⟩
  have hln := nmB_len ac.name
  by_cases hlong : 64 < (nmB ac.name).length
  ·
    repeat' (refine ycf ?_;(first|(first|(apply ybm;(·(first|(exact tk_)|exact tq_));(·rfl);(·rfl);(·(exact hd_l hle11 (fun r hr => tm2T tmm_ tmm_ hr))))|refine ybl rfl rfl ?_|((fail_if_success (refine ybi rfl ?_));refine ybj rfl ?_ ?_<;>(intro ht;rw [ht];first|replace ht := oet_ ht|replace ht := oef_ ht|skip))|(refine tb_ ?_ ?_ ?_;(·(first|exact ybf|(refine .inl ?_;(exact hd_l hle11 (fun r hr => tm2T tmm_ tmm_ hr)))|exact to_));(·intro _;(first|exact ybf|(refine .inl ?_;(exact hd_l hle11 (fun r hr => tm2T tmm_ tmm_ hr)))|exact to_));intro _)|(first|(refine tqs_ ?_ ?_ ?_;(·(first|exact ybf|(refine .inl ?_;(exact hd_l hle11 (fun r hr => tm2T tmm_ tmm_ hr)))|exact to_));(·(first|exact ybf|(refine .inl ?_;(exact hd_l hle11 (fun r hr => tm2T tmm_ tmm_ hr)))|exact to_))))|(apply ybn;(·(first|(exact tk_)|exact tq_));(·rfl);(·rfl);(·rfl);(·(first|exact ybf|(refine .inl ?_;(exact hd_l hle11 (fun r hr => tm2T tmm_ tmm_ hr)))|exact to_))))|refine ycg ?_))
    (refine ycn (ycp Tryz.func16 rfl (by kernel_rfl) rfl) (CRead_long (ccK c1 c2 false) (nmB ac.name) _ (.slice adi I.length capi) hlong h11 hn11) rfl rfl rfl ?_ ?_;(·(first|exact ybf|(refine .inl ?_;(exact hd_l hle11 (fun r hr => tm2T tmm_ tmm_ hr)))|exact to_)))
    repeat' (refine ycf ?_;(first|(first|(apply ybm;(·(first|(exact tk_)|exact tq_));(·rfl);(·rfl);(·(exact hd_l hle11 (fun r hr => tm2T tmm_ tmm_ hr))))|refine ybl rfl rfl ?_|((fail_if_success (refine ybi rfl ?_));refine ybj rfl ?_ ?_<;>(intro ht;rw [ht];first|replace ht := oet_ ht|replace ht := oef_ ht|skip))|(refine tb_ ?_ ?_ ?_;(·(first|exact ybf|(refine .inl ?_;(exact hd_l hle11 (fun r hr => tm2T tmm_ tmm_ hr)))|exact to_));(·intro _;(first|exact ybf|(refine .inl ?_;(exact hd_l hle11 (fun r hr => tm2T tmm_ tmm_ hr)))|exact to_));intro _)|(first|(refine tqs_ ?_ ?_ ?_;(·(first|exact ybf|(refine .inl ?_;(exact hd_l hle11 (fun r hr => tm2T tmm_ tmm_ hr)))|exact to_));(·(first|exact ybf|(refine .inl ?_;(exact hd_l hle11 (fun r hr => tm2T tmm_ tmm_ hr)))|exact to_))))|(apply ybn;(·(first|(exact tk_)|exact tq_));(·rfl);(·rfl);(·rfl);(·(first|exact ybf|(refine .inl ?_;(exact hd_l hle11 (fun r hr => tm2T tmm_ tmm_ hr)))|exact to_))))|refine ycg ?_))
    repeat' (first|(refine ycf ?_;apply ybk;(·first|(exact tk_)|(apply yae;(·rfl);(·(exact ac_name (yaz 0 rfl)))));(·rfl);(·rfl))|refine t1_ ?_|(refine ta_ ?_;intro _)|((fail_if_success (refine ybi rfl ?_));refine ybj rfl ?_ ?_<;>(intro ht;rw [ht];first|replace ht := oet_ ht|replace ht := oef_ ht|skip))|(refine ych ?_;first|(refine ybw rfl ?_ ?_<;>intro ht)|(refine ybx rfl ?_ ?_<;>intro ht)))
    (refine yco (ycp Tryz.func14 rfl (by kernel_rfl) rfl) (name7_sp ac.name h11) rfl rfl rfl ?_ ?_ ?_; (· (exact to_)); (· intro _ _ hle; (exact to_)); intro x px hle)
    obtain ⟨h12, vn2⟩ := x
    dsimp only at px hle ⊢
    obtain ⟨adn2, capn2, rfl⟩ : ∃ a c, vn2 = .slice a (nmB ac.name).length c := by obtain ⟨_, a, c, e, _⟩ := px; exact ⟨a, c, e⟩
    repeat' (first|(refine ycf ?_;apply ybk;(·first|(exact tk_));(·rfl);(·rfl))|refine t1_ ?_|(refine ta_ ?_;intro _)|((fail_if_success (refine ybi rfl ?_));refine ybj rfl ?_ ?_<;>(intro ht;rw [ht];first|replace ht := oet_ ht|replace ht := oef_ ht|skip))|(refine ych ?_;first|(refine ybw rfl ?_ ?_<;>intro ht)|(refine ybx rfl ?_ ?_<;>intro ht)))
    exact nx_ret1 rfl (rv_tmp rfl) (fun w' s' => ⟨h12, rfl, s'.nil⟩)
  · have hlim : ∀ g ∈ I, g.b.length ≤ 140737488355328 ∧ g.l.length ≤ 4611686018427387904 := fun g hg => by
      have hm : g.a ∈ S2.map Sb.a := by rw [← hIa]; exact List.mem_map_of_mem hg
      obtain ⟨z, hz, hza⟩ := List.mem_map.1 hm
      have h1 := (hS2 z hz).2
      have e1 : z.b = g.b := congrArg (fun a : Ab => a.2.2.2) hza
      have e2 : z.l = g.l := congrArg (fun a : Ab => a.2.2.1) hza
      rw [← e1, ← e2]
      omega
    have hNl : y.N.length < 800000 := by have := ok.nl; omega
    have W := CRead_sp true openC_true (ccK c1 c2 false) (idK false) bv (y.e false) (y.t false) (ccK m1 m2 false) (key1 5) bn bu bt y.N y.T (nmB ac.name) I (.slice adn (nmB ac.name).length capn) (.slice adi I.length capi) hk rfl ok.nm hNl ok.ty (nmB_by _) ⟨hln.1, by omega⟩ (by omega) hlim h11 (ok.tk.mono ((hle36.trans hle610).trans hle11)) (hv1.mono (hle2.trans (hle3.trans ((hle36.trans hle610).trans hle11)))) hn11 (hIs.mono hle11) (fun e => by cases e)
    repeat' (refine ycf ?_;(first|(first|(apply ybm;(·(first|(exact tk_)|exact tq_));(·rfl);(·rfl);(·(exact hd_l hle11 (fun r hr => tm2T tmm_ tmm_ hr))))|refine ybl rfl rfl ?_|((fail_if_success (refine ybi rfl ?_));refine ybj rfl ?_ ?_<;>(intro ht;rw [ht];first|replace ht := oet_ ht|replace ht := oef_ ht|skip))|(refine tb_ ?_ ?_ ?_;(·(first|exact ybf|(refine .inl ?_;(exact hd_l hle11 (fun r hr => tm2T tmm_ tmm_ hr)))|exact to_));(·intro _;(first|exact ybf|(refine .inl ?_;(exact hd_l hle11 (fun r hr => tm2T tmm_ tmm_ hr)))|exact to_));intro _)|(first|(refine tqs_ ?_ ?_ ?_;(·(first|exact ybf|(refine .inl ?_;(exact hd_l hle11 (fun r hr => tm2T tmm_ tmm_ hr)))|exact to_));(·(first|exact ybf|(refine .inl ?_;(exact hd_l hle11 (fun r hr => tm2T tmm_ tmm_ hr)))|exact to_))))|(apply ybn;(·(first|(exact tk_)|exact tq_));(·rfl);(·rfl);(·rfl);(·(first|exact ybf|(refine .inl ?_;(exact hd_l hle11 (fun r hr => tm2T tmm_ tmm_ hr)))|exact to_))))|refine ycg ?_))
    refine rx_call_l (ycp Tryz.func16 rfl (by kernel_rfl) rfl) (pick3 2 2 2 rfl rfl rfl) W rfl rfl rfl (by (first|exact ybf|(refine .inl ?_;(exact hd_l hle11 (fun r hr => tm2T tmm_ tmm_ hr)))|exact to_)) (fun _ _ hl => .inl (hd_l (hle11.trans hl) (fun r hr => tm2T tmm_ tmm_ hr))) ?_
    rintro ⟨h12, vg, V, M'⟩ ⟨hV, _, hVt⟩ hle12'
    dsimp only at hV hVt hle12' ⊢
    clear W
    have hcnt := rd_count (key := key1 5) (N := y.N) (T := y.T) (nm := nmB ac.name) (I.map Sb.a)
    have hEm := fun (e : Int) => rdE_mem (key := key1 5) (N := y.N) (T := y.T) (nm := nmB ac.name) (L := I.map Sb.a) (e := e)
    rw [← hVt, List.length_map, List.length_map] at hcnt
    have hIab : ∀ a ∈ I.map Sb.a, Bytes a.2.2.2 ∧ a.2.2.2.length ≤ 140737488355328 ∧ a.2.1.length = 16 := fun a ha => by
      obtain ⟨g, hg, rfl⟩ := List.mem_map.1 ha
      exact ⟨(hI g hg).by8, (hlim g hg).1, g.hu⟩
    have hVin : ∀ z ∈ V, ∃ j : Nat, y.MM[j]? = some (nmB ac.name) ∧ (y.AA.map Vl.t)[j]? = some z.t := fun z hz => by
      refine rdV_mem ok.td (by omega) ok.nm hIab ?_
      rw [← hVt]
      exact List.mem_map_of_mem hz
    have hVb : ∀ z ∈ V, Bytes z.b ∧ z.l.length ≤ 34 := fun z hz => by
      obtain ⟨j, _, hj⟩ := hVin z hz
      rw [List.getElem?_map] at hj
      obtain ⟨v, hv, hvt⟩ := Option.map_eq_some_iff.1 hj
      have hm := (ok.av v (List.mem_of_getElem? hv)).2
      have e1 : v.b = z.b := congrArg (fun t : Tv => t.2.2.2.2.2) hvt
      have e2 : v.l = z.l := congrArg (fun t : Tv => t.2.2.1) hvt
      rw [← e1, ← e2]
      exact hm
    generalize rdE true (key1 5) y.N y.T (nmB ac.name) (I.map Sb.a) = E at hcnt hEm ⊢
    have hVl : V.length ≤ 1000 := by omega
    obtain ⟨adv, capv, rfl⟩ : ∃ a c, vg = .slice a V.length c := by obtain ⟨_, a, c, e, _⟩ := hV.1; exact ⟨a, c, e⟩
    repeat' (refine ycf ?_;(first|(first|(apply ybm;(·(first|(exact tk_)|exact tq_));(·rfl);(·rfl);(·(exact hd_l (hle11.trans hle12') (fun r hr => tm2T tmm_ tmm_ hr))))|refine ybl rfl rfl ?_|((fail_if_success (refine ybi rfl ?_));refine ybj rfl ?_ ?_<;>(intro ht;rw [ht];first|replace ht := oet_ ht|replace ht := oef_ ht|skip))|(refine tb_ ?_ ?_ ?_;(·(first|exact ybf|(refine .inl ?_;(exact hd_l (hle11.trans hle12') (fun r hr => tm2T tmm_ tmm_ hr)))|exact to_));(·intro _;(first|exact ybf|(refine .inl ?_;(exact hd_l (hle11.trans hle12') (fun r hr => tm2T tmm_ tmm_ hr)))|exact to_));intro _)|(first|(refine tqs_ ?_ ?_ ?_;(·(first|exact ybf|(refine .inl ?_;(exact hd_l (hle11.trans hle12') (fun r hr => tm2T tmm_ tmm_ hr)))|exact to_));(·(first|exact ybf|(refine .inl ?_;(exact hd_l (hle11.trans hle12') (fun r hr => tm2T tmm_ tmm_ hr)))|exact to_))))|(apply ybn;(·(first|(exact tk_)|exact tq_));(·rfl);(·rfl);(·rfl);(·(first|exact ybf|(refine .inl ?_;(exact hd_l (hle11.trans hle12') (fun r hr => tm2T tmm_ tmm_ hr)))|exact to_))))|refine ycg ?_))
    repeat' (first|(refine ycf ?_;apply ybk;(·first|(exact tk_)|(apply yae;(·rfl);(·(exact ac_name (yaz 3 rfl)))));(·rfl);(·rfl))|refine t1_ ?_|(refine ta_ ?_;intro _)|((fail_if_success (refine ybi rfl ?_));refine ybj rfl ?_ ?_<;>(intro ht;rw [ht];first|replace ht := oet_ ht|replace ht := oef_ ht|skip))|(refine ych ?_;first|(refine ybw rfl ?_ ?_<;>intro ht)|(refine ybx rfl ?_ ?_<;>intro ht)))
    (refine yco (ycp Tryz.func14 rfl (by kernel_rfl) rfl) (name7_sp ac.name h12) rfl rfl rfl ?_ ?_ ?_; (· (exact to_)); (· intro _ _ hle; (exact to_)); intro x px hle)
    obtain ⟨h13, vn2⟩ := x
    dsimp only at px hle ⊢
    have hle13 : Le h12 h13 := hle
    obtain ⟨adn2, capn2, rfl⟩ : ∃ a c, vn2 = .slice a (nmB ac.name).length c := by obtain ⟨_, a, c, e, _⟩ := px; exact ⟨a, c, e⟩
    clear px hle
    repeat' ((fail_if_success (refine ybq ?_));(first|(refine ycf ?_;apply ybk;(·first|(exact tk_));(·rfl);(·rfl))|refine t1_ ?_|(refine ta_ ?_;intro _)|((fail_if_success (refine ybi rfl ?_));refine ybj rfl ?_ ?_<;>(intro ht;rw [ht];first|replace ht := oet_ ht|replace ht := oef_ ht|skip))|(refine ych ?_;first|(refine ybw rfl ?_ ?_<;>intro ht)|(refine ybx rfl ?_ ?_<;>intro ht))))
    have hle6z : Le h6 h13 := ((hle610.trans hle11).trans hle12').trans hle13
    refine cx_piece (loop4_sp w h (wlR bW bv c1 c2 d1 d2 lv) (clR (ccK c1 c2 false) (idK false) bv (y.e false) (y.t false) (ccK m1 m2 false)) (nmR bn M') (tbR bt y.T) (.pointer (some ⟨bW, 0, none⟩)) (.slice adi I.length capi) (.int .i64 (y.e false)) (.int .i64 (y.t false)) (.int .i64 (E.length : Nat)) (.int .i64 (E.headD 0)) b3 ac va vm (.slice adv V.length capv) y.AA V y.MM h13 ok.al hVl hAl (hA6.mono hle6z) (hM6.mono hle6z) (hV.mono hle13)
      (fun v hv => ⟨(ok.av v hv).1.mono (hle36.trans hle6z), (ok.av v hv).2⟩) (fun m hm => (ok.my m hm).1) hVb hVin _ rfl) ts_ (fun _ s => s.picks [3, 3, 0, 0, 0]) ?_
    rintro h14 hle14
    have hcz : ((V.length : Nat) : Int) + ((E.length : Nat) : Int) = ((I.length : Nat) : Int) := by omega
    obtain ⟨pn, er, hpn, her, hpe⟩ : ∃ pn er : Int, ((E.length : Nat) : Int) = pn ∧ E.headD 0 = er ∧ ((pn = 0 ∧ er = 0) ∨ (1 ≤ pn ∧ (er = 2 ∨ er = 6))) := by
      refine ⟨_, _, rfl, rfl, ?_⟩
      rcases E with _ | ⟨e0, E⟩
      · exact .inl ⟨rfl, rfl⟩
      · refine .inr ⟨by simp only [List.length_cons]; omega, ?_⟩
        exact hEm e0 (List.mem_cons_self ..)
    rw [hpn] at hcz ⊢
    rw [her]
    have hpn2 : 0 ≤ pn ∧ pn ≤ 6 := by omega
    rcases hpe with ⟨rfl, rfl⟩ | ⟨hp1, rfl | rfl⟩
    · skip
      repeat' (first|(refine ycf ?_;apply ybk;(·first|(first|exact tk_|(apply qv_nilCheck;rfl)|(exact qv_eql_bool rfl rfl rfl))|(apply yae;(·rfl);(·(exact cellat_eq (wl_cl (yaz 1 rfl) false rfl) rfl))));(·rfl);(·rfl))|refine t1_ ?_|(refine ta_ ?_;intro _)|((fail_if_success (refine ybi rfl ?_));refine ybj rfl ?_ ?_<;>(intro ht;rw [ht];first|replace ht := oet_ ht|replace ht := oef_ ht|skip))|(refine ych ?_;first|(refine ybw rfl ?_ ?_<;>intro ht)|(refine ybx rfl ?_ ?_<;>intro ht)))
      (refine rx_call_m (ycp Tryz.func19 rfl (by kernel_rfl) rfl) (perm_at (k := 2) rfl) (Epoch_sp (ccK c1 c2 false) (idK false) bv (y.e false) (y.t false) (ccK m1 m2 false) h14) rfl rfl rfl ?_ ?_ ?_; (· (exact to_)); (· intro _ _ hle; (exact to_)); intro x px hle)
      clear px hle x
      repeat' (first|(refine ycf ?_;apply ybk;(·first|(first|exact tk_|(apply qv_nilCheck;rfl)|(exact qv_eql_bool rfl rfl rfl))|(apply yae;(·rfl);(·(exact cellat_eq (wl_cl (yaz 2 rfl) false rfl) rfl))));(·rfl);(·rfl))|refine t1_ ?_|(refine ta_ ?_;intro _)|((fail_if_success (refine ybi rfl ?_));refine ybj rfl ?_ ?_<;>(intro ht;rw [ht];first|replace ht := oet_ ht|replace ht := oef_ ht|skip))|(refine ych ?_;first|(refine ybw rfl ?_ ?_<;>intro ht)|(refine ybx rfl ?_ ?_<;>intro ht)))
      (refine rx_call_m (ycp Tryz.func10 rfl (by kernel_rfl) rfl) (perm_at (k := 0) rfl) (Sealed_sp (ccK c1 c2 false) (idK false) bv (y.e false) (y.t false) (ccK m1 m2 false) h14) rfl rfl rfl ?_ ?_ ?_; (· (exact to_)); (· intro _ _ hle; (exact to_)); intro x px hle)
      clear px hle x
      repeat' (first|(refine ycf ?_;apply ybk;(·first|(first|exact tk_|(apply qv_nilCheck;rfl)|(exact qv_eql_bool rfl rfl rfl))|(apply yae;(·rfl);(·(exact cellat_eq (wl_cl (yaz 2 rfl) false rfl) rfl))));(·rfl);(·rfl))|refine t1_ ?_|(refine ta_ ?_;intro _)|((fail_if_success (refine ybi rfl ?_));refine ybj rfl ?_ ?_<;>(intro ht;rw [ht];first|replace ht := oet_ ht|replace ht := oef_ ht|skip))|(refine ych ?_;first|(refine ybw rfl ?_ ?_<;>intro ht)|(refine ybx rfl ?_ ?_<;>intro ht)))
      exact nx_ret1 rfl (rv_tmp rfl) (fun w' s' => ⟨h14, rfl, s'.nil⟩)
    · skip
      repeat' (first|(refine ycf ?_;apply ybk;(·first|(first|exact tk_|(apply qv_nilCheck;rfl)|(exact qv_eql_bool rfl rfl rfl))|(apply yae;(·rfl);(·(exact cellat_eq (wl_cl (yaz 1 rfl) false rfl) rfl))));(·rfl);(·rfl))|refine t1_ ?_|(refine ta_ ?_;intro _)|((fail_if_success (refine ybi rfl ?_));refine ybj rfl ?_ ?_<;>(intro ht;rw [ht];first|replace ht := oet_ ht|replace ht := oef_ ht|skip))|(refine ych ?_;first|(refine ybw rfl ?_ ?_<;>intro ht)|(refine ybx rfl ?_ ?_<;>intro ht)))
      (refine rx_call_m (ycp Tryz.func19 rfl (by kernel_rfl) rfl) (perm_at (k := 2) rfl) (Epoch_sp (ccK c1 c2 false) (idK false) bv (y.e false) (y.t false) (ccK m1 m2 false) h14) rfl rfl rfl ?_ ?_ ?_; (· (exact to_)); (· intro _ _ hle; (exact to_)); intro x px hle)
      clear px hle x
      repeat' (first|(refine ycf ?_;apply ybk;(·first|(first|exact tk_|(apply qv_nilCheck;rfl)|(exact qv_eql_bool rfl rfl rfl))|(apply yae;(·rfl);(·(exact cellat_eq (wl_cl (yaz 2 rfl) false rfl) rfl))));(·rfl);(·rfl))|refine t1_ ?_|(refine ta_ ?_;intro _)|((fail_if_success (refine ybi rfl ?_));refine ybj rfl ?_ ?_<;>(intro ht;rw [ht];first|replace ht := oet_ ht|replace ht := oef_ ht|skip))|(refine ych ?_;first|(refine ybw rfl ?_ ?_<;>intro ht)|(refine ybx rfl ?_ ?_<;>intro ht)))
      (refine rx_call_m (ycp Tryz.func10 rfl (by kernel_rfl) rfl) (perm_at (k := 0) rfl) (Sealed_sp (ccK c1 c2 false) (idK false) bv (y.e false) (y.t false) (ccK m1 m2 false) h14) rfl rfl rfl ?_ ?_ ?_; (· (exact to_)); (· intro _ _ hle; (exact to_)); intro x px hle)
      clear px hle x
      repeat' (first|(refine ycf ?_;apply ybk;(·first|(first|exact tk_|(apply qv_nilCheck;rfl)|(exact qv_eql_bool rfl rfl rfl))|(apply yae;(·rfl);(·(exact cellat_eq (wl_cl (yaz 2 rfl) false rfl) rfl))));(·rfl);(·rfl))|refine t1_ ?_|(refine ta_ ?_;intro _)|((fail_if_success (refine ybi rfl ?_));refine ybj rfl ?_ ?_<;>(intro ht;rw [ht];first|replace ht := oet_ ht|replace ht := oef_ ht|skip))|(refine ych ?_;first|(refine ybw rfl ?_ ?_<;>intro ht)|(refine ybx rfl ?_ ?_<;>intro ht)))
      exact nx_ret1 rfl (rv_tmp rfl) (fun w' s' => ⟨h14, rfl, s'.nil⟩)
    · skip
      repeat' (first|(refine ycf ?_;apply ybk;(·first|(first|exact tk_|(apply qv_nilCheck;rfl)|(exact qv_eql_bool rfl rfl rfl))|(apply yae;(·rfl);(·(exact cellat_eq (wl_cl (yaz 1 rfl) false rfl) rfl))));(·rfl);(·rfl))|refine t1_ ?_|(refine ta_ ?_;intro _)|((fail_if_success (refine ybi rfl ?_));refine ybj rfl ?_ ?_<;>(intro ht;rw [ht];first|replace ht := oet_ ht|replace ht := oef_ ht|skip))|(refine ych ?_;first|(refine ybw rfl ?_ ?_<;>intro ht)|(refine ybx rfl ?_ ?_<;>intro ht)))
      (refine rx_call_m (ycp Tryz.func19 rfl (by kernel_rfl) rfl) (perm_at (k := 2) rfl) (Epoch_sp (ccK c1 c2 false) (idK false) bv (y.e false) (y.t false) (ccK m1 m2 false) h14) rfl rfl rfl ?_ ?_ ?_; (· (exact to_)); (· intro _ _ hle; (exact to_)); intro x px hle)
      clear px hle x
      repeat' (first|(refine ycf ?_;apply ybk;(·first|(first|exact tk_|(apply qv_nilCheck;rfl)|(exact qv_eql_bool rfl rfl rfl))|(apply yae;(·rfl);(·(exact cellat_eq (wl_cl (yaz 2 rfl) false rfl) rfl))));(·rfl);(·rfl))|refine t1_ ?_|(refine ta_ ?_;intro _)|((fail_if_success (refine ybi rfl ?_));refine ybj rfl ?_ ?_<;>(intro ht;rw [ht];first|replace ht := oet_ ht|replace ht := oef_ ht|skip))|(refine ych ?_;first|(refine ybw rfl ?_ ?_<;>intro ht)|(refine ybx rfl ?_ ?_<;>intro ht)))
      (refine rx_call_m (ycp Tryz.func10 rfl (by kernel_rfl) rfl) (perm_at (k := 0) rfl) (Sealed_sp (ccK c1 c2 false) (idK false) bv (y.e false) (y.t false) (ccK m1 m2 false) h14) rfl rfl rfl ?_ ?_ ?_; (· (exact to_)); (· intro _ _ hle; (exact to_)); intro x px hle)
      clear px hle x
      repeat' (first|(refine ycf ?_;apply ybk;(·first|(first|exact tk_|(apply qv_nilCheck;rfl)|(exact qv_eql_bool rfl rfl rfl))|(apply yae;(·rfl);(·(exact cellat_eq (wl_cl (yaz 2 rfl) false rfl) rfl))));(·rfl);(·rfl))|refine t1_ ?_|(refine ta_ ?_;intro _)|((fail_if_success (refine ybi rfl ?_));refine ybj rfl ?_ ?_<;>(intro ht;rw [ht];first|replace ht := oet_ ht|replace ht := oef_ ht|skip))|(refine ych ?_;first|(refine ybw rfl ?_ ?_<;>intro ht)|(refine ybx rfl ?_ ?_<;>intro ht)))
      exact nx_ret1 rfl (rv_tmp rfl) (fun w' s' => ⟨h14, rfl, s'.nil⟩)
end Go.Proofs.YtaofgcahmfailaaGreatDoor
end

section
namespace Go.Ck
open Go Go.ChangeShapes
section
variable {H : Type} {enc : TypeId × Value → H} {P : Program} {w : World} {base : Nat} {spare : Nat → Bool} {held : Bool}
theorem trod_fields {t : TypeId} {fs : Array Field} {fuel : Nat} {cs : List Value} {x : DataW H × List MemPlace} (ht : P.underlying t = some (.struct fs)) (h : DataW.trod enc P w base spare held fuel t cs = some x) :
    cs.length = P.cellsOf t ∧ ∀ f ∈ fs.toList, ∃ m y, DataW.trod enc P w base spare held m f.type ((cs.drop f.offset).take (P.cellsOf f.type)) = some y := by
  cases fuel with
  | zero => simp [DataW.trod] at h
  | succ n =>
    unfold DataW.trod at h
    simp only [ht] at h
    split at h
    · rename_i hl
      obtain ⟨xs, hxs, _⟩ := Option.map_eq_some_iff.1 h
      refine ⟨hl, fun f hf => ?_⟩
      obtain ⟨i, hi, rfl⟩ := List.getElem_of_mem hf
      have := mapM_some_get hxs i _ (List.getElem?_eq_getElem hi)
      have hlen := mapM_some_length hxs
      rw [List.getElem?_eq_getElem (by omega)] at this
      exact ⟨n, _, this⟩
    · cases h
theorem trod_elems {t e : TypeId} {k fuel : Nat} {cs : List Value} {x : DataW H × List MemPlace} (ht : P.underlying t = some (.array k e)) (h : DataW.trod enc P w base spare held fuel t cs = some x) :
    cs.length = P.cellsOf t ∧ ∀ i, i < k → ∃ m y, DataW.trod enc P w base spare held m e ((cs.drop (i * P.cellsOf e)).take (P.cellsOf e)) = some y := by
  cases fuel with
  | zero => simp [DataW.trod] at h
  | succ n =>
    unfold DataW.trod at h
    simp only [ht] at h
    split at h
    · rename_i hl
      obtain ⟨xs, hxs, _⟩ := Option.map_eq_some_iff.1 h
      refine ⟨hl, fun i hi => ?_⟩
      have := mapM_some_get hxs i i (by simp [hi])
      have hlen := mapM_some_length hxs
      rw [List.getElem?_eq_getElem (by simp at hlen; omega)] at this
      exact ⟨n, _, this⟩
    · cases h
end
end Go.Ck
end

section
namespace Go.Ck
open Go Go.ChangeShapes
set_option maxHeartbeats 1000000
section
variable {H : Type} {enc : TypeId × Value → H} {P : Program} {w : World} {base : Nat} {spare : Nat → Bool} {held : Bool}
theorem cells_get' {a : Addr} {n : Nat} {cs : List Value} (h : w.cells? base a n = some cs) {j : Nat} {u : Value} (hj : cs[j]? = some u) : w.cell? (a.add j) = some u := by
  unfold World.cells? at h
  split at h
  · have hl := mapM_some_length h
    have hjl : j < cs.length := (List.getElem?_eq_some_iff.1 hj).1
    have := mapM_some_get h j j (by rw [List.length_range] at hl; exact List.getElem?_range (by omega))
    rw [this, hj]
  · cases h
theorem trod_slice_of {T e k : Nat} {α : Type} {en : α → List Value} {R : α → Prop} (tu : P.underlying T = some (.slice e)) (hc : P.cellsOf e = k) (hk0 : 0 < k) (hlen : ∀ x, (en x).length = k)
    (hel : ∀ (m : Nat) (cs : List Value) (y : DataW H × List MemPlace), DataW.trod enc P w base spare held m e cs = some y → ∃ x : α, R x ∧ cs = en x)
    {m : Nat} {cs : List Value} {y : DataW H × List MemPlace} (h : DataW.trod enc P w base spare held m T cs = some y) :
    ∃ (v : Value) (l : List α), cs = [v] ∧ Sc (fun b => w.heap[b]?) k v l.length (l.flatMap en) ∧ l.length ≤ maxLen ∧ ∀ x ∈ l, R x := by
  subst hc
  rcases Go.Deep.open_slice tu h with ⟨rfl, _⟩ | ⟨a, len, cap, q, n, D, Pl, rfl, _, h1, h2, hk, _, hall⟩
  · exact ⟨_, [], rfl, Sc.nil _ _ none 0, Nat.zero_le _, fun x hx => by cases hx⟩
  · have hkl : len ≤ q := by rw [hk]; split <;> omega
    have hex : ∀ i, i < len → ∃ d : α, R d ∧ w.cells? base (a.add (i * P.cellsOf e)) (P.cellsOf e) = some (en d) := fun i hi => by
      obtain ⟨cs', e1, e2⟩ := hall i (by omega)
      obtain ⟨d, hr, rfl⟩ := hel _ _ _ e2
      exact ⟨d, hr, e1⟩
    generalize P.cellsOf e = k at hex hk0 hlen ⊢
    by_cases h0 : len = 0
    · subst h0
      exact ⟨_, [], rfl, ⟨by simp, some a, cap, rfl, Nat.zero_le _, .inl rfl⟩, Nat.zero_le _, fun x hx => by cases hx⟩
    obtain ⟨d0, _⟩ := hex 0 (by omega)
    obtain ⟨f, hf'⟩ : ∃ f : Nat → α, ∀ i, i < len → R (f i) ∧ w.cells? base (a.add (i * k)) k = some (en (f i)) := by
      classical
      exact ⟨fun i => if hi : i < len then (hex i hi).choose else d0, fun i hi => by
        dsimp only
        rw [dif_pos hi]
        exact (hex i hi).choose_spec⟩
    have hf := fun i hi => (hf' i hi).2
    refine ⟨_, (List.range len).map f, rfl, ⟨?_, some a, cap, by simp, by simpa using h1, ?_⟩, by simp; omega, fun x hx => ?_⟩
    · rw [flat_len hlen]
    · refine .inr ?_
      have hc00 : 0 < (en (f 0)).length := by rw [hlen]; exact hk0
      have hc0 := cells_get' (hf 0 (by omega)) (j := 0) (List.getElem?_eq_getElem hc00)
      obtain ⟨b, o, sp⟩ := a
      have hadd : ∀ i j, ((⟨b, o, sp⟩ : Addr).add i).add j = (⟨b, o, sp⟩ : Addr).add (i + j) := fun i j => Go.Deep.add_add _ i j
      rw [hadd] at hc0
      have hblk : ((⟨b, o, sp⟩ : Addr).add (0 * k + 0)) = ⟨b, o, sp⟩ := by simp [Addr.add]
      rw [hblk] at hc0
      unfold World.cell? at hc0
      split at hc0
      · rename_i c e fz hb
        split at hc0
        · cases hc0
        · rename_i hsp
          have hsp' : sp = none := by simpa using hsp
          subst hsp'
          refine ⟨b, o, c, e, fz, rfl, hb, fun j u hj => ?_⟩
          have hjl : j < len * k := by
            have := (List.getElem?_eq_some_iff.1 hj).1
            rw [flat_len hlen] at this
            simpa using this
          have hjk : j / k < len := Nat.div_lt_of_lt_mul (by rw [Nat.mul_comm]; exact hjl)
          have hd : j / k < ((List.range len).map f).length := by simpa using hjk
          have e1 : (((List.range len).map f).flatMap en)[j]? = (en (f (j / k)))[j % k]? := by
            have := flat_at hlen ((List.range len).map f) (j / k) hd
            have e3 : ((List.range len).map f)[j / k] = f (j / k) := by simp
            rw [e3] at this
            rw [← this, List.getElem?_take_of_lt (Nat.mod_lt _ hk0), List.getElem?_drop]
            congr 1
            rw [Nat.mul_comm]
            exact (Nat.div_add_mod j k).symm
          rw [e1] at hj
          have := cells_get' (hf (j / k) hjk) hj
          rw [hadd, Addr.add_off] at this
          unfold World.cell? at this
          simp only [hb] at this
          simp only [Option.isSome_none, Bool.false_eq_true, if_false] at this
          have ej : j / k * k + j % k = j := by rw [Nat.mul_comm]; exact Nat.div_add_mod j k
          rw [ej] at this
          exact this
      · cases hc0
    · obtain ⟨i, hi, rfl⟩ := List.mem_map.1 hx
      exact (hf' i (by simpa using hi)).1
end
end Go.Ck
end

section
namespace Go.Ck
open Go Go.ChangeShapes
set_option maxHeartbeats 1000000
def WB {H : Type} (P : Program) (t : TypeId) (d : DataW H) : Prop := ∀ x ∈ DataW.weights P t d, x ≤ reachBytes
section
variable {H : Type} {P : Program}
theorem weightsAll_mem {e : TypeId} {ds : List (DataW H)} {d : DataW H} (hd : d ∈ ds) {x : Nat} (hx : x ∈ DataW.weights P e d) : x ∈ DataW.weightsAll P e ds := by
  induction ds with
  | nil => cases hd
  | cons a r ih =>
    rw [DataW.weightsAll, List.mem_append]
    rcases List.mem_cons.1 hd with rfl | hd
    · exact .inl hx
    · exact .inr (ih hd)
theorem weightsEach_mem : ∀ {ts : List TypeId} {ds : List (DataW H)} {i : Nat} {t : TypeId} {d : DataW H}, ts[i]? = some t → ds[i]? = some d → ∀ {x : Nat}, x ∈ DataW.weights P t d → x ∈ DataW.weightsEach P ts ds
  | [], _, _, _, _, ht, _, _, _ => by simp at ht
  | _ :: _, [], _, _, _, _, hd, _, _ => by simp at hd
  | a :: ts, b :: ds, 0, t, d, ht, hd, x, hx => by
    simp only [List.getElem?_cons_zero, Option.some.injEq] at ht hd
    subst ht hd
    rw [DataW.weightsEach, List.mem_append]
    exact .inl hx
  | a :: ts, b :: ds, i + 1, t, d, ht, hd, x, hx => by
    simp only [List.getElem?_cons_succ] at ht hd
    rw [DataW.weightsEach, List.mem_append]
    exact .inr (weightsEach_mem ht hd hx)
theorem WB.slice {t e : TypeId} {elems spare : List (DataW H)} (ht : P.underlying t = some (.slice e)) (h : WB P t (.slice elems spare)) : elems.length * P.bytesOf e ≤ reachBytes ∧ ∀ d ∈ elems, WB P e d := by
  unfold WB at h
  rw [DataW.weights] at h
  simp only [ht] at h
  refine ⟨?_, fun d hd x hx => ?_⟩
  · have h1 := h _ (List.mem_cons_self ..)
    exact Nat.le_trans (Nat.mul_le_mul_right _ (Nat.le_add_right _ _)) h1
  · exact h x (List.mem_cons_of_mem _ (List.mem_append_left _ (weightsAll_mem hd hx)))
theorem WB.struct {t : TypeId} {fs : Array Field} {parts : List (DataW H)} (ht : P.underlying t = some (.struct fs)) (h : WB P t (.agg parts)) {i : Nat} {f : Field} {d : DataW H} (hf : fs.toList[i]? = some f) (hd : parts[i]? = some d) : WB P f.type d := by
  unfold WB at h
  rw [DataW.weights] at h
  simp only [ht] at h
  intro x hx
  exact h x (weightsEach_mem (i := i) (by rw [List.getElem?_map, hf]; rfl) hd hx)
variable {enc : TypeId × Value → H} {w : World} {base : Nat} {spare : Nat → Bool} {held : Bool}
theorem trod_fields_w {t : TypeId} {fs : Array Field} {fuel : Nat} {cs : List Value} {x : DataW H × List MemPlace} (ht : P.underlying t = some (.struct fs)) (h : DataW.trod enc P w base spare held fuel t cs = some x) (hw : WB P t x.1) :
    cs.length = P.cellsOf t ∧ ∀ (i : Nat) (f : Field), fs.toList[i]? = some f → ∃ m y, DataW.trod enc P w base spare held m f.type ((cs.drop f.offset).take (P.cellsOf f.type)) = some y ∧ WB P f.type y.1 := by
  cases fuel with
  | zero => simp [DataW.trod] at h
  | succ n =>
    unfold DataW.trod at h
    simp only [ht] at h
    split at h
    · rename_i hl
      obtain ⟨xs, hxs, rfl⟩ := Option.map_eq_some_iff.1 h
      refine ⟨hl, fun i f hf => ?_⟩
      have := mapM_some_get hxs i _ hf
      have hlen := mapM_some_length hxs
      have hil : i < fs.toList.length := (List.getElem?_eq_some_iff.1 hf).1
      have hi2 : i < xs.length := by omega
      rw [List.getElem?_eq_getElem hi2] at this
      exact ⟨n, _, this, WB.struct ht hw hf (by rw [List.getElem?_map, List.getElem?_eq_getElem hi2]; rfl)⟩
    · cases h
theorem slice_len_w {T e : TypeId} (tu : P.underlying T = some (.slice e)) {m : Nat} {ad : Option Addr} {n cap : Nat} {y : DataW H × List MemPlace} (h : DataW.trod enc P w base spare held m T [.slice ad n cap] = some y) (hw : WB P T y.1) : n * P.bytesOf e ≤ reachBytes := by
  rcases Go.Deep.open_slice tu h with ⟨e1, _⟩ | ⟨a, len, cap', q, n', D, Pl, e1, _, _, _, _, rfl, _⟩
  · cases e1
    simp
  · cases e1
    have := (WB.slice tu hw).1
    rw [List.length_map, List.length_range] at this
    exact this
theorem str_len_w {t : TypeId} {s : List UInt8} (hw : WB (H := H) P t (.lit (.string s))) : s.length ≤ reachBytes := by
  unfold WB at hw
  rw [DataW.weights] at hw
  exact hw _ (List.mem_singleton.2 rfl)
theorem trod_slice_w {T e k : Nat} {α : Type} {en : α → List Value} {R : α → Prop} (tu : P.underlying T = some (.slice e)) (hc : P.cellsOf e = k) (hk0 : 0 < k) (hlen : ∀ x, (en x).length = k)
    (hel : ∀ (m : Nat) (cs : List Value) (y : DataW H × List MemPlace), DataW.trod enc P w base spare held m e cs = some y → WB P e y.1 → ∃ x : α, R x ∧ cs = en x)
    {m : Nat} {cs : List Value} {y : DataW H × List MemPlace} (h : DataW.trod enc P w base spare held m T cs = some y) (hw : WB P T y.1) :
    ∃ (v : Value) (l : List α), cs = [v] ∧ Sc (fun b => w.heap[b]?) k v l.length (l.flatMap en) ∧ l.length ≤ maxLen ∧ ∀ x ∈ l, R x := by
  subst hc
  rcases Go.Deep.open_slice tu h with ⟨rfl, _⟩ | ⟨a, len, cap, q, n, D, Pl, rfl, _, h1, h2, hk, rfl, hall⟩
  · exact ⟨_, [], rfl, Sc.nil _ _ none 0, Nat.zero_le _, fun x hx => by cases hx⟩
  · have hwe := (WB.slice tu hw).2
    have hkl : len ≤ q := by rw [hk]; split <;> omega
    have hex : ∀ i, i < len → ∃ d : α, R d ∧ w.cells? base (a.add (i * P.cellsOf e)) (P.cellsOf e) = some (en d) := fun i hi => by
      obtain ⟨cs', e1, e2⟩ := hall i (by omega)
      obtain ⟨d, hr, rfl⟩ := hel _ _ _ e2 (hwe _ (List.mem_map.2 ⟨i, List.mem_range.2 hi, rfl⟩))
      exact ⟨d, hr, e1⟩
    generalize P.cellsOf e = k at hex hk0 hlen ⊢
    by_cases h0 : len = 0
    · subst h0
      exact ⟨_, [], rfl, ⟨by simp, some a, cap, rfl, Nat.zero_le _, .inl rfl⟩, Nat.zero_le _, fun x hx => by cases hx⟩
    obtain ⟨d0, _⟩ := hex 0 (by omega)
    obtain ⟨f, hf'⟩ : ∃ f : Nat → α, ∀ i, i < len → R (f i) ∧ w.cells? base (a.add (i * k)) k = some (en (f i)) := by
      classical
      exact ⟨fun i => if hi : i < len then (hex i hi).choose else d0, fun i hi => by
        dsimp only
        rw [dif_pos hi]
        exact (hex i hi).choose_spec⟩
    have hf := fun i hi => (hf' i hi).2
    refine ⟨_, (List.range len).map f, rfl, ⟨?_, some a, cap, by simp, by simpa using h1, ?_⟩, by simp; omega, fun x hx => ?_⟩
    · rw [flat_len hlen]
    · refine .inr ?_
      have hc00 : 0 < (en (f 0)).length := by rw [hlen]; exact hk0
      have hc0 := cells_get' (hf 0 (by omega)) (j := 0) (List.getElem?_eq_getElem hc00)
      obtain ⟨b, o, sp⟩ := a
      have hadd : ∀ i j, ((⟨b, o, sp⟩ : Addr).add i).add j = (⟨b, o, sp⟩ : Addr).add (i + j) := fun i j => Go.Deep.add_add _ i j
      rw [hadd] at hc0
      have hblk : ((⟨b, o, sp⟩ : Addr).add (0 * k + 0)) = ⟨b, o, sp⟩ := by simp [Addr.add]
      rw [hblk] at hc0
      unfold World.cell? at hc0
      split at hc0
      · rename_i c e fz hb
        split at hc0
        · cases hc0
        · rename_i hsp
          have hsp' : sp = none := by simpa using hsp
          subst hsp'
          refine ⟨b, o, c, e, fz, rfl, hb, fun j u hj => ?_⟩
          have hjl : j < len * k := by
            have := (List.getElem?_eq_some_iff.1 hj).1
            rw [flat_len hlen] at this
            simpa using this
          have hjk : j / k < len := Nat.div_lt_of_lt_mul (by rw [Nat.mul_comm]; exact hjl)
          have hd : j / k < ((List.range len).map f).length := by simpa using hjk
          have e1 : (((List.range len).map f).flatMap en)[j]? = (en (f (j / k)))[j % k]? := by
            have := flat_at hlen ((List.range len).map f) (j / k) hd
            have e3 : ((List.range len).map f)[j / k] = f (j / k) := by simp
            rw [e3] at this
            rw [← this, List.getElem?_take_of_lt (Nat.mod_lt _ hk0), List.getElem?_drop]
            congr 1
            rw [Nat.mul_comm]
            exact (Nat.div_add_mod j k).symm
          rw [e1] at hj
          have := cells_get' (hf (j / k) hjk) hj
          rw [hadd, Addr.add_off] at this
          unfold World.cell? at this
          simp only [hb] at this
          simp only [Option.isSome_none, Bool.false_eq_true, if_false] at this
          have ej : j / k * k + j % k = j := by rw [Nat.mul_comm]; exact Nat.div_add_mod j k
          rw [ej] at this
          exact this
      · cases hc0
    · obtain ⟨i, hi, rfl⟩ := List.mem_map.1 hx
      exact (hf' i (by simpa using hi)).1
end
end Go.Ck
end

section
namespace Go.Proofs.YtaofgcahmfailaaGreatDoor
open Go Go.Ck Go.ChangeShapes
set_option maxHeartbeats 1000000
theorem cellsDot : Tryz.prog.cellsOf 45 = 2 := by kernel_rfl
theorem cellsInt : Tryz.prog.cellsOf 3 = 1 := by kernel_rfl
theorem cellsArr : Tryz.prog.cellsOf 34 = 16 := by kernel_rfl
theorem cellsSl : Tryz.prog.cellsOf 35 = 1 := by kernel_rfl
theorem cellsCx : Tryz.prog.cellsOf 37 = 17 := by kernel_rfl
section
variable {H : Type} {enc : TypeId × Value → H} {w : World} {base : Nat} {spare : Nat → Bool} {held : Bool}
theorem trod_dot {m : Nat} {cs : List Value} {y : DataW H × List MemPlace} (h : DataW.trod enc Tryz.prog w base spare held m 45 cs = some y) : ∃ d : Dt, cs = dcs d := by
  obtain ⟨hl, hf⟩ := trod_fields Tryz.underlying45 h
  rw [cellsDot] at hl
  match cs, hl with
  | [a, b], _ =>
    obtain ⟨m1, y1, h1⟩ := hf _ (List.mem_cons_self ..)
    obtain ⟨m2, y2, h2⟩ := hf _ (List.mem_cons_of_mem _ (List.mem_cons_self ..))
    rw [cellsInt] at h1 h2
    obtain ⟨n1, e1, _⟩ := DataW.trod_int Tryz.underlying3 h1
    obtain ⟨n2, e2, _⟩ := DataW.trod_int Tryz.underlying3 h2
    simp at e1 e2
    exact ⟨(n1, n2), by rw [e1, e2]; rfl⟩
theorem trod_up {m : Nat} {cs : List Value} {y : DataW H × List MemPlace} (h : DataW.trod enc Tryz.prog w base spare held m 34 cs = some y) : ∃ u : List Int, u.length = 16 ∧ cs = up u := by
  obtain ⟨hl, hf⟩ := trod_elems Tryz.underlying34 h
  rw [cellsArr] at hl
  have hc : ∀ i (hi : i < cs.length), ∃ n, cs[i] = .int .i64 n := fun i hi => by
    obtain ⟨m1, y1, h1⟩ := hf i (by omega)
    rw [cellsInt, Nat.mul_one] at h1
    obtain ⟨n1, e1, _⟩ := DataW.trod_int Tryz.underlying3 h1
    have e2 : (List.drop i cs).take 1 = [cs[i]] := by
      rw [List.drop_eq_getElem_cons hi]; rfl
    rw [e2] at e1
    exact ⟨n1, by simpa using e1⟩
  clear hf h
  have key : ∀ cs : List Value, (∀ i (hi : i < cs.length), ∃ n, cs[i] = .int .i64 n) → ∃ u : List Int, u.length = cs.length ∧ cs = up u := by
    intro cs
    induction cs with
    | nil => intro _; exact ⟨[], rfl, rfl⟩
    | cons c cs ih =>
      intro hc
      obtain ⟨n, hn⟩ := hc 0 (by simp)
      obtain ⟨u, h1, h2⟩ := ih fun i hi => by
        have := hc (i + 1) (by simpa using hi)
        simpa using this
      simp only [List.getElem_cons_zero] at hn
      exact ⟨n :: u, by simp [h1], by rw [hn, h2]; rfl⟩
  obtain ⟨u, h1, h2⟩ := key cs hc
  exact ⟨u, by omega, h2⟩
theorem cells_get {a : Addr} {n : Nat} {cs : List Value} (h : w.cells? base a n = some cs) {j : Nat} {u : Value} (hj : cs[j]? = some u) : w.cell? (a.add j) = some u := by
  unfold World.cells? at h
  split at h
  · have hl := mapM_some_length h
    have hjl : j < cs.length := (List.getElem?_eq_some_iff.1 hj).1
    have := mapM_some_get h j j (by rw [List.length_range] at hl; exact List.getElem?_range (by omega))
    rw [this, hj]
  · cases h
theorem trod_ds {m : Nat} {cs : List Value} {y : DataW H × List MemPlace} (h : DataW.trod enc Tryz.prog w base spare held m 35 cs = some y) : ∃ (v : Value) (l : List Dt), cs = [v] ∧ Ds (fun b => w.heap[b]?) v l ∧ l.length ≤ maxLen := by
  rcases Go.Deep.open_slice Tryz.underlying35 h with ⟨rfl, _⟩ | ⟨a, len, cap, k, n, D, Pl, rfl, _, h1, h2, hk, _, hall⟩
  · exact ⟨_, [], rfl, Sc.nil _ 2 none 0, Nat.zero_le _⟩
  · have hkl : len ≤ k := by rw [hk]; split <;> omega
    have hex : ∀ i, i < len → ∃ d : Dt, w.cells? base (a.add (i * 2)) 2 = some (dcs d) := fun i hi => by
      obtain ⟨cs', e1, e2⟩ := hall i (by omega)
      rw [cellsDot] at e1
      obtain ⟨d, rfl⟩ := trod_dot e2
      exact ⟨d, e1⟩
    obtain ⟨f, hf⟩ := Go.Deep.choose_lt hex
    refine ⟨_, (List.range len).map f, rfl, ⟨?_, some a, cap, by simp, by simpa using h1, ?_⟩, by simp; omega⟩
    · rw [flat_len dcs_len]
    · by_cases h0 : len = 0
      · subst h0; exact .inl rfl
      · refine .inr ?_
        have hc0 := cells_get (hf 0 (by omega)) (j := 0) (u := .int .i64 (f 0).1) rfl
        obtain ⟨b, o, sp⟩ := a
        have hadd : ∀ i j, ((⟨b, o, sp⟩ : Addr).add i).add j = (⟨b, o, sp⟩ : Addr).add (i + j) := fun i j => Go.Deep.add_add _ i j
        rw [hadd] at hc0
        have hblk : ((⟨b, o, sp⟩ : Addr).add (0 * 2 + 0)) = ⟨b, o, sp⟩ := by simp [Addr.add]
        rw [hblk] at hc0
        unfold World.cell? at hc0
        split at hc0
        · rename_i c e fz hb
          split at hc0
          · cases hc0
          · rename_i hsp
            have hsp' : sp = none := by simpa using hsp
            subst hsp'
            refine ⟨b, o, c, e, fz, rfl, hb, fun j u hj => ?_⟩
            have hjl : j < len * 2 := by
              have := (List.getElem?_eq_some_iff.1 hj).1
              rw [flat_len dcs_len] at this
              simpa using this
            have hd : j / 2 < ((List.range len).map f).length := by simp; omega
            have e1 : (((List.range len).map f).flatMap dcs)[j]? = (dcs (f (j / 2)))[j % 2]? := by
              have := flat_at dcs_len ((List.range len).map f) (j / 2) hd
              have e3 : ((List.range len).map f)[j / 2] = f (j / 2) := by simp
              rw [e3] at this
              rw [← this, List.getElem?_take_of_lt (by omega), List.getElem?_drop]
              congr 1; omega
            rw [e1] at hj
            have := cells_get (hf (j / 2) (by omega)) hj
            rw [hadd, Addr.add_off] at this
            unfold World.cell? at this
            simp only [hb] at this
            simp only [Option.isSome_none, Bool.false_eq_true, if_false] at this
            have ej : j / 2 * 2 + j % 2 = j := by omega
            rw [ej] at this
            exact this
        · cases hc0
end
end Go.Proofs.YtaofgcahmfailaaGreatDoor
end

section
namespace Go.Proofs.YtaofgcahmfailaaGreatDoor
open Go Go.Ck Go.ChangeShapes
set_option maxHeartbeats 1000000
theorem cellsByte : Tryz.prog.cellsOf 5 = 1 := by kernel_rfl
theorem bcs_flat (l : List Int) : l.flatMap (fun n => [Value.int .u8 n]) = bcs l := by
  induction l with
  | nil => rfl
  | cons x l ih => rw [List.flatMap_cons, ih]; rfl
theorem trod_bs {H : Type} {enc : TypeId × Value → H} {w : World} {base : Nat} {spare : Nat → Bool} {held : Bool} {m : Nat} {cs : List Value} {y : DataW H × List MemPlace} (h : DataW.trod enc Tryz.prog w base spare held m 33 cs = some y) :
    ∃ (v : Value) (l : List Int), cs = [v] ∧ Bs8 (fun b => w.heap[b]?) v l ∧ Bytes l ∧ l.length ≤ maxLen := by
  obtain ⟨v, l, h1, h2, h3, h4⟩ := trod_slice_of (en := fun n : Int => [Value.int .u8 n]) (R := fun n => 0 ≤ n ∧ n < 256) Tryz.underlying33 cellsByte (by decide) (fun _ => rfl) (fun m cs y hy => by
    obtain ⟨n, e1, _, e3⟩ := DataW.trod_int Tryz.underlying5 hy
    obtain ⟨q1, q2⟩ := (Lit.wf_int_iff .u8 n).1 e3
    have m1 : IntKind.u8.min = 0 := by decide
    have m2 : IntKind.u8.max = 255 := by decide
    exact ⟨n, ⟨by omega, by omega⟩, e1⟩) h
  rw [bcs_flat] at h2
  exact ⟨v, l, h1, h2, h4, h3⟩
end Go.Proofs.YtaofgcahmfailaaGreatDoor
end

section
namespace Go.Proofs.YtaofgcahmfailaaGreatDoor
open Go Go.Ck Go.ChangeShapes
set_option maxHeartbeats 1000000
theorem cellsStr : Tryz.prog.cellsOf 9 = 1 := by kernel_rfl
theorem cellsRs : Tryz.prog.cellsOf 77 = 20 := by kernel_rfl
section
variable {H : Type} {enc : TypeId × Value → H} {w : World} {base : Nat} {spare : Nat → Bool} {held : Bool}
theorem trod_cxc {m : Nat} {cs : List Value} {y : DataW H × List MemPlace} (h : DataW.trod enc Tryz.prog w base spare held m 37 cs = some y) : ∃ (u : List Int) (l : List Dt) (mv : Value), u.length = 16 ∧ cs = cxc u mv ∧ Ds (fun b => w.heap[b]?) mv l ∧ l.length ≤ maxLen := by
  obtain ⟨hl, hf⟩ := trod_fields Tryz.underlying37 h
  rw [cellsCx] at hl
  obtain ⟨m1, y1, h1⟩ := hf _ (List.mem_cons_self ..)
  obtain ⟨m2, y2, h2⟩ := hf _ (List.mem_cons_of_mem _ (List.mem_cons_self ..))
  rw [cellsArr] at h1
  rw [cellsSl] at h2
  obtain ⟨u, hu, e1⟩ := trod_up h1
  obtain ⟨mv, l, e2, hs, hlm⟩ := trod_ds h2
  refine ⟨u, l, mv, hu, ?_, hs, hlm⟩
  have e3 : cs = (cs.drop 0).take 16 ++ (cs.drop 16).take 1 := by
    rw [List.drop_zero]
    have e4 : (cs.drop 16).take 1 = cs.drop 16 := List.take_of_length_le (by simp; omega)
    rw [e4, List.take_append_drop]
  rw [e3, e1, e2]
  rfl
theorem bytes_of_string (s : ByteArray) : ∃ b : List Int, Bytes b ∧ bstr b = s ∧ b.length = s.size := by
  refine ⟨s.data.toList.map fun x => (x.toNat : Int), fun b hb => ?_, ?_, by simp⟩
  · obtain ⟨x, _, rfl⟩ := List.mem_map.1 hb
    have := x.toNat_lt
    constructor <;> omega
  · unfold bstr
    rw [List.map_map]
    have : ((fun n : Int => UInt8.ofNat n.toNat) ∘ fun x : UInt8 => (x.toNat : Int)) = id := by
      funext x
      simp
    rw [this, List.map_id]
theorem trod_rs1 {m : Nat} {cs : List Value} {y : DataW H × List MemPlace} (h : DataW.trod enc Tryz.prog w base spare held m 77 cs = some y) : ∃ x : Sb, (Rv (fun b => w.heap[b]?) x ∧ x.l.length ≤ maxLen ∧ x.b.length ≤ maxLen) ∧ cs = sbc x := by
  obtain ⟨hl, hf⟩ := trod_fields Tryz.underlying77 h
  rw [cellsRs] at hl
  obtain ⟨m1, y1, h1⟩ := hf _ (List.mem_cons_self ..)
  obtain ⟨m2, y2, h2⟩ := hf _ (List.mem_cons_of_mem _ (List.mem_cons_self ..))
  obtain ⟨m3, y3, h3⟩ := hf _ (List.mem_cons_of_mem _ (List.mem_cons_of_mem _ (List.mem_cons_self ..)))
  rw [cellsDot] at h1
  rw [cellsCx] at h2
  rw [cellsStr] at h3
  obtain ⟨d, e1⟩ := trod_dot h1
  obtain ⟨u, l, mv, hu, e2, hds, hll⟩ := trod_cxc h2
  obtain ⟨s, e3, _, hs⟩ := DataW.trod_string Tryz.underlying9 h3
  obtain ⟨b, hb, hbs, hbl⟩ := bytes_of_string s
  refine ⟨⟨d, u, hu, l, mv, b, .string s⟩, ⟨⟨hds, by rw [hbs], hb⟩, hll, by show b.length ≤ maxLen; rw [hbl]; exact hs⟩, ?_⟩
  have q : cs = (cs.drop 0).take 2 ++ ((cs.drop 2).take 17 ++ (cs.drop 19).take 1) := by
    rw [List.drop_zero]
    have e4 : (cs.drop 19).take 1 = cs.drop 19 := List.take_of_length_le (by simp; omega)
    have e5 : (cs.drop 2).take 17 ++ cs.drop 19 = cs.drop 2 := by
      have : cs.drop 19 = (cs.drop 2).drop 17 := by rw [List.drop_drop]
      rw [this, List.take_append_drop]
    rw [e4, e5, List.take_append_drop]
  rw [q]
  show _ = dcs d ++ (cxc u mv ++ [.string s])
  rw [← e3, ← e2, ← e1]
theorem trod_rs {m : Nat} {cs : List Value} {y : DataW H × List MemPlace} (h : DataW.trod enc Tryz.prog w base spare held m 39 cs = some y) :
    ∃ (v : Value) (l : List Sb), cs = [v] ∧ Rs (fun b => w.heap[b]?) v l ∧ l.length ≤ maxLen ∧ ∀ x ∈ l, x.l.length ≤ maxLen ∧ x.b.length ≤ maxLen := by
  obtain ⟨v, l, h1, h2, h3, h4⟩ := trod_slice_of (en := sbc) (R := fun x => Rv (fun b => w.heap[b]?) x ∧ x.l.length ≤ maxLen ∧ x.b.length ≤ maxLen) Tryz.underlying39 cellsRs (by decide) sbc_len (fun m cs y hy => trod_rs1 hy) h
  exact ⟨v, l, h1, ⟨h2, fun x hx => (h4 x hx).1⟩, h3, fun x hx => (h4 x hx).2⟩
end
end Go.Proofs.YtaofgcahmfailaaGreatDoor
end

section
namespace Go.Proofs.YtaofgcahmfailaaGreatDoor
open Go Go.Ck Go.ChangeShapes
set_option maxHeartbeats 1000000
theorem cellsAct : Tryz.prog.cellsOf 41 = 25 := by kernel_rfl
theorem cellsAct1 : Tryz.prog.cellsOf 3 = 1 := by kernel_rfl
theorem cellsAct2 : Tryz.prog.cellsOf 33 = 1 := by kernel_rfl
theorem cellsAct3 : Tryz.prog.cellsOf 4 = 1 := by kernel_rfl
theorem cellsAct4 : Tryz.prog.cellsOf 38 = 1 := by kernel_rfl
theorem cellsAct5 : Tryz.prog.cellsOf 39 = 1 := by kernel_rfl
section
variable {H : Type} {enc : TypeId × Value → H} {w : World} {base : Nat} {spare : Nat → Bool} {held : Bool}
theorem up_flat (l : List Int) : l.flatMap (fun n => [Value.int .i64 n]) = up l := by
  induction l with
  | nil => rfl
  | cons a l ih => rw [List.flatMap_cons, ih]; rfl
theorem trod_is {m : Nat} {cs : List Value} {y : DataW H × List MemPlace} (h : DataW.trod enc Tryz.prog w base spare held m 38 cs = some y) :
    ∃ (v : Value) (l : List Int), cs = [v] ∧ Sc (fun b => w.heap[b]?) 1 v l.length (up l) ∧ l.length ≤ maxLen := by
  obtain ⟨v, l, h1, h2, h3, h4⟩ := trod_slice_of (en := fun n : Int => [Value.int .i64 n]) (R := fun _ => True) Tryz.underlying38 cellsAct1 (by decide) (fun _ => rfl) (fun m cs y hy => by
    obtain ⟨n, e, _⟩ := DataW.trod_int Tryz.underlying3 hy
    exact ⟨n, trivial, e⟩) h
  rw [up_flat] at h2
  exact ⟨v, l, h1, h2, h3⟩
theorem trod_act1 {m : Nat} {cs : List Value} {y : DataW H × List MemPlace} (h : DataW.trod enc Tryz.prog w base spare held m 41 cs = some y) : ∃ x : ActD, (Av (fun b => w.heap[b]?) x ∧ x.val.length ≤ maxLen ∧ x.l.length ≤ maxLen) ∧ cs = acc x := by
  obtain ⟨hl, hf⟩ := trod_fields Tryz.underlying41 h
  rw [cellsAct] at hl
  match cs, hl with
  | [c0, c1, c2, c3, c4, c5, c6, c7, c8, c9, c10, c11, c12, c13, c14, c15, c16, c17, c18, c19, c20, c21, c22, c23, c24], _ =>
    obtain ⟨m1, y1, h1⟩ := hf _ (List.mem_of_getElem? (i := 0) rfl)
    obtain ⟨m2, y2, h2⟩ := hf _ (List.mem_of_getElem? (i := 1) rfl)
    obtain ⟨m3, y3, h3⟩ := hf _ (List.mem_of_getElem? (i := 2) rfl)
    obtain ⟨m4, y4, h4⟩ := hf _ (List.mem_of_getElem? (i := 3) rfl)
    obtain ⟨m5, y5, h5⟩ := hf _ (List.mem_of_getElem? (i := 4) rfl)
    obtain ⟨m6, y6, h6⟩ := hf _ (List.mem_of_getElem? (i := 5) rfl)
    obtain ⟨m7, y7, h7⟩ := hf _ (List.mem_of_getElem? (i := 6) rfl)
    obtain ⟨m8, y8, h8⟩ := hf _ (List.mem_of_getElem? (i := 7) rfl)
    obtain ⟨m9, y9, h9⟩ := hf _ (List.mem_of_getElem? (i := 8) rfl)
    dsimp only at h1 h2 h3 h4 h5 h6 h7 h8 h9
    rw [cellsAct1] at h1 h2 h3 h8
    rw [cellsAct2] at h4
    rw [cellsAct3] at h5
    rw [cellsCx] at h6
    rw [cellsAct4] at h7
    rw [cellsAct5] at h9
    obtain ⟨n1, e1, _⟩ := DataW.trod_int Tryz.underlying3 h1
    obtain ⟨n2, e2, _⟩ := DataW.trod_int Tryz.underlying3 h2
    obtain ⟨n3, e3, _⟩ := DataW.trod_int Tryz.underlying3 h3
    obtain ⟨v4, l4, e4, s4, b4, k4⟩ := trod_bs h4
    obtain ⟨b5, e5, _⟩ := DataW.trod_bool Tryz.underlying4 h5
    obtain ⟨u, l, mv, hu, e6, hds, hll⟩ := trod_cxc h6
    obtain ⟨v7, l7, e7, s7, k7⟩ := trod_is h7
    obtain ⟨n8, e8, _⟩ := DataW.trod_int Tryz.underlying3 h8
    obtain ⟨v9, l9, e9, s9, k9, _⟩ := trod_rs h9
    simp only [List.drop, List.take, List.cons.injEq, and_true] at e1 e2 e3 e4 e5 e6 e7 e8 e9
    refine ⟨⟨n1, n2, n3, l4, v4, b5, u, hu, l, mv, l7, v7, n8, l9, v9⟩, ⟨⟨s4, b4, hds, s7, s9⟩, k4, hll⟩, ?_⟩
    unfold acc
    dsimp only
    rw [e1, e2, e3, e4, e5, e7, e8, e9, ← e6]
    rfl
end
end Go.Proofs.YtaofgcahmfailaaGreatDoor
end

section
namespace Go.Proofs.YtaofgcahmfailaaGreatDoor
open Go Go.Ck Go.ChangeShapes
set_option maxHeartbeats 1000000
theorem bytesDot : Tryz.prog.bytesOf 45 = 16 := by kernel_rfl
section
variable {H : Type} {enc : TypeId × Value → H} {w : World} {base : Nat} {spare : Nat → Bool} {held : Bool}
theorem trod_cxc_w {m : Nat} {cs : List Value} {y : DataW H × List MemPlace} (h : DataW.trod enc Tryz.prog w base spare held m 37 cs = some y) (hw : WB Tryz.prog 37 y.1) : ∃ (u : List Int) (l : List Dt) (mv : Value), u.length = 16 ∧ cs = cxc u mv ∧ Ds (fun b => w.heap[b]?) mv l ∧ l.length ≤ 8796093022208 := by
  obtain ⟨hl, hf⟩ := trod_fields_w Tryz.underlying37 h hw
  rw [cellsCx] at hl
  obtain ⟨m1, y1, h1, _⟩ := hf 0 _ rfl
  obtain ⟨m2, y2, h2, hw2⟩ := hf 1 _ rfl
  dsimp only at h1 h2 hw2
  rw [cellsArr] at h1
  rw [cellsSl] at h2
  obtain ⟨u, hu, e1⟩ := trod_up h1
  obtain ⟨mv, l, e2, hs, hlm⟩ := trod_ds h2
  have hl2 : l.length ≤ 8796093022208 := by
    obtain ⟨_, ad, cap, hmv, _, _⟩ := id hs
    rw [e2, hmv] at h2
    have := slice_len_w Tryz.underlying35 h2 hw2
    rw [bytesDot] at this
    unfold reachBytes at this
    omega
  refine ⟨u, l, mv, hu, ?_, hs, hl2⟩
  have e3 : cs = (cs.drop 0).take 16 ++ (cs.drop 16).take 1 := by
    rw [List.drop_zero]
    have e4 : (cs.drop 16).take 1 = cs.drop 16 := List.take_of_length_le (by simp; omega)
    rw [e4, List.take_append_drop]
  rw [e3, e1, e2]
  rfl
theorem trod_rs1_w {m : Nat} {cs : List Value} {y : DataW H × List MemPlace} (h : DataW.trod enc Tryz.prog w base spare held m 77 cs = some y) (hw : WB Tryz.prog 77 y.1) : ∃ x : Sb, (Rv (fun b => w.heap[b]?) x ∧ x.l.length ≤ 8796093022208 ∧ x.b.length ≤ 140737488355328) ∧ cs = sbc x := by
  obtain ⟨hl, hf⟩ := trod_fields_w Tryz.underlying77 h hw
  rw [cellsRs] at hl
  obtain ⟨m1, y1, h1, _⟩ := hf 0 _ rfl
  obtain ⟨m2, y2, h2, hw2⟩ := hf 1 _ rfl
  obtain ⟨m3, y3, h3, hw3⟩ := hf 2 _ rfl
  dsimp only at h1 h2 h3 hw2 hw3
  rw [cellsDot] at h1
  rw [cellsCx] at h2
  rw [cellsStr] at h3
  obtain ⟨d, e1⟩ := trod_dot h1
  obtain ⟨u, l, mv, hu, e2, hds, hll⟩ := trod_cxc_w h2 hw2
  obtain ⟨s, e3, ey, hs⟩ := DataW.trod_string Tryz.underlying9 h3
  rw [ey] at hw3
  have hsl := str_len_w hw3
  obtain ⟨b, hb, hbs, hbl⟩ := bytes_of_string s
  refine ⟨⟨d, u, hu, l, mv, b, .string s⟩, ⟨⟨hds, by rw [hbs], hb⟩, hll, ?_⟩, ?_⟩
  · show b.length ≤ _
    rw [hbl]
    have e : s.data.toList.length = s.size := by simp
    rw [e] at hsl
    unfold reachBytes at hsl
    omega
  have q : cs = (cs.drop 0).take 2 ++ ((cs.drop 2).take 17 ++ (cs.drop 19).take 1) := by
    rw [List.drop_zero]
    have e4 : (cs.drop 19).take 1 = cs.drop 19 := List.take_of_length_le (by simp; omega)
    have e5 : (cs.drop 2).take 17 ++ cs.drop 19 = cs.drop 2 := by
      have : cs.drop 19 = (cs.drop 2).drop 17 := by rw [List.drop_drop]
      rw [this, List.take_append_drop]
    rw [e4, e5, List.take_append_drop]
  rw [q]
  show _ = dcs d ++ (cxc u mv ++ [.string s])
  rw [← e3, ← e2, ← e1]
theorem trod_rs_w {m : Nat} {cs : List Value} {y : DataW H × List MemPlace} (h : DataW.trod enc Tryz.prog w base spare held m 39 cs = some y) (hw : WB Tryz.prog 39 y.1) :
    ∃ (v : Value) (l : List Sb), cs = [v] ∧ Rs (fun b => w.heap[b]?) v l ∧ l.length ≤ maxLen ∧ ∀ x ∈ l, x.l.length ≤ 8796093022208 ∧ x.b.length ≤ 140737488355328 := by
  obtain ⟨v, l, h1, h2, h3, h4⟩ := trod_slice_w (en := sbc) (R := fun x => Rv (fun b => w.heap[b]?) x ∧ x.l.length ≤ 8796093022208 ∧ x.b.length ≤ 140737488355328) Tryz.underlying39 cellsRs (by decide) sbc_len (fun m cs y hy hw => trod_rs1_w hy hw) h hw
  exact ⟨v, l, h1, ⟨h2, fun x hx => (h4 x hx).1⟩, h3, fun x hx => (h4 x hx).2⟩
theorem trod_act_w {m : Nat} {cs : List Value} {y : DataW H × List MemPlace} (h : DataW.trod enc Tryz.prog w base spare held m 41 cs = some y) (hw : WB Tryz.prog 41 y.1) :
    ∃ x : ActD, (Av (fun b => w.heap[b]?) x ∧ x.which.length ≤ maxLen ∧ x.raw.length ≤ maxLen ∧ ∀ s ∈ x.raw, s.l.length ≤ 8796093022208 ∧ s.b.length ≤ 140737488355328) ∧ cs = acc x := by
  obtain ⟨hl, hf⟩ := trod_fields_w Tryz.underlying41 h hw
  rw [cellsAct] at hl
  match cs, hl with
  | [c0, c1, c2, c3, c4, c5, c6, c7, c8, c9, c10, c11, c12, c13, c14, c15, c16, c17, c18, c19, c20, c21, c22, c23, c24], _ =>
    obtain ⟨m1, y1, h1, _⟩ := hf 0 _ rfl
    obtain ⟨m2, y2, h2, _⟩ := hf 1 _ rfl
    obtain ⟨m3, y3, h3, _⟩ := hf 2 _ rfl
    obtain ⟨m4, y4, h4, _⟩ := hf 3 _ rfl
    obtain ⟨m5, y5, h5, _⟩ := hf 4 _ rfl
    obtain ⟨m6, y6, h6, _⟩ := hf 5 _ rfl
    obtain ⟨m7, y7, h7, _⟩ := hf 6 _ rfl
    obtain ⟨m8, y8, h8, _⟩ := hf 7 _ rfl
    obtain ⟨m9, y9, h9, hw9⟩ := hf 8 _ rfl
    dsimp only at h1 h2 h3 h4 h5 h6 h7 h8 h9 hw9
    rw [cellsAct1] at h1 h2 h3 h8
    rw [cellsAct2] at h4
    rw [cellsAct3] at h5
    rw [cellsCx] at h6
    rw [cellsAct4] at h7
    rw [cellsAct5] at h9
    obtain ⟨n1, e1, _⟩ := DataW.trod_int Tryz.underlying3 h1
    obtain ⟨n2, e2, _⟩ := DataW.trod_int Tryz.underlying3 h2
    obtain ⟨n3, e3, _⟩ := DataW.trod_int Tryz.underlying3 h3
    obtain ⟨v4, l4, e4, s4, b4, k4⟩ := trod_bs h4
    obtain ⟨b5, e5, _⟩ := DataW.trod_bool Tryz.underlying4 h5
    obtain ⟨u, l, mv, hu, e6, hds, hll⟩ := trod_cxc h6
    obtain ⟨v7, l7, e7, s7, k7⟩ := trod_is h7
    obtain ⟨n8, e8, _⟩ := DataW.trod_int Tryz.underlying3 h8
    obtain ⟨v9, l9, e9, s9, k9, k9b⟩ := trod_rs_w h9 hw9
    simp only [List.drop, List.take, List.cons.injEq, and_true] at e1 e2 e3 e4 e5 e6 e7 e8 e9
    refine ⟨⟨n1, n2, n3, l4, v4, b5, u, hu, l, mv, l7, v7, n8, l9, v9⟩, ⟨⟨s4, b4, hds, s7, s9⟩, k7, k9, k9b⟩, ?_⟩
    unfold acc
    dsimp only
    rw [e1, e2, e3, e4, e5, e7, e8, e9, ← e6]
    rfl
theorem trod_actsT {m : Nat} {cs : List Value} {y : DataW H × List MemPlace} (h : DataW.trod enc Tryz.prog w base spare held m 22 cs = some y) :
    ∃ (v : Value) (l : List ActD), cs = [v] ∧ Acts (fun b => w.heap[b]?) v l ∧ l.length ≤ maxLen ∧ ∀ x ∈ l, x.val.length ≤ maxLen ∧ x.l.length ≤ maxLen := by
  obtain ⟨v, l, h1, h2, h3, h4⟩ := trod_slice_of (en := acc) (R := fun x => Av (fun b => w.heap[b]?) x ∧ x.val.length ≤ maxLen ∧ x.l.length ≤ maxLen) Tryz.underlying22 cellsAct (by decide) acc_len (fun m cs y hy => trod_act1 hy) h
  exact ⟨v, l, h1, ⟨h2, fun x hx => (h4 x hx).1⟩, h3, fun x hx => (h4 x hx).2⟩
end
end Go.Proofs.YtaofgcahmfailaaGreatDoor
end
