/-
  Part 14 of a proof: CiC CiD.
  Conditions: each theorem states its own.
-/
import Derived.Test.YtaofgcahmfailaaGreatDoorCmNPM13
set_option maxRecDepth 100000
set_option linter.unusedVariables false
set_option linter.unusedSimpArgs false
section
namespace Go.Proofs.YtaofgcahmfailaaGreatDoor
open Go Go.Ck
set_option maxHeartbeats 4000000
def SealC (idl : Bool) : Prop := ∀ (bv : Nat) (key : List Int) (bn bu bt : Nat) (N : List (List Int)) (U : List UseK) (T : Tab) (nm val : List Int) (vn vv pv : Value) (q : Hdr) (del : Bool) (hk : Bytes key) (hk32 : key.length = 32)
    (hN : Names N) (hNl : N.length < 900000) (hU : U.length < 900000) (hT : Held U T) (hnm : Bytes nm) (hnl : 1 ≤ nm.length ∧ nm.length ≤ 64) (hok : q.ok) (hnew : (q.cl, q.ct) ∉ U) (yv : Bytes val) (hvl : del = false → val.length ≤ 3999)
    (h : View) (hv : Vb h bv idl key bn bu bt) (hsn : Bs8 h vn nm) (hsv : Bs8 h vv val) (hsp : Bs8 h pv q.past) (yp : Bytes q.past) (hg : idl = false → ShG h) (w : World) (s : St ⟨w, h, doms [nmR bn N, usR bu U, tbR bt T]⟩ h [nmR bn N, usR bu U, tbR bt T] w),
    Calls Tryz.prog 25 [.pointer (some ⟨bv, 0, none⟩), vn, .agg (hdc q pv).toArray, vv, .bool del].toArray w fun e w' => ∃ y : View × Value × Value × Value, e = .returned (.tuple #[.agg (envc (nameX idl key N nm) q y.2.1 y.2.2.1).toArray, .int .i64 0]) ∧
      St ⟨w, h, doms [nmR bn N, usR bu U, tbR bt T]⟩ y.1 [rowB y.2.1 q.past, rowB y.2.2.1 (sealX idl key U q.ep q.cl q.ct (boundF (nameX idl key N nm) q) (padW (inF del val))), nmR bn (addX idl N nm), usR bu (U ++ [(q.cl, q.ct)]),
        tbR bt (tabX idl T ((q.cl, q.ct, q.ep, bstr (boundF (nameX idl key N nm) q), bstr (sealX idl key U q.ep q.cl q.ct (boundF (nameX idl key N nm) q) (padW (inF del val)))), y.2.2.2, padW (inF del val)))] w' ∧ Bs8 y.1 y.2.2.2 (padW (inF del val))
theorem sealC_true : SealC true := fun bv key bn bu bt N U T nm val vn vv pv q del hk hk32 hN hNl hU hT hnm hnl hok hnew yv hvl h hv hsn hsv hsp yp hg w s =>
  ESeal_sp bv key bn bu bt N U T nm val vn vv pv q del hk hk32 hN hNl hU hT hnm hnl hok hnew yv hvl h hv hsn hsv hsp w s
theorem encU_lenC : ∀ u : List Int, (u.flatMap num8).length = 8 * u.length
  | [] => rfl
  | x :: u => by rw [List.flatMap_cons, List.length_append, num8_len, encU_lenC u, List.length_cons]; omega
theorem encW_lenC (u : List Int) (l : List Dt) (hu : u.length = 16) : (encW u l).length = 129 + 16 * l.length := by
  unfold encW
  simp only [List.length_append, encU_lenC, encL_len, num1_len, hu]
theorem encW_byC (u : List Int) (l : List Dt) : Bytes (encW u l) := encW_bytes u l
theorem fill3c {d : Dt} {u : List Int} {mv bv : Value} (hu : u.length = 16) (hb : bv.cells = #[bv]) : fillL (fun i : Nat => ([(0, 2), (2, 17), (19, 1)] : List (Nat × Nat))[i]?) ([.int .i64 0, .int .i64 0] ++ (up zeroU ++ [.slice none 0 0, .slice none 0 0])) [(0, .agg (dcs d).toArray), (1, .agg (cxc u mv).toArray), (2, bv)] = some (dcs d ++ (cxc u mv ++ [bv])) := by
  obtain ⟨a0, a1, a2, a3, a4, a5, a6, a7, a8, a9, a10, a11, a12, a13, a14, a15, rfl⟩ := list16 u hu
  unfold fillL fillL fillL fillL
  simp only [hb]
  rfl
theorem hd_three {h h' : View} {L : List Res} {A B C : Res} (hl : Le h h') (ha : A ∈ L) (hb : B ∈ L) (hc : C ∈ L) : ∀ w, Hd h' L w → Hd h [A, B, C] w := fun w s => Hd.sub s hl (fun r hr => by
  rcases List.mem_cons.1 hr with rfl | hr
  · exact ha
  · rcases List.mem_cons.1 hr with rfl | hr
    · exact hb
    · rw [List.mem_singleton.1 hr]; exact hc)
theorem hd_two' {h h' : View} {L : List Res} {A B : Res} (hl : Le h h') (ha : A ∈ L) (hb : B ∈ L) : ∀ w, Hd h' L w → Hd h [A, B] w := fun w s => Hd.sub s hl (fun r hr => by
  rcases List.mem_cons.1 hr with rfl | hr
  · exact ha
  · rw [List.mem_singleton.1 hr]; exact hb)
def zSb : Sb := ⟨(0, 0), zeroU, rfl, [], .slice none 0 0, [], .slice none 0 0⟩
theorem sealX_byC (idl : Bool) (key : List Int) (U : List UseK) (ep c n : Int) (wi b : List Int) : Bytes (sealX idl key U ep c n wi b) := by
  cases idl
  · exact aeadS_by _ _ _ _
  · exact drawF_by _ _ _ _
theorem encE_byC {ek : List Int} {q : Hdr} {se : List Int} (hk : Bytes ek) (hp : Bytes q.past) (hs : Bytes se) : Bytes (encE ek q se) := by
  unfold encE boundF
  exact cbytes_app (cbytes_app (cbytes_app (cbytes_app (cbytes_app (cbytes_app (cbytes_app (cbytes_app hk (putLow_bytes' 8 _)) (putLow_bytes' 8 _)) (putLow_bytes' 8 _)) (putLow_bytes' 8 _)) (putLow_bytes' 4 _)) hp) (putLow_bytes' 4 _)) hs
theorem CWrite_sp (idl : Bool) (hE : SealC idl) (b : Nat) (id : Int) (bv : Nat) (ep ct : Int) (bm : Nat) (K : List (ByteArray × Value)) (key : List Int) (bn bu bt : Nat) (N : List (List Int)) (U : List UseK) (T : Tab) (nm val : List Int) (n : Int) (del : Bool) (u : List Int) (l : List Dt) (vn vv cv : Value)
    (hid : 1 ≤ id ∧ id ≤ 16) (hep : 1 ≤ ep ∧ ep ≤ 1048576) (hn0 : 0 ≤ n ∧ n < 1000000) (hct : 0 ≤ ct ∧ ct < 1000000) (hK : numK K nm n) (hhd : headE u l (id, n + 1) = 0) (hk : Bytes key) (hk32 : key.length = 32)
    (hN : Names N) (hNl : N.length < 900000) (hU : U.length < 900000) (hT : Held U T) (hnm : Bytes nm) (hnl : 1 ≤ nm.length ∧ nm.length ≤ 64) (hnew : (id, ct + 1) ∉ U) (yv : Bytes val) (hvl : del = false → val.length ≤ 3999)
    (h : View) (hv : Vb h bv idl key bn bu bt) (hsn : Bs8 h vn nm) (hsv : Bs8 h vv val) (hc : Cx h cv u l) (hg : idl = false → ShG h) (w : World) (s : St ⟨w, h, doms [clR b id bv ep ct bm, cmR bm K, nmR bn N, usR bu U, tbR bt T]⟩ h [clR b id bv ep ct bm, cmR bm K, nmR bn N, usR bu U, tbR bt T] w) :
    Calls Tryz.prog 9 [.pointer (some ⟨b, 0, none⟩), vn, vv, .bool del, cv].toArray w fun e w' => ∃ y : View × Sb × Value × List Int, e = .returned (.tuple #[.agg (bcs (nameX idl key N nm)).toArray, sbv y.2.1, .int .i64 0]) ∧
      St ⟨w, h, doms [clR b id bv ep ct bm, cmR bm K, nmR bn N, usR bu U, tbR bt T]⟩ y.1 [clR b id bv ep (ct + 1) bm, cmR bm (mput K (bstr nm) (.int .i64 (n + 1))), nmR bn (addX idl N nm), usR bu (U ++ [(id, ct + 1)]),
        tbR bt (tabX idl T ((id, ct + 1, ep, bstr (boundF (nameX idl key N nm) ⟨ep, ct + 1, id, n + 1, encW u l⟩), bstr y.2.2.2), y.2.2.1, padW (inF del val)))] w' ∧
      (Bs8 y.1 y.2.2.1 (padW (inF del val)) ∧ Sv y.1 y.2.1 ∧ y.2.2.2 = sealX idl key U ep id (ct + 1) (boundF (nameX idl key N nm) ⟨ep, ct + 1, id, n + 1, encW u l⟩) (padW (inF del val)) ∧ y.2.1.a = ((id, n + 1), u, l, encE (nameX idl key N nm) ⟨ep, ct + 1, id, n + 1, encW u l⟩ y.2.2.2)) := by
  have hk0 : checkC u l = 0 := by
    unfold headE at hhd
    split at hhd
    · assumption
    · exact hhd
  have hcl : l.length ≤ 32 := (check_right hk0).2.1
  have hc' := hc
  obtain ⟨hu, mv, rfl, hs⟩ := hc
  have H1 := head_sp b id bv ep ct bm K nm n u l vn _ hid hn0 hct hK (by omega) h hsn hc'
  rw [hhd] at H1
  simp only [↓reduceIte, true_implies] at H1
  have hq : (⟨ep, ct + 1, id, n + 1, encW u l⟩ : Hdr).ok := by
    have hl2 : (encW u l).length = 129 + 16 * l.length := encW_lenC u l hu
    refine ⟨hep, ⟨?_, ?_⟩, hid, ⟨?_, ?_⟩, ?_⟩ <;> dsimp only <;> omega
  have hpb : Bytes (encW u l) := encW_byC u l
  obtain ⟨q, eq⟩ : ∃ q : Hdr, q = ⟨ep, ct + 1, id, n + 1, encW u l⟩ := ⟨_, rfl⟩
  have q1 : q.ep = ep := by rw [eq]
  have q2 : q.cl = id := by rw [eq]
  have q3 : q.ct = ct + 1 := by rw [eq]
  have q4 : q.past = encW u l := by rw [eq]
  have q5 : q.nu = n + 1 := by rw [eq]
  rw [← eq] at H1 hq ⊢
  refine calls_enter Tryz.func9 rfl Tryz.ntmps9 rfl s ?_
  repeat' (first|(refine ycf ?_;apply ybk;(·first|(first|exact tk_|(apply qv_eql_pnil<;>rfl)|(apply qv_nilCheck;rfl)|(apply yad;(·rfl);(·exact yaz 2 rfl);(·exact ycj hu))));(·rfl);(·rfl))|refine t1_ ?_|(refine ta_ ?_;intro _)|((fail_if_success (refine ybi rfl ?_));refine ybj rfl ?_ ?_<;>(intro ht;rw [ht];first|replace ht := oet_ ht|replace ht := oef_ ht|skip))|(refine ych ?_;first|(refine ybw rfl ?_ ?_<;>intro ht)|(refine ybx rfl ?_ ?_<;>intro ht)))
  rename_i b9 b10 b11
  refine rx_call_l (ycp Tryz.func24 rfl (by kernel_rfl) rfl) (pick2 3 3 rfl rfl) H1 rfl rfl rfl ybf (fun _ _ _ => ybf) ?_
  rintro ⟨h1, vp⟩ hvp hle1
  dsimp only at hvp hle1 ⊢
  have hvp : Bs8 h1 vp q.past := by rw [q4]; exact hvp
  have hle1 : Le h h1 := hle1
  repeat' (first|(refine ycf ?_;apply ybk;(·first|(exact tk_));(·rfl);(·rfl)) | (refine ybg 0 rfl rfl rfl rfl (by show 0 + 5 ≤ 5;omega) (by obtain ⟨_, adp, capp, rfl, _⟩ := hvp;rfl) (ybh rfl) rfl rfl ?_ ?_ ?_;(·(exact to_));(·(exact to_))) | refine t1_ ?_ | (refine ta_ ?_;intro _) | ((fail_if_success (refine ybi rfl ?_));refine ybj rfl ?_ ?_<;>(intro ht;rw [ht];first|replace ht := oet_ ht | replace ht := oef_ ht | skip)) | (refine ych ?_;first|(refine ybw rfl ?_ ?_<;>intro ht) | (refine ybx rfl ?_ ?_<;>intro ht)))
  rename_i b13
  have hbk := nameX_len idl key N nm
  have E1 := hE bv key bn bu bt N U T nm val vn vv vp q del hk hk32 hN hNl hU hT hnm hnl hq (by rw [q2, q3]; exact hnew) yv hvl h1 (hv.mono hle1) (hsn.mono hle1) (hsv.mono hle1) hvp (by rw [q4]; exact hpb) (fun e => (hg e).mono hle1)
  have hbky := nameX_by idl key N nm
  generalize nameX idl key N nm = bk at hbk hbky E1 ⊢
  have hse : sealX idl key U q.ep q.cl q.ct (boundF bk q) (padW (inF del val)) = sealX idl key U ep id (ct + 1) (boundF bk q) (padW (inF del val)) := by rw [q1, q2, q3]
  rw [hse] at E1
  have hsl := sealX_len idl key U ep id (ct + 1) (boundF bk q) (padW (inF del val))
  have hsy := sealX_byC idl key U ep id (ct + 1) (boundF bk q) (padW (inF del val))
  generalize hsx : sealX idl key U ep id (ct + 1) (boundF bk q) (padW (inF del val)) = se at E1 hsl hsy
  refine cx_perm (L' := [Res.blk b13 (.cells (hdc q vp).toArray 86 (0, 0)), clR b id bv ep ct bm, cmR bm K, Res.blk b11 (.cells (sbc zSb).toArray 47 (0, 0)), Res.blk b10 (.cells (bcs (List.replicate 32 0)).toArray 43 (0, 0)), Res.blk b9 (.cells (cxc u mv).toArray 42 (0, 0)), nmR bn N, usR bu U, tbR bt T]) (.refl _) ?_
  refine cx_cut (X := View × Value × Value × Value × Nat) (fun y => [(0, .pointer (some ⟨b, 0, none⟩)), (1, vn), (9, .pointer (some ⟨b9, 0, none⟩)), (10, .pointer (some ⟨b10, 0, none⟩)), (11, .pointer (some ⟨b11, 0, none⟩)), (12, .int .i64 0), (13, .pointer (some ⟨b13, 0, none⟩)), (14, .int .i64 0), (15, .pointer (some ⟨y.2.2.2.2, 0, none⟩))]) (fun y => y.1)
    (fun y => [Res.blk y.2.2.2.2 (.cells (envc bk q y.2.1 y.2.2.1).toArray 90 (0, 0)), clR b id bv ep ct bm, cmR bm K, Res.blk b9 (.cells (cxc u mv).toArray 42 (0, 0)), Res.blk b10 (.cells (bcs (List.replicate 32 0)).toArray 43 (0, 0)), Res.blk b11 (.cells (sbc zSb).toArray 47 (0, 0)), Res.blk b13 (.cells (hdc q vp).toArray 86 (0, 0)), nmR bn (addX idl N nm), usR bu (U ++ [(q.cl, q.ct)]), tbR bt (tabX idl T ((q.cl, q.ct, q.ep, bstr (boundF bk q), bstr se), y.2.2.2.1, padW (inF del val)))]) (fun y => Le h1 y.1 ∧ Bs8 y.1 y.2.1 q.past ∧ Bs8 y.1 y.2.2.1 se ∧ Bs8 y.1 y.2.2.2.1 (padW (inF del val))) ?_ ?_
  · refine cx_region_floX [Res.blk b13 (.cells (hdc q vp).toArray 86 (0, 0)), clR b id bv ep ct bm] [8, 12, 13, 14] [0, 1, 2, 3, 4, 5, 6, 7] [8, 9, 10, 11] 12 [13, 14] rfl (by kernel_rfl) ?_
    repeat' (refine ycf ?_;(first|(first|(apply ybm;(·(first|(first|exact tk_|(apply qv_nilCheck;rfl)|(apply yad;(·rfl);(·exact yaz 0 rfl);(·rfl)))|(apply yae;(·rfl);(·(first|exact yay 1 rfl rfl)))|exact tq_));(·rfl);(·rfl);(·(first|exact hd_two tmm_ tmm_|exact hd_two' hle tmm_ tmm_)))|refine ybl rfl rfl ?_|((fail_if_success (refine ybi rfl ?_));refine ybj rfl ?_ ?_<;>(intro ht;rw [ht];first|replace ht := oet_ ht|replace ht := oef_ ht|skip))|(refine tb_ ?_ ?_ ?_;(·(first|exact ybf|(refine .inl ?_;(first|exact hd_two tmm_ tmm_|exact hd_two' hle tmm_ tmm_))|exact to_));(·intro _;(first|exact ybf|(refine .inl ?_;(first|exact hd_two tmm_ tmm_|exact hd_two' hle tmm_ tmm_))|exact to_));intro _)|(first|(refine tqs_ ?_ ?_ ?_;(·(first|exact ybf|(refine .inl ?_;(first|exact hd_two tmm_ tmm_|exact hd_two' hle tmm_ tmm_))|exact to_));(·(first|exact ybf|(refine .inl ?_;(first|exact hd_two tmm_ tmm_|exact hd_two' hle tmm_ tmm_))|exact to_))))|(apply ybn;(·(first|(first|exact tk_|(apply qv_nilCheck;rfl)|(apply yad;(·rfl);(·exact yaz 0 rfl);(·rfl)))|(apply yae;(·rfl);(·(first|exact yay 1 rfl rfl)))|exact tq_));(·rfl);(·rfl);(·rfl);(·(first|exact ybf|(refine .inl ?_;(first|exact hd_two tmm_ tmm_|exact hd_two' hle tmm_ tmm_))|exact to_))))|refine ycg ?_))
    refine nx_flo 8 [9, 10, 11] [] (by kernel_rfl) ?_ ?_
    · skip
      refine rx_call_l (ycp Tryz.func25 rfl (by kernel_rfl) rfl) (pick3 6 6 6 rfl rfl rfl) E1 rfl rfl rfl ?_ ?_ ?_
      · (first|exact ybf|(refine .inl ?_;(first|exact hd_two tmm_ tmm_|exact hd_two' hle tmm_ tmm_))|exact to_)
      · intro _ _ hle;(first|exact ybf|(refine .inl ?_;(first|exact hd_two tmm_ tmm_|exact hd_two' hle tmm_ tmm_))|exact to_)
      rintro ⟨h2, pv, sv, tv⟩ htv hle
      dsimp only at htv hle ⊢
      refine rx_persistA (by intro z hz;simp [doms, Res.mp, Res.blk] at hz;simp [doms, Res.mp, Res.blk, Res.row];rcases hz with rfl | rfl | rfl | rfl | rfl<;>simp) fun h3 hle3 hpv => ?_
      refine rx_persistA (by intro z hz;simp [doms, Res.mp, Res.blk] at hz;simp [doms, Res.mp, Res.blk, Res.row];rcases hz with rfl | rfl | rfl | rfl | rfl<;>simp) fun h4 hle4 hsv => ?_
      have hpv : Bs8 h4 pv q.past := Sc.mono hpv hle4
      have hsv : Bs8 h4 sv se := hsv
      have hle : Le h1 h4 := Le.trans (Le.trans hle hle3) hle4
      have htv : Bs8 h4 tv (padW (inF del val)) := (htv.mono hle3).mono hle4
      obtain ⟨_, adp, capp, rfl, _, _⟩ := (show Bs8 _ _ _ from hpv)
      obtain ⟨_, ads, caps, rfl, _, _⟩ := (show Bs8 _ _ _ from hsv)
      repeat' (refine ycf ?_;(first|(first|(apply ybm;(·(first|(first|exact tk_|(apply qv_nilCheck;rfl)|(apply yad;(·rfl);(·exact yaz 0 rfl);(·rfl)))|(apply yae;(·rfl);(·(first|exact yay 1 rfl rfl)))|exact tq_));(·rfl);(·rfl);(·(first|exact hd_two tmm_ tmm_|exact hd_two' hle tmm_ tmm_)))|refine ybl rfl rfl ?_|((fail_if_success (refine ybi rfl ?_));refine ybj rfl ?_ ?_<;>(intro ht;rw [ht];first|replace ht := oet_ ht|replace ht := oef_ ht|skip))|(refine tb_ ?_ ?_ ?_;(·(first|exact ybf|(refine .inl ?_;(first|exact hd_two tmm_ tmm_|exact hd_two' hle tmm_ tmm_))|exact to_));(·intro _;(first|exact ybf|(refine .inl ?_;(first|exact hd_two tmm_ tmm_|exact hd_two' hle tmm_ tmm_))|exact to_));intro _)|(first|(refine tqs_ ?_ ?_ ?_;(·(first|exact ybf|(refine .inl ?_;(first|exact hd_two tmm_ tmm_|exact hd_two' hle tmm_ tmm_))|exact to_));(·(first|exact ybf|(refine .inl ?_;(first|exact hd_two tmm_ tmm_|exact hd_two' hle tmm_ tmm_))|exact to_))))|(apply ybn;(·(first|(first|exact tk_|(apply qv_nilCheck;rfl)|(apply yad;(·rfl);(·exact yaz 0 rfl);(·rfl)))|(apply yae;(·rfl);(·(first|exact yay 1 rfl rfl)))|exact tq_));(·rfl);(·rfl);(·rfl);(·(first|exact ybf|(refine .inl ?_;(first|exact hd_two tmm_ tmm_|exact hd_two' hle tmm_ tmm_))|exact to_))))|refine ycg ?_))
      refine nx_flo_end ?_
      repeat' (refine ycf ?_;(first|(first|(apply ybm;(·(first|(first|exact tk_|(apply qv_nilCheck;rfl)|(apply yad;(·rfl);(·exact yaz 0 rfl);(·rfl)))|(apply yae;(·rfl);(·(first|exact yay 1 rfl rfl)))|exact tq_));(·rfl);(·rfl);(·(first|exact hd_two tmm_ tmm_|exact hd_two' hle tmm_ tmm_)))|refine ybl rfl rfl ?_|((fail_if_success (refine ybi rfl ?_));refine ybj rfl ?_ ?_<;>(intro ht;rw [ht];first|replace ht := oet_ ht|replace ht := oef_ ht|skip))|(refine tb_ ?_ ?_ ?_;(·(first|exact ybf|(refine .inl ?_;(first|exact hd_two tmm_ tmm_|exact hd_two' hle tmm_ tmm_))|exact to_));(·intro _;(first|exact ybf|(refine .inl ?_;(first|exact hd_two tmm_ tmm_|exact hd_two' hle tmm_ tmm_))|exact to_));intro _)|(first|(refine ybg 0 rfl rfl rfl (by show (envc bk q _ _).toArray.size = 38;simpa using envc_len hbk) (by show 0 + (envc bk q _ _).toArray.size ≤ _;rw [List.size_toArray, envc_len hbk];exact nble rfl) (List.all_eq_true.2 (envc_one rfl rfl)) (ybh (by show (envc bk q _ _).length = _;rw [envc_len hbk];rfl)) rfl rfl ?_ ?_ ?_;(·(first|exact ybf|(refine .inl ?_;(first|exact hd_two tmm_ tmm_|exact hd_two' hle tmm_ tmm_))|exact to_));(·(first|exact ybf|(refine .inl ?_;(first|exact hd_two tmm_ tmm_|exact hd_two' hle tmm_ tmm_))|exact to_)))|(refine tqs_ ?_ ?_ ?_;(·(first|exact ybf|(refine .inl ?_;(first|exact hd_two tmm_ tmm_|exact hd_two' hle tmm_ tmm_))|exact to_));(·(first|exact ybf|(refine .inl ?_;(first|exact hd_two tmm_ tmm_|exact hd_two' hle tmm_ tmm_))|exact to_))))|(apply ybn;(·(first|(first|exact tk_|(apply qv_nilCheck;rfl)|(apply yad;(·rfl);(·exact yaz 0 rfl);(·rfl)))|(apply yae;(·rfl);(·(first|exact yay 1 rfl rfl)))|exact tq_));(·rfl);(·rfl);(·rfl);(·(first|exact ybf|(refine .inl ?_;(first|exact hd_two tmm_ tmm_|exact hd_two' hle tmm_ tmm_))|exact to_))))|refine ycg ?_))
      rename_i b15
      refine nx_cut ⟨h4, .slice adp q.past.length capp, .slice ads se.length caps, tv, b15⟩ ⟨hle, hpv, hsv, htv⟩ ts_ (fun w' s' => ?_)
      exact s'.picks [0, 4, 4, 6, 5, 4, 3, 0, 0, 0]
    · skip
      repeat' (refine ycf ?_;(first|(first|(apply ybm;(·(first|(first|exact tk_|(apply qv_nilCheck;rfl)|(apply yad;(·rfl);(·exact yaz 0 rfl);(·rfl)))|(apply yae;(·rfl);(·(first|exact yay 1 rfl rfl)))|exact tq_));(·rfl);(·rfl);(·(first|exact hd_two tmm_ tmm_|exact hd_two' hle tmm_ tmm_)))|refine ybl rfl rfl ?_|((fail_if_success (refine ybi rfl ?_));refine ybj rfl ?_ ?_<;>(intro ht;rw [ht];first|replace ht := oet_ ht|replace ht := oef_ ht|skip))|(refine tb_ ?_ ?_ ?_;(·(first|exact ybf|(refine .inl ?_;(first|exact hd_two tmm_ tmm_|exact hd_two' hle tmm_ tmm_))|exact to_));(·intro _;(first|exact ybf|(refine .inl ?_;(first|exact hd_two tmm_ tmm_|exact hd_two' hle tmm_ tmm_))|exact to_));intro _)|(first|(refine tqs_ ?_ ?_ ?_;(·(first|exact ybf|(refine .inl ?_;(first|exact hd_two tmm_ tmm_|exact hd_two' hle tmm_ tmm_))|exact to_));(·(first|exact ybf|(refine .inl ?_;(first|exact hd_two tmm_ tmm_|exact hd_two' hle tmm_ tmm_))|exact to_))))|(apply ybn;(·(first|(first|exact tk_|(apply qv_nilCheck;rfl)|(apply yad;(·rfl);(·exact yaz 0 rfl);(·rfl)))|(apply yae;(·rfl);(·(first|exact yay 1 rfl rfl)))|exact tq_));(·rfl);(·rfl);(·rfl);(·(first|exact ybf|(refine .inl ?_;(first|exact hd_two tmm_ tmm_|exact hd_two' hle tmm_ tmm_))|exact to_))))|refine ycg ?_))
      rename_i b15
      refine rx_call_l (ycp Tryz.func25 rfl (by kernel_rfl) rfl) (pick3 7 7 7 rfl rfl rfl) E1 rfl rfl rfl ?_ ?_ ?_
      · (first|exact ybf|(refine .inl ?_;(first|exact hd_two tmm_ tmm_|exact hd_two' hle tmm_ tmm_))|exact to_)
      · intro _ _ hle;(first|exact ybf|(refine .inl ?_;(first|exact hd_two tmm_ tmm_|exact hd_two' hle tmm_ tmm_))|exact to_)
      rintro ⟨h2, pv, sv, tv⟩ htv hle
      dsimp only at htv hle ⊢
      refine rx_persistA (by intro z hz;simp [doms, Res.mp, Res.blk] at hz;simp [doms, Res.mp, Res.blk, Res.row];rcases hz with rfl | rfl | rfl | rfl | rfl<;>simp) fun h3 hle3 hpv => ?_
      refine rx_persistA (by intro z hz;simp [doms, Res.mp, Res.blk] at hz;simp [doms, Res.mp, Res.blk, Res.row];rcases hz with rfl | rfl | rfl | rfl | rfl<;>simp) fun h4 hle4 hsv => ?_
      have hpv : Bs8 h4 pv q.past := Sc.mono hpv hle4
      have hsv : Bs8 h4 sv se := hsv
      have hle : Le h1 h4 := Le.trans (Le.trans hle hle3) hle4
      have htv : Bs8 h4 tv (padW (inF del val)) := (htv.mono hle3).mono hle4
      obtain ⟨_, adp, capp, rfl, _, _⟩ := (show Bs8 _ _ _ from hpv)
      obtain ⟨_, ads, caps, rfl, _, _⟩ := (show Bs8 _ _ _ from hsv)
      repeat' (refine ycf ?_;(first|(first|(apply ybm;(·(first|(first|exact tk_|(apply qv_nilCheck;rfl)|(apply yad;(·rfl);(·exact yaz 0 rfl);(·rfl)))|(apply yae;(·rfl);(·(first|exact yay 1 rfl rfl)))|exact tq_));(·rfl);(·rfl);(·(first|exact hd_two tmm_ tmm_|exact hd_two' hle tmm_ tmm_)))|refine ybl rfl rfl ?_|((fail_if_success (refine ybi rfl ?_));refine ybj rfl ?_ ?_<;>(intro ht;rw [ht];first|replace ht := oet_ ht|replace ht := oef_ ht|skip))|(refine tb_ ?_ ?_ ?_;(·(first|exact ybf|(refine .inl ?_;(first|exact hd_two tmm_ tmm_|exact hd_two' hle tmm_ tmm_))|exact to_));(·intro _;(first|exact ybf|(refine .inl ?_;(first|exact hd_two tmm_ tmm_|exact hd_two' hle tmm_ tmm_))|exact to_));intro _)|(first|(refine ybg 3 rfl rfl rfl (by show (envc bk q _ _).toArray.size = 38;simpa using envc_len hbk) (by show 0 + (envc bk q _ _).toArray.size ≤ _;rw [List.size_toArray, envc_len hbk];exact nble rfl) (List.all_eq_true.2 (envc_one rfl rfl)) (ybh (by show (envc bk q _ _).length = _;rw [envc_len hbk];rfl)) rfl rfl ?_ ?_ ?_;(·(first|exact ybf|(refine .inl ?_;(first|exact hd_two tmm_ tmm_|exact hd_two' hle tmm_ tmm_))|exact to_));(·(first|exact ybf|(refine .inl ?_;(first|exact hd_two tmm_ tmm_|exact hd_two' hle tmm_ tmm_))|exact to_)))|(refine tqs_ ?_ ?_ ?_;(·(first|exact ybf|(refine .inl ?_;(first|exact hd_two tmm_ tmm_|exact hd_two' hle tmm_ tmm_))|exact to_));(·(first|exact ybf|(refine .inl ?_;(first|exact hd_two tmm_ tmm_|exact hd_two' hle tmm_ tmm_))|exact to_))))|(apply ybn;(·(first|(first|exact tk_|(apply qv_nilCheck;rfl)|(apply yad;(·rfl);(·exact yaz 0 rfl);(·rfl)))|(apply yae;(·rfl);(·(first|exact yay 1 rfl rfl)))|exact tq_));(·rfl);(·rfl);(·rfl);(·(first|exact ybf|(refine .inl ?_;(first|exact hd_two tmm_ tmm_|exact hd_two' hle tmm_ tmm_))|exact to_))))|refine ycg ?_))
      refine nx_cut ⟨h4, .slice adp q.past.length capp, .slice ads se.length caps, tv, b15⟩ ⟨hle, hpv, hsv, htv⟩ ts_ (fun w' s' => ?_)
      exact s'.picks [3, 4, 4, 6, 5, 4, 3, 0, 0, 0]
  rintro ⟨h2, pv, sv, tv, b15⟩ ⟨hle2, hpv, hsv, htv⟩
  dsimp only at hle2 hpv hsv htv ⊢
  have hil := inF_len hvl
  have hpl : (padW (inF del val)).length ≤ 4096 := by
    have := sizeF_bd (n := ((inF del val).length : Nat)) (by omega) (by omega)
    rw [padW_len (by omega)]
    omega
  have hsn2 := (hsn.mono hle1).mono hle2
  have hs2 := (hs.mono hle1).mono hle2
  refine yby ?_
  repeat' (first|(refine ycf ?_;apply ybk;(·first|(first|exact tk_|(apply qv_nilCheck;rfl)|(apply yad;(·rfl);(·exact yaz 0 rfl);(·exact envc_len hbk)))|(apply yae;(·rfl);(·(first|exact yay 1 rfl rfl))));(·rfl);(·rfl))|refine t1_ ?_|(refine ta_ ?_;intro _)|((fail_if_success (refine ybi rfl ?_));refine ybj rfl ?_ ?_<;>(intro ht;rw [ht];first|replace ht := oet_ ht|replace ht := oef_ ht|skip))|(refine ych ?_;first|(refine ybw rfl ?_ ?_<;>intro ht)|(refine ybx rfl ?_ ?_<;>intro ht)))
  (refine yco (ycp Tryz.func26 rfl (by kernel_rfl) rfl) (EWrite_sp bk q _ _ se hbk hq ⟨by omega, by omega⟩ h2 hpv hsv) rfl rfl rfl ?_ ?_ ?_; (· (exact to_)); (· intro _ _ hle; (exact to_)); intro x px hle)
  obtain ⟨vb, rfl⟩ : ∃ y, y = x := ⟨x, rfl⟩
  clear hle px
  refine rx_persistA (by intro z hz;simp [doms, Res.mp, Res.blk] at hz;simp [doms, Res.mp, Res.blk, Res.row];rcases hz with rfl | rfl | rfl | rfl | rfl<;>simp) fun h3 hle3 hbo => ?_
  have hbo : Bs8 h3 vb (encE bk q se) := hbo
  have hsn3 := hsn2.mono hle3
  repeat' (first|(refine ycf ?_;apply ybk;(·first|(first|exact tk_|(apply qv_nilCheck;rfl)|(apply yad;(·rfl);(·exact yaz 0 rfl);(·exact envc_len hbk)))|(apply yae;(·rfl);(·(first|exact yay 1 rfl rfl))));(·rfl);(·rfl))|refine t1_ ?_|(refine ta_ ?_;intro _)|((fail_if_success (refine ybi rfl ?_));refine ybj rfl ?_ ?_<;>(intro ht;rw [ht];first|replace ht := oet_ ht|replace ht := oef_ ht|skip))|(refine ych ?_;first|(refine ybw rfl ?_ ?_<;>intro ht)|(refine ybx rfl ?_ ?_<;>intro ht)))
  refine cx_region_draw' rfl (by kernel_rfl) ?_
  repeat' (refine ycf ?_;(first|(first|(apply ybm;(·(first|(first|exact tk_|(apply qv_nilCheck;rfl)|(refine qv_str_bs rfl hsn3)|(refine qv_lookup 2 string_kl rfl rfl rfl hK))|(apply yae;(·rfl);(·(first|exact yay 1 rfl rfl)))|exact tq_));(·rfl);(·rfl);(·(first|exact fun _ s => s)))|refine ybl rfl rfl ?_|((fail_if_success (refine ybi rfl ?_));refine ybj rfl ?_ ?_<;>(intro ht;rw [ht];first|replace ht := oet_ ht|replace ht := oef_ ht|skip))|(refine tb_ ?_ ?_ ?_;(·(first|exact ybf|(refine .inl ?_;(first|exact fun _ s => s))|exact to_));(·intro _;(first|exact ybf|(refine .inl ?_;(first|exact fun _ s => s))|exact to_));intro _)|(first|(refine tqs_ ?_ ?_ ?_;(·(first|exact ybf|(refine .inl ?_;(first|exact fun _ s => s))|exact to_));(·(first|exact ybf|(refine .inl ?_;(first|exact fun _ s => s))|exact to_))))|(apply ybn;(·(first|(first|exact tk_|(apply qv_nilCheck;rfl)|(refine qv_str_bs rfl hsn3)|(refine qv_lookup 2 string_kl rfl rfl rfl hK))|(apply yae;(·rfl);(·(first|exact yay 1 rfl rfl)))|exact tq_));(·rfl);(·rfl);(·rfl);(·(first|exact ybf|(refine .inl ?_;(first|exact fun _ s => s))|exact to_))))|refine ycg ?_))
  refine rx_mapUpdate 2 string_kl rfl rfl rfl rfl rfl rfl ?_ ?_ ?_
  · (first|exact ybf|(refine .inl ?_;(first|exact fun _ s => s))|exact to_)
  · (first|exact ybf|(refine .inl ?_;(first|exact fun _ s => s))|exact to_)
  repeat' (refine ycf ?_;(first|(first|(apply ybm;(·(first|(first|exact tk_|(apply qv_nilCheck;rfl)|(refine qv_str_bs rfl hsn3)|(refine qv_lookup 2 string_kl rfl rfl rfl hK))|(apply yae;(·rfl);(·(first|exact yay 1 rfl rfl)))|exact tq_));(·rfl);(·rfl);(·(exact th_)))|refine ybl rfl rfl ?_|((fail_if_success (refine ybi rfl ?_));refine ybj rfl ?_ ?_<;>(intro ht;rw [ht];first|replace ht := oet_ ht|replace ht := oef_ ht|skip))|(refine tb_ ?_ ?_ ?_;(·(exact to_));(·intro _;(exact to_));intro _)|(first|(refine tqs_ ?_ ?_ ?_;(·(exact to_));(·(exact to_))))|(apply ybn;(·(first|(first|exact tk_|(apply qv_nilCheck;rfl)|(refine qv_str_bs rfl hsn3)|(refine qv_lookup 2 string_kl rfl rfl rfl hK))|(apply yae;(·rfl);(·(first|exact yay 1 rfl rfl)))|exact tq_));(·rfl);(·rfl);(·rfl);(·(exact to_))))|refine ycg ?_))
  repeat' (first|(refine ycf ?_;apply ybk;(·first|(exact tk_)|(apply yae;(·rfl);(·(exact (yaz 3 rfl).cell (cxc_more hu)))));(·rfl);(·rfl))|refine t1_ ?_|(refine ta_ ?_;intro _)|((fail_if_success (refine ybi rfl ?_));refine ybj rfl ?_ ?_<;>(intro ht;rw [ht];first|replace ht := oet_ ht|replace ht := oef_ ht|skip))|(refine ych ?_;first|(refine ybw rfl ?_ ?_<;>intro ht)|(refine ybx rfl ?_ ?_<;>intro ht)))
  have hs3 := hs2.mono hle3
  (refine yco (ycp Tryz.func27 rfl (by kernel_rfl) rfl) (clone_sp _ l h3 hs3 (by omega)) rfl rfl rfl ?_ ?_ ?_; (· (exact to_)); (· intro _ _ hle; (exact to_)); intro x px hle)
  obtain ⟨vm, rfl⟩ : ∃ y, y = x := ⟨x, rfl⟩
  clear hle px
  refine rx_persistA (by intro z hz;simp [doms, Res.mp, Res.blk] at hz;simp [doms, Res.mp, Res.blk, Res.row];rcases hz with rfl | rfl | rfl | rfl | rfl<;>simp) fun h4 hle4 hsm => ?_
  have hsm : Ds h4 vm l := hsm
  obtain ⟨_, adm, capm, rfl, _, _⟩ := (show Ds h4 vm l from hsm)
  obtain ⟨_, adb, capb, rfl, _, _⟩ := (show Bs8 _ _ _ from hbo)
  repeat' (first|(refine ycf ?_;apply ybk;(·first|(exact tk_));(·rfl);(·rfl))|(refine ybg 3 rfl rfl rfl rfl (by show 0 + 16 + 1 ≤ (cxc u _).toArray.size;rw [List.size_toArray, ycj hu];omega) rfl (spl_more hu) rfl rfl ?_ ?_ ?_;(·(exact to_));(·(exact to_)))|refine t1_ ?_|(refine ta_ ?_;intro _)|((fail_if_success (refine ybi rfl ?_));refine ybj rfl ?_ ?_<;>(intro ht;rw [ht];first|replace ht := oet_ ht|replace ht := oef_ ht|skip))|(refine ych ?_;first|(refine ybw rfl ?_ ?_<;>intro ht)|(refine ybx rfl ?_ ?_<;>intro ht)))
  obtain ⟨adp, capp, rfl⟩ : ∃ a c, pv = .slice a q.past.length c := by obtain ⟨_, a, c, e, _⟩ := hpv; exact ⟨a, c, e⟩
  obtain ⟨ads, caps, rfl⟩ : ∃ a c, sv = .slice a se.length c := by obtain ⟨_, a, c, e, _⟩ := hsv; exact ⟨a, c, e⟩
  obtain ⟨x, ex⟩ : ∃ x : Sb, x = ⟨(q.cl, q.nu), u, hu, l, .slice adm l.length capm, encE bk q se, .slice adb (encE bk q se).length capb⟩ := ⟨_, rfl⟩
  have hsx : sbc x = dcs (q.cl, q.nu) ++ (cxc u (.slice adm l.length capm) ++ [.slice adb (encE bk q se).length capb]) := by rw [ex]; rfl
  have hone : (Value.agg (sbc x).toArray).cells.toList.all Value.oneCell' = true := sbc_one (by rw [ex]; rfl) (by rw [ex]; rfl)
  have hxl := sbc_len x
  have hol : (bcs bk).length = 32 := by rw [bcs_len, hbk]
  refine cx_perm (L' := [Res.blk b15 (.cells (envc bk q (.slice adp q.past.length capp) (.slice ads se.length caps)).toArray 90 (0, 0)), clR b id bv ep (ct + 1) bm, cmR bm (mput K (bstr nm) (.int .i64 (n + 1))), Res.blk b9 (.cells (cxc u (.slice adm l.length capm)).toArray 42 (0, 0)), Res.blk b10 (.cells (bcs (List.replicate 32 0)).toArray 43 (0, 0)), Res.blk b11 (.cells (sbc zSb).toArray 47 (0, 0)), Res.blk b13 (.cells (hdc q vp).toArray 86 (0, 0)), nmR bn (addX idl N nm), usR bu (U ++ [(q.cl, q.ct)]), tbR bt (tabX idl T ((q.cl, q.ct, q.ep, bstr (boundF bk q), bstr se), tv, padW (inF del val)))]) (.refl _) ?_
  refine cx_region_drawW [Res.blk b15 (.cells (envc bk q (.slice adp q.past.length capp) (.slice ads se.length caps)).toArray 90 (0, 0)), Res.blk b13 (.cells (hdc q vp).toArray 86 (0, 0)), Res.blk b9 (.cells (cxc u (.slice adm l.length capm)).toArray 42 (0, 0))] [7, 8] rfl (by kernel_rfl) ?_
  repeat' (refine ycf ?_;(first|(first|(apply ybm;(·(first|(first|exact tk_|(apply yad;(·rfl);(·exact env_key (yaz 0 rfl));(·exact hol))|(apply yad (vs := [.int .i64 q.cl, .int .i64 q.nu]);(·rfl);(·exact Cells.take (Cells.drop (vs := hdc q vp) (yaz 1 rfl) 2) 2);(·rfl))|(apply yad;(·rfl);(·exact yaz 2 rfl);(·exact ycj hu))|(apply yax (cs := sbc x);(·rfl);(·rw [hsx];exact fill3c (d := (q.cl, q.nu)) (mv := .slice adm l.length capm) (bv := .slice adb (encE bk q se).length capb) hu rfl)))|exact tq_));(·rfl);(·rfl);(·(exact hd_three (Le.refl _) tmm_ tmm_ tmm_)))|refine ybl rfl rfl ?_|((fail_if_success (refine ybi rfl ?_));refine ybj rfl ?_ ?_<;>(intro ht;rw [ht];first|replace ht := oet_ ht|replace ht := oef_ ht|skip))|(refine tb_ ?_ ?_ ?_;(·(first|exact ybf|(refine .inl ?_;(exact hd_three (Le.refl _) tmm_ tmm_ tmm_))|exact to_));(·intro _;(first|exact ybf|(refine .inl ?_;(exact hd_three (Le.refl _) tmm_ tmm_ tmm_))|exact to_));intro _)|(first|(first|(refine ybg 4 rfl rfl rfl (by show (bcs bk).toArray.size = 32;simpa using hol) (by show 0 + (bcs bk).toArray.size ≤ _;rw [List.size_toArray, hol];exact nble rfl) (List.all_eq_true.2 (bcs_one bk)) (ybh (by show (bcs bk).length = _;rw [hol];rfl)) rfl rfl ?_ ?_ ?_;(·(first|exact ybf|(refine .inl ?_;(exact hd_three (Le.refl _) tmm_ tmm_ tmm_))|exact to_));(·(first|exact ybf|(refine .inl ?_;(exact hd_three (Le.refl _) tmm_ tmm_ tmm_))|exact to_)))|(refine ybg 5 rfl rfl rfl (sbc_sz x) (sbc_fit rfl) hone (ybh (sbc_all rfl)) rfl rfl ?_ ?_ ?_;(·(first|exact ybf|(refine .inl ?_;(exact hd_three (Le.refl _) tmm_ tmm_ tmm_))|exact to_));(·(first|exact ybf|(refine .inl ?_;(exact hd_three (Le.refl _) tmm_ tmm_ tmm_))|exact to_))))|(refine tqs_ ?_ ?_ ?_;(·(first|exact ybf|(refine .inl ?_;(exact hd_three (Le.refl _) tmm_ tmm_ tmm_))|exact to_));(·(first|exact ybf|(refine .inl ?_;(exact hd_three (Le.refl _) tmm_ tmm_ tmm_))|exact to_))))|(apply ybn;(·(first|(first|exact tk_|(apply yad;(·rfl);(·exact env_key (yaz 0 rfl));(·exact hol))|(apply yad (vs := [.int .i64 q.cl, .int .i64 q.nu]);(·rfl);(·exact Cells.take (Cells.drop (vs := hdc q vp) (yaz 1 rfl) 2) 2);(·rfl))|(apply yad;(·rfl);(·exact yaz 2 rfl);(·exact ycj hu))|(apply yax (cs := sbc x);(·rfl);(·rw [hsx];exact fill3c (d := (q.cl, q.nu)) (mv := .slice adm l.length capm) (bv := .slice adb (encE bk q se).length capb) hu rfl)))|exact tq_));(·rfl);(·rfl);(·rfl);(·(first|exact ybf|(refine .inl ?_;(exact hd_three (Le.refl _) tmm_ tmm_ tmm_))|exact to_))))|refine ycg ?_))
  repeat' (first|(refine ycf ?_;apply ybk;(·first|(first|exact tk_|(apply yad;(·rfl);(·exact env_key (yaz 0 rfl));(·exact hol))|(apply yad (vs := [.int .i64 q.cl, .int .i64 q.nu]);(·rfl);(·exact Cells.take (Cells.drop (vs := hdc q vp) (yaz 1 rfl) 2) 2);(·rfl))|(apply yad;(·rfl);(·exact yaz 2 rfl);(·exact ycj hu))|(apply yax (cs := sbc x);(·rfl);(·rw [hsx];exact fill3c (d := (q.cl, q.nu)) (mv := .slice adm l.length capm) (bv := .slice adb (encE bk q se).length capb) hu rfl))));(·rfl);(·rfl))|refine t1_ ?_|(refine ta_ ?_;intro _)|((fail_if_success (refine ybi rfl ?_));refine ybj rfl ?_ ?_<;>(intro ht;rw [ht];first|replace ht := oet_ ht|replace ht := oef_ ht|skip))|(refine ych ?_;first|(refine ybw rfl ?_ ?_<;>intro ht)|(refine ybx rfl ?_ ?_<;>intro ht)))
  refine nx_ret3 rfl (rv_cells rfl (yaz 4 rfl) hol) (rv_cells rfl (yaz 5 rfl) hxl) (rv_tmp rfl) (fun w' s' => ⟨(h4, x, tv, se), rfl, ?_, htv.mono (Le.trans hle3 hle4), ⟨?_, ?_, ?_⟩, rfl, ?_⟩)
  · have e := s'.picks [1, 1, 5, 5, 5]
    rw [q1, q2, q3] at e
    exact e
  · rw [ex]; exact hsm
  · rw [ex]; exact hbo.mono hle4
  · rw [ex]; exact encE_byC hbky (by rw [q4]; exact hpb) hsy
  · rw [ex, eq]; rfl
end Go.Proofs.YtaofgcahmfailaaGreatDoor
end

section
namespace Go.Proofs.YtaofgcahmfailaaGreatDoor
open Go Go.Ck
set_option maxHeartbeats 1000000
theorem bstr_listC (l : List Int) : (bstr l).toList = l.map fun n => UInt8.ofNat n.toNat := by
  rw [ByteArray.toList_eq]
  simp [bstr]
theorem bstr_eqC {a b : List Int} (ha : Bytes a) (hb : Bytes b) : ((bstr a).toList == (bstr b).toList) = decide (a = b) := by
  rw [bstr_listC, bstr_listC]
  rw [Bool.eq_iff_iff, decide_eq_true_iff, beq_iff_eq]
  refine ⟨fun h => ?_, fun h => by rw [h]⟩
  have h1 := congrArg (List.map fun x : UInt8 => (x.toNat : Int)) h
  have h2 : ∀ l : List Int, Bytes l → List.map (fun x : UInt8 => (x.toNat : Int)) (l.map fun n => UInt8.ofNat n.toNat) = l := fun l hl => by
    rw [List.map_map]
    have : l.map ((fun x : UInt8 => (x.toNat : Int)) ∘ fun n : Int => UInt8.ofNat n.toNat) = l.map id := List.map_congr_left fun x hx => by
      have := hl x hx
      simp
      omega
    rw [this, List.map_id]
  rwa [h2 a ha, h2 b hb] at h1
theorem bEqual_sp (va vb : Value) (a b : List Int) (h : View) (ha : Bs8 h va a) (hb : Bs8 h vb b) (ya : Bytes a) (yb : Bytes b) (w : World) (s : St ⟨w, h, []⟩ h [] w) :
    Calls Tryz.prog 45 [va, vb].toArray w fun e w' => e = .returned (.bool (decide (a = b))) ∧ St ⟨w, h, []⟩ h [] w' := by
  have he := bstr_eqC ya yb
  refine calls_enter Tryz.func45 rfl Tryz.ntmps45 rfl s ?_
  repeat' (first|(refine ycf ?_;apply ybk;(·first|(first|exact qv_str_bs rfl ha|exact qv_str_bs rfl hb|exact qv_eql_str rfl rfl he));(·rfl);(·rfl))|refine t1_ ?_|(refine ta_ ?_;intro _)|((fail_if_success (refine ybi rfl ?_));refine ybj rfl ?_ ?_<;>(intro ht;rw [ht];first|replace ht := oet_ ht|replace ht := oef_ ht|skip))|(refine ych ?_;first|(refine ybw rfl ?_ ?_<;>intro ht)|(refine ybx rfl ?_ ?_<;>intro ht)))
  exact nx_ret1 rfl (rv_tmp rfl) (fun w' s' => ⟨rfl, s'.nil⟩)
theorem rd_bytes {l : List Int} (hb : Bytes l) (hl : l.length ≤ 140737488355328) (h : rdOk l) : Bytes (rdQ l).past ∧ Bytes (rdZ l).1 ∧ Bytes (rdK l).1 := by
  have e := (rd13_took hb hl h.1).2
  refine ⟨fun y hy => hb y ?_, fun y hy => hb y ?_, fun y hy => hb y ?_⟩<;>(rw [← e];unfold encE boundF;simp [hy])
def aeadO (key nonce wth se : List Int) : Option (List Int) := if aeadT key nonce wth (se.take (se.length - 16)) = se.drop (se.length - 16) then some (streamF key 1 nonce (se.take (se.length - 16))) else none
def openR (key nm ek : List Int) (q : Hdr) (se : List Int) : List Int × Bool × Int :=
  if blindR key nm = ek then match aeadO (sealK key q.ep) (nonceF q.cl q.ct) (boundF ek q) se with
    | some p => valF p
    | none => ([], false, 6)
  else ([], false, 6)
def openX (idl : Bool) (key : List Int) (N : List (List Int)) (T : Tab) (nm ek : List Int) (q : Hdr) (se : List Int) : List Int × Bool × Int := if idl then openF key N T nm ek q se else openR key nm ek q se
def OpenC (idl : Bool) : Prop := ∀ (bv : Nat) (key : List Int) (bn bu bt : Nat) (N : List (List Int)) (T : Tab) (nm ek se : List Int) (vn pv sv : Value) (q : Hdr) (hk : Bytes key) (hk32 : key.length = 32) (he32 : ek.length = 32)
    (hN : Names N) (hNl : N.length < 900000) (hTl : ∀ x ∈ T, x.2.2.length ≤ 900000 ∧ Bytes x.2.2) (hnm : Bytes nm) (hnl : 1 ≤ nm.length ∧ nm.length ≤ 64) (hok : q.ok) (hsl : 16 ≤ se.length ∧ se.length ≤ 8192)
    (h : View) (hT : TbOk h T) (hv : Vb h bv idl key bn bu bt) (hsn : Bs8 h vn nm) (hsp : Bs8 h pv q.past) (hss : Bs8 h sv se) (ye : Bytes ek) (yp : Bytes q.past) (ys : Bytes se) (hg : idl = false → ShG h) (w : World) (s : St ⟨w, h, doms [nmR bn N, tbR bt T]⟩ h [nmR bn N, tbR bt T] w),
    Calls Tryz.prog 46 [.pointer (some ⟨bv, 0, none⟩), vn, .agg (envc ek q pv sv).toArray].toArray w fun e w' => ∃ y : View × Value, e = .returned (.tuple #[y.2, .bool (openX idl key N T nm ek q se).2.1, .int .i64 (openX idl key N T nm ek q se).2.2]) ∧
      St ⟨w, h, doms [nmR bn N, tbR bt T]⟩ y.1 [nmR bn (addX idl N nm), tbR bt T] w' ∧ Bs8 y.1 y.2 (openX idl key N T nm ek q se).1
theorem openC_true : OpenC true := fun bv key bn bu bt N T nm ek se vn pv sv q hk hk32 he32 hN hNl hTl hnm hnl hok hsl h hT hv hsn hsp hss ye yp ys hg w s =>
  EOpen_sp bv key bn bu bt N T nm ek se vn pv sv q hk hk32 he32 hN hNl hTl hnm hnl hok hsl h hT hv hsn hsp hss w s
structure Vl where
  d : Dt
  ep : Int
  u : List Int
  hu : u.length = 16
  l : List Dt
  mv : Value
  gone : Bool
  b : List Int
  bv : Value
def vlc (v : Vl) : List Value := dcs v.d ++ (.int .i64 v.ep :: (cxc v.u v.mv ++ [.bool v.gone, v.bv]))
theorem vlc_len (v : Vl) : (vlc v).length = 22 := by
  have := ycj (mv := v.mv) v.hu
  simp [vlc, dcs_len, this]
structure Vv (h : View) (v : Vl) : Prop where
  ds : Ds h v.mv v.l
  bs : Bs8 h v.bv v.b
def zVl : Vl := ⟨(0, 0), 0, zeroU, rfl, [], .slice none 0 0, false, [], .slice none 0 0⟩
def copF (idl : Bool) (key : List Int) (N : List (List Int)) (T : Tab) (nm : List Int) (a : Ab) : Int × Int × Bool × List Int :=
  if rdOk a.2.2.2 then
    if checkC a.2.1 a.2.2.1 = 0 ∧ ((rdQ a.2.2.2).cl, (rdQ a.2.2.2).nu) = a.1 ∧ encW a.2.1 a.2.2.1 = (rdQ a.2.2.2).past then
      (if (openX idl key N T nm (rdK a.2.2.2).1 (rdQ a.2.2.2) (rdZ a.2.2.2).1).2.2 = 0 then (0, (rdQ a.2.2.2).ep, (openX idl key N T nm (rdK a.2.2.2).1 (rdQ a.2.2.2) (rdZ a.2.2.2).1).2.1, (openX idl key N T nm (rdK a.2.2.2).1 (rdQ a.2.2.2) (rdZ a.2.2.2).1).1)
      else ((openX idl key N T nm (rdK a.2.2.2).1 (rdQ a.2.2.2) (rdZ a.2.2.2).1).2.2, 0, false, []))
    else (6, 0, false, [])
  else (2, 0, false, [])
def copN (idl : Bool) (N : List (List Int)) (nm : List Int) (a : Ab) : List (List Int) :=
  if rdOk a.2.2.2 ∧ checkC a.2.1 a.2.2.1 = 0 ∧ ((rdQ a.2.2.2).cl, (rdQ a.2.2.2).nu) = a.1 ∧ encW a.2.1 a.2.2.1 = (rdQ a.2.2.2).past then addX idl N nm else N
theorem spl_sbm (g : Sb) {v : Value} (hv : v.cells.toList = [v] := by rfl) : spl (sbc g).toArray.toList (0 + 2 + 16) v.cells.toList = sbc ⟨g.d, g.u, g.hu, g.l, v, g.b, g.bv⟩ := by
  rw [hv]
  obtain ⟨a0, a1, a2, a3, a4, a5, a6, a7, a8, a9, a10, a11, a12, a13, a14, a15, hu⟩ := list16 g.u g.hu
  show spl (dcs g.d ++ (cxc g.u g.mv ++ [g.bv])) 18 [v] = dcs g.d ++ (cxc g.u v ++ [g.bv])
  rw [hu]
  rfl
theorem fill_vl {d : Dt} {ep : Int} {u : List Int} {mv : Value} {t : Bool} {a : Option Addr} {m c : Nat} (hu : u.length = 16) : fillL (fun i : Nat => ([(0, 2), (2, 1), (3, 17), (20, 1), (21, 1)] : List (Nat × Nat))[i]?) ([.int .i64 0, .int .i64 0, .int .i64 0] ++ (up zeroU ++ [.slice none 0 0, .bool false, .slice none 0 0])) [(0, .agg (dcs d).toArray), (1, .int .i64 ep), (2, .agg (cxc u mv).toArray), (3, .bool t), (4, .slice a m c)] = some (dcs d ++ (.int .i64 ep :: (cxc u mv ++ [.bool t, .slice a m c]))) := by
  obtain ⟨a0, a1, a2, a3, a4, a5, a6, a7, a8, a9, a10, a11, a12, a13, a14, a15, rfl⟩ := list16 u hu
  unfold fillL fillL fillL fillL fillL fillL
  rfl
theorem copen_sp (idl : Bool) (hO : OpenC idl) (b : Nat) (id : Int) (bv : Nat) (ep ct : Int) (bm : Nat) (key : List Int) (bn bu bt : Nat) (N : List (List Int)) (T : Tab) (nm : List Int) (g : Sb) (vn : Value) (hk : Bytes key) (hk32 : key.length = 32)
    (hN : Names N) (hNl : N.length < 900000) (hTl : ∀ x ∈ T, x.2.2.length ≤ 900000 ∧ Bytes x.2.2) (hnm : Bytes nm) (hnl : 1 ≤ nm.length ∧ nm.length ≤ 64) (hxb : g.b.length ≤ 140737488355328) (hxl : g.l.length ≤ 4611686018427387904)
    (h : View) (hT : TbOk h T) (hv : Vb h bv idl key bn bu bt) (hsn : Bs8 h vn nm) (hx : Sv h g) (hg : idl = false → ShG h) (w : World) (s : St ⟨w, h, doms [clR b id bv ep ct bm, nmR bn N, tbR bt T]⟩ h [clR b id bv ep ct bm, nmR bn N, tbR bt T] w) :
    Calls Tryz.prog 29 [.pointer (some ⟨b, 0, none⟩), vn, sbv g].toArray w fun e w' => ∃ y : View × Vl, e = .returned (.tuple #[.agg (vlc y.2).toArray, .int .i64 (copF idl key N T nm g.a).1]) ∧
      St ⟨w, h, doms [clR b id bv ep ct bm, nmR bn N, tbR bt T]⟩ y.1 [clR b id bv ep ct bm, nmR bn (copN idl N nm g.a), tbR bt T] w' ∧
      (Vv y.1 y.2 ∧ ((copF idl key N T nm g.a).1 = 0 → y.2.d = g.d ∧ y.2.u = g.u ∧ y.2.l = g.l ∧ (y.2.ep, y.2.gone, y.2.b) = (copF idl key N T nm g.a).2)) := by
  have R1 := ERead_sp g.bv g.b hx.by8 hxb h hx.bs
  have hxlen := sbc_len g
  have hone := hx.one
  obtain ⟨_, adx, capx, hbx, _, _⟩ := (show Bs8 _ _ _ from hx.bs)
  rw [hbx] at R1
  have zst : (vlc zVl).toArray.size = 22 := rfl
  refine calls_enter Tryz.func29 rfl Tryz.ntmps29 rfl s ?_
  repeat' (first|(refine ycf ?_;apply ybk;(·first|(first|exact qv_str_bs rfl ha|exact qv_str_bs rfl hb|exact qv_eql_str rfl rfl he)|(apply yae;(·rfl);(·(exact sb_body' (yaz 1 rfl) hbx))));(·rfl);(·rfl))|refine t1_ ?_|(refine ta_ ?_;intro _)|((fail_if_success (refine ybi rfl ?_));refine ybj rfl ?_ ?_<;>(intro ht;rw [ht];first|replace ht := oet_ ht|replace ht := oef_ ht|skip))|(refine ych ?_;first|(refine ybw rfl ?_ ?_<;>intro ht)|(refine ybx rfl ?_ ?_<;>intro ht)))
  rename_i b5 b6
  refine rx_perm (L' := [Res.blk b6 (.cells (vlc zVl).toArray 71 (0, 0)), Res.blk b5 (.cells (sbc g).toArray 47 (0, 0)), clR b id bv ep ct bm, nmR bn N, tbR bt T]) (.refl _) ?_
  (refine yco (ycp Tryz.func44 rfl (by kernel_rfl) rfl) R1 rfl rfl rfl ?_ ?_ ?_; (· (exact to_)); (· intro _ _ hle; (exact to_)); intro y px hle)
  obtain ⟨h1, pv, sv⟩ := y
  dsimp only at px hle ⊢
  have hle1 : Le h h1 := hle
  clear hle
  by_cases hrd : rdOk g.b
  · have hek : (rdK g.b).1.length = 32 := rdOk_key hx.by8 (by omega) hrd
    obtain ⟨hqo, hsl1, hsl2⟩ : (rdQ g.b).ok ∧ 16 ≤ (rdZ g.b).1.length ∧ (rdZ g.b).1.length ≤ 8192 := hrd.2
    obtain ⟨hpv, hsv⟩ := px hrd
    have hcop : copF idl key N T nm g.a = if checkC g.u g.l = 0 ∧ ((rdQ g.b).cl, (rdQ g.b).nu) = g.d ∧ encW g.u g.l = (rdQ g.b).past then
        (if (openX idl key N T nm (rdK g.b).1 (rdQ g.b) (rdZ g.b).1).2.2 = 0 then (0, (rdQ g.b).ep, (openX idl key N T nm (rdK g.b).1 (rdQ g.b) (rdZ g.b).1).2.1, (openX idl key N T nm (rdK g.b).1 (rdQ g.b) (rdZ g.b).1).1)
        else ((openX idl key N T nm (rdK g.b).1 (rdQ g.b) (rdZ g.b).1).2.2, 0, false, [])) else (6, 0, false, []) := if_pos hrd
    have hcon : copN idl N nm g.a = if checkC g.u g.l = 0 ∧ ((rdQ g.b).cl, (rdQ g.b).nu) = g.d ∧ encW g.u g.l = (rdQ g.b).past then addX idl N nm else N := by
      by_cases hh : checkC g.u g.l = 0 ∧ ((rdQ g.b).cl, (rdQ g.b).nu) = g.d ∧ encW g.u g.l = (rdQ g.b).past
      · rw [if_pos hh]; exact if_pos ⟨hrd, hh⟩
      · rw [if_neg hh]; exact if_neg fun h => hh h.2
    have hyp : Bytes (rdQ g.b).past ∧ Bytes (rdZ g.b).1 ∧ Bytes (rdK g.b).1 := rd_bytes hx.by8 (by omega) hrd
    have W1 := Write_sp (cxv g.u g.mv) g.u g.l h1 ⟨g.hu, _, rfl, hx.ds.mono hle1⟩ hxl
    rw [if_pos hrd, if_pos hrd]
    obtain ⟨adp, capp, rfl⟩ : ∃ a c, pv = .slice a (rdQ g.b).past.length c := by obtain ⟨_, a, c, e, _⟩ := hpv; exact ⟨a, c, e⟩
    obtain ⟨ads, caps, rfl⟩ : ∃ a c, sv = .slice a (rdZ g.b).1.length c := by obtain ⟨_, a, c, e, _⟩ := hsv; exact ⟨a, c, e⟩
    clear px
    generalize rdQ g.b = q at *
    generalize (rdK g.b).1 = ek at *
    generalize (rdZ g.b).1 = se at *
    repeat' (first|(refine ycf ?_;apply ybk;(·first|(first|exact tk_|(apply yad;(·rfl);(·exact sb_past (yaz 2 rfl));(·exact ycj g.hu))));(·rfl);(·rfl))|(refine ybg 0 rfl rfl rfl (by show (envc ek q _ _).toArray.size = 38;simpa using envc_len hek) (by show 0 + (envc ek q _ _).toArray.size ≤ _;rw [List.size_toArray, envc_len hek];exact nble rfl) (List.all_eq_true.2 (envc_one rfl rfl)) (ybh (by show (envc ek q _ _).length = _;rw [envc_len hek];rfl)) rfl rfl ?_ ?_ ?_;(·(exact to_));(·(exact to_)))|refine t1_ ?_|(refine ta_ ?_;intro _)|((fail_if_success (refine ybi rfl ?_));refine ybj rfl ?_ ?_<;>(intro ht;rw [ht];first|replace ht := oet_ ht|replace ht := oef_ ht|skip))|(refine ych ?_;first|(refine ybw rfl ?_ ?_<;>intro ht)|(refine ybx rfl ?_ ?_<;>intro ht)))
    rename_i b8
    refine rx_perm (L' := [Res.blk b8 (.cells (envc ek q (.slice adp q.past.length capp) (.slice ads se.length caps)).toArray 90 (0, 0)), Res.blk b6 (.cells (vlc zVl).toArray 71 (0, 0)), Res.blk b5 (.cells (sbc g).toArray 47 (0, 0)), clR b id bv ep ct bm, nmR bn N, tbR bt T]) (.refl _) ?_
    (refine yco (ycp Tryz.func32 rfl (by kernel_rfl) rfl) (W1) rfl rfl rfl ?_ ?_ ?_; (· (exact to_)); (· intro _ _ hle; (exact to_)); intro x px hle)
    obtain ⟨h2, vp⟩ := x
    dsimp only at px hle ⊢
    have hle2 : Le h1 h2 := hle
    clear hle
    by_cases hk0 : checkC g.u g.l = 0
    · rw [if_pos hk0] at px
      have hvp : Bs8 h2 vp (encW g.u g.l) := px
      obtain ⟨adw, capw, rfl⟩ : ∃ a c, vp = .slice a (encW g.u g.l).length c := by obtain ⟨_, a, c, e, _⟩ := hvp; exact ⟨a, c, e⟩
      rw [hk0]
      by_cases hd : (q.cl, q.nu) = g.d
      · have hdd : decide ((q.cl, q.nu) = g.d) = true := decide_eq_true hd
        have B1 := bEqual_sp _ _ _ _ h2 hvp (hpv.mono hle2) (encW_byC _ _) hyp.1
        by_cases hw : encW g.u g.l = q.past
        · rw [decide_eq_true hw] at B1
          have hC : checkC g.u g.l = 0 ∧ (q.cl, q.nu) = g.d ∧ encW g.u g.l = q.past := ⟨hk0, hd, hw⟩
          rw [hcon.trans (if_pos hC)]
          rw [if_pos hC] at hcop
          have O1 := hO bv key bn bu bt N T nm ek se vn _ _ q hk hk32 hek hN hNl hTl hnm hnl hqo ⟨hsl1, hsl2⟩ h2 (hT.mono (Le.trans hle1 hle2)) (hv.mono (Le.trans hle1 hle2)) (hsn.mono (Le.trans hle1 hle2)) (hpv.mono hle2) (hsv.mono hle2) hyp.2.2 hyp.1 hyp.2.1 (fun e => (hg e).mono (Le.trans hle1 hle2))
          repeat' (first|(refine ycf ?_;apply ybk;(·first|(exact tk_));(·rfl);(·rfl))|refine t1_ ?_|(refine ta_ ?_;intro _)|((fail_if_success (refine ybi rfl ?_));refine ybj rfl ?_ ?_<;>(intro ht;rw [ht];first|replace ht := oet_ ht|replace ht := oef_ ht|skip))|(refine ych ?_;first|(refine ybw rfl ?_ ?_<;>intro ht)|(refine ybx rfl ?_ ?_<;>intro ht)))
          refine ybk (yad (vs := [.int .i64 q.cl, .int .i64 q.nu]) rfl (Cells.take (Cells.drop (env_head hek (yaz 0 rfl)) 2) 2) rfl) rfl rfl ?_
          repeat' (first|(refine ycf ?_;apply ybk;(·first|(exact tk_));(·rfl);(·rfl))|refine t1_ ?_|(refine ta_ ?_;intro _)|((fail_if_success (refine ybi rfl ?_));refine ybj rfl ?_ ?_<;>(intro ht;rw [ht];first|replace ht := oet_ ht|replace ht := oef_ ht|skip))|(refine ych ?_;first|(refine ybw rfl ?_ ?_<;>intro ht)|(refine ybx rfl ?_ ?_<;>intro ht)))
          refine ybk (yad (vs := dcs g.d) rfl (sb_dot (yaz 2 rfl)) rfl) rfl rfl ?_
          refine ybk (qv_neq_agg (t := true) rfl rfl (fun w => by rw [← hdd]; exact dot_eq (q.cl, q.nu) g.d w)) rfl rfl ?_
          repeat' (first|(refine ycf ?_;apply ybk;(·first|(exact tk_)|(apply yae;(·rfl);(·(exact Cells.cell (env_head hek (yaz 0 rfl)) (j := 4) rfl))));(·rfl);(·rfl))|refine t1_ ?_|(refine ta_ ?_;intro _)|((fail_if_success (refine ybi rfl ?_));refine ybj rfl ?_ ?_<;>(intro ht;rw [ht];first|replace ht := oet_ ht|replace ht := oef_ ht|skip))|(refine ych ?_;first|(refine ybw rfl ?_ ?_<;>intro ht)|(refine ybx rfl ?_ ?_<;>intro ht)))
          (refine ycn (ycp Tryz.func45 rfl (by kernel_rfl) rfl) (B1) rfl rfl rfl ?_ ?_; (· (exact to_)))
          repeat' (first|(refine ycf ?_;apply ybk;(·first|(exact tk_)|(apply yae;(·rfl);(·(exact Cells.cell (env_head hek (yaz 0 rfl)) (j := 4) rfl))));(·rfl);(·rfl))|refine t1_ ?_|(refine ta_ ?_;intro _)|((fail_if_success (refine ybi rfl ?_));refine ybj rfl ?_ ?_<;>(intro ht;rw [ht];first|replace ht := oet_ ht|replace ht := oef_ ht|skip))|(refine ych ?_;first|(refine ybw rfl ?_ ?_<;>intro ht)|(refine ybx rfl ?_ ?_<;>intro ht)))
          refine cx_region_drawW [Res.blk b8 (.cells (envc ek q (.slice adp q.past.length capp) (.slice ads se.length caps)).toArray 90 (0, 0)), clR b id bv ep ct bm] [6] rfl (by kernel_rfl) ?_
          repeat' (refine ycf ?_;(first|(first|(apply ybm;(·(first|(first|exact tk_|(apply qv_nilCheck;rfl)|(apply yad;(·rfl);(·exact yaz 0 rfl);(·exact envc_len hek)))|(apply yae;(·rfl);(·(exact yay 1 rfl rfl)))|exact tq_));(·rfl);(·rfl);(·(first|exact hd_two tmm_ tmm_|exact hd_two' hle tmm_ tmm_)))|refine ybl rfl rfl ?_|((fail_if_success (refine ybi rfl ?_));refine ybj rfl ?_ ?_<;>(intro ht;rw [ht];first|replace ht := oet_ ht|replace ht := oef_ ht|skip))|(refine tb_ ?_ ?_ ?_;(·(first|exact ybf|(refine .inl ?_;(first|exact hd_two tmm_ tmm_|exact hd_two' hle tmm_ tmm_))|exact to_));(·intro _;(first|exact ybf|(refine .inl ?_;(first|exact hd_two tmm_ tmm_|exact hd_two' hle tmm_ tmm_))|exact to_));intro _)|(first|(refine tqs_ ?_ ?_ ?_;(·(first|exact ybf|(refine .inl ?_;(first|exact hd_two tmm_ tmm_|exact hd_two' hle tmm_ tmm_))|exact to_));(·(first|exact ybf|(refine .inl ?_;(first|exact hd_two tmm_ tmm_|exact hd_two' hle tmm_ tmm_))|exact to_))))|(apply ybn;(·(first|(first|exact tk_|(apply qv_nilCheck;rfl)|(apply yad;(·rfl);(·exact yaz 0 rfl);(·exact envc_len hek)))|(apply yae;(·rfl);(·(exact yay 1 rfl rfl)))|exact tq_));(·rfl);(·rfl);(·rfl);(·(first|exact ybf|(refine .inl ?_;(first|exact hd_two tmm_ tmm_|exact hd_two' hle tmm_ tmm_))|exact to_))))|refine ycg ?_))
          refine rx_call_l (ycp Tryz.func46 rfl (by kernel_rfl) rfl) (pick2 4 4 rfl rfl) O1 rfl rfl rfl ?_ ?_ ?_
          · (first|exact ybf|(refine .inl ?_;(first|exact hd_two tmm_ tmm_|exact hd_two' hle tmm_ tmm_))|exact to_)
          · intro _ _ hle;(first|exact ybf|(refine .inl ?_;(first|exact hd_two tmm_ tmm_|exact hd_two' hle tmm_ tmm_))|exact to_)
          rintro ⟨h3, vo⟩ hvo hle
          dsimp only at hvo hle ⊢
          have hle3 : Le h2 h3 := hle
          repeat' (refine ycf ?_;(first|(first|(apply ybm;(·(first|(first|exact tk_|(apply qv_nilCheck;rfl)|(apply yad;(·rfl);(·exact yaz 0 rfl);(·exact envc_len hek)))|(apply yae;(·rfl);(·(exact yay 1 rfl rfl)))|exact tq_));(·rfl);(·rfl);(·(first|exact hd_two tmm_ tmm_|exact hd_two' hle tmm_ tmm_)))|refine ybl rfl rfl ?_|((fail_if_success (refine ybi rfl ?_));refine ybj rfl ?_ ?_<;>(intro ht;rw [ht];first|replace ht := oet_ ht|replace ht := oef_ ht|skip))|(refine tb_ ?_ ?_ ?_;(·(first|exact ybf|(refine .inl ?_;(first|exact hd_two tmm_ tmm_|exact hd_two' hle tmm_ tmm_))|exact to_));(·intro _;(first|exact ybf|(refine .inl ?_;(first|exact hd_two tmm_ tmm_|exact hd_two' hle tmm_ tmm_))|exact to_));intro _)|(first|(refine tqs_ ?_ ?_ ?_;(·(first|exact ybf|(refine .inl ?_;(first|exact hd_two tmm_ tmm_|exact hd_two' hle tmm_ tmm_))|exact to_));(·(first|exact ybf|(refine .inl ?_;(first|exact hd_two tmm_ tmm_|exact hd_two' hle tmm_ tmm_))|exact to_))))|(apply ybn;(·(first|(first|exact tk_|(apply qv_nilCheck;rfl)|(apply yad;(·rfl);(·exact yaz 0 rfl);(·exact envc_len hek)))|(apply yae;(·rfl);(·(exact yay 1 rfl rfl)))|exact tq_));(·rfl);(·rfl);(·rfl);(·(first|exact ybf|(refine .inl ?_;(first|exact hd_two tmm_ tmm_|exact hd_two' hle tmm_ tmm_))|exact to_))))|refine ycg ?_))
          generalize openX idl key N T nm ek q se = rr at hcop hvo ⊢
          obtain ⟨rb, rg, re⟩ := rr
          dsimp only at hcop hvo ⊢
          by_cases hre : re = 0
          · subst hre
            rw [if_pos rfl] at hcop
            rw [hcop]
            obtain ⟨_, adm, capm, hmv, _, _⟩ := (show Ds h g.mv g.l from hx.ds)
            repeat' (first|(refine ycf ?_;apply ybk;(·first|(exact tk_)|(apply yae;(·rfl);(·(exact sb_more (yaz 4 rfl) hmv))));(·rfl);(·rfl))|refine t1_ ?_|(refine ta_ ?_;intro _)|((fail_if_success (refine ybi rfl ?_));refine ybj rfl ?_ ?_<;>(intro ht;rw [ht];first|replace ht := oet_ ht|replace ht := oef_ ht|skip))|(refine ych ?_;first|(refine ybw rfl ?_ ?_<;>intro ht)|(refine ybx rfl ?_ ?_<;>intro ht)))
            have hcl : g.l.length ≤ 32 := (check_right hk0).2.1
            have hds3 : Ds h3 g.mv g.l := ((hx.ds.mono hle1).mono hle2).mono hle3
            rw [hmv] at hds3
            (refine yco (ycp Tryz.func27 rfl (by kernel_rfl) rfl) (clone_sp _ g.l h3 hds3 (by omega)) rfl rfl rfl ?_ ?_ ?_; (· (exact to_)); (· intro _ _ hle; (exact to_)); intro x px hle)
            clear hle px
            refine rx_persistA (by intro z hz;simp [doms, Res.mp, Res.blk] at hz;simp [doms, Res.mp, Res.blk, Res.row];rcases hz with rfl | rfl | rfl<;>simp) fun h4 hle4 hsm => ?_
            have hsm : Ds h4 x g.l := hsm
            obtain ⟨ad2, cap2, rfl⟩ : ∃ a c, x = .slice a g.l.length c := by obtain ⟨_, a, c, e, _⟩ := hsm; exact ⟨a, c, e⟩
            have hgl := sbc_len g
            obtain ⟨g2, eg⟩ : ∃ y : Sb, y = ⟨g.d, g.u, g.hu, g.l, .slice ad2 g.l.length cap2, g.b, g.bv⟩ := ⟨_, rfl⟩
            have hspl : spl (sbc g).toArray.toList (0 + 2 + 16) (Value.slice ad2 g.l.length cap2).cells.toList = sbc g2 := by rw [eg]; exact spl_sbm g
            have hg2 : g2.d = g.d ∧ g2.u = g.u ∧ g2.l = g.l ∧ g2.mv = .slice ad2 g.l.length cap2 := by rw [eg]; exact ⟨rfl, rfl, rfl, rfl⟩
            repeat' (first|(refine ycf ?_;apply ybk;(·first|(exact tk_));(·rfl);(·rfl))|(refine ybg 4 rfl rfl rfl rfl (by show 0 + 2 + 16 + 1 ≤ (sbc g).toArray.size;rw [List.size_toArray, hgl];omega) rfl hspl rfl rfl ?_ ?_ ?_;(·(exact to_));(·(exact to_)))|refine t1_ ?_|(refine ta_ ?_;intro _)|((fail_if_success (refine ybi rfl ?_));refine ybj rfl ?_ ?_<;>(intro ht;rw [ht];first|replace ht := oet_ ht|replace ht := oef_ ht|skip))|(refine ych ?_;first|(refine ybw rfl ?_ ?_<;>intro ht)|(refine ybx rfl ?_ ?_<;>intro ht)))
            obtain ⟨ad3, cap3, rfl⟩ : ∃ a c, vo = .slice a rb.length c := by obtain ⟨_, a, c, e, _⟩ := hvo; exact ⟨a, c, e⟩
            obtain ⟨z, ez⟩ : ∃ z : Vl, z = ⟨g2.d, q.ep, g2.u, g2.hu, g2.l, g2.mv, rg, rb, .slice ad3 rb.length cap3⟩ := ⟨_, rfl⟩
            have hz : vlc z = dcs g2.d ++ (.int .i64 q.ep :: (cxc g2.u g2.mv ++ [.bool rg, .slice ad3 rb.length cap3])) := by rw [ez]; rfl
            have hzone : (Value.agg (vlc z).toArray).cells.toList.all Value.oneCell' = true := by
              show (vlc z).all Value.oneCell' = true
              have h4 : (cxc g2.u g2.mv).all Value.oneCell' = true := cxc_one (by rw [hg2.2.2.2]; rfl)
              rw [hz]
              simp only [List.all_append, h4, List.all_cons, List.all_nil, Bool.and_true, dcs]
              rfl
            repeat' (first|(refine ycf ?_;apply ybk;(·first|(first|exact tk_|(apply yad;(·rfl);(·exact sb_dot (yaz 4 rfl));(·rfl))|(apply yad;(·rfl);(·exact sb_past (yaz 4 rfl));(·exact ycj g2.hu))|(apply yax (cs := vlc z);(·rfl);(·rw [hz];exact fill_vl g2.hu)))|(apply yae;(·rfl);(·(exact Cells.cell (env_head hek (yaz 2 rfl)) (j := 0) rfl))));(·rfl);(·rfl))|(refine ybg 3 rfl rfl rfl (by show (vlc z).toArray.size = 22;rw [List.size_toArray, vlc_len]) (by show 0 + (vlc z).toArray.size ≤ 22;rw [List.size_toArray, vlc_len];omega) hzone (ybh (by show (vlc z).length = 22;rw [vlc_len])) rfl rfl ?_ ?_ ?_;(·(exact to_));(·(exact to_)))|refine t1_ ?_|(refine ta_ ?_;intro _)|((fail_if_success (refine ybi rfl ?_));refine ybj rfl ?_ ?_<;>(intro ht;rw [ht];first|replace ht := oet_ ht|replace ht := oef_ ht|skip))|(refine ych ?_;first|(refine ybw rfl ?_ ?_<;>intro ht)|(refine ybx rfl ?_ ?_<;>intro ht)))
            refine nx_ret2 rfl (rv_cells rfl (yaz 3 rfl) (vlc_len z)) (rv_tmp rfl) (fun w' s' => ⟨(h4, z), rfl, s'.picks [5, 0, 0], ⟨⟨?_, ?_⟩, fun _ => ?_⟩⟩)
            · rw [ez, eg]; exact hsm
            · rw [ez]; exact hvo.mono hle4
            · rw [ez, eg]; exact ⟨rfl, rfl, rfl, rfl⟩
          · rw [if_neg hre] at hcop
            rw [hcop]
            repeat' (first|(refine ycf ?_;apply ybk;(·first|(first|exact tk_|(apply yad;(·rfl);(·exact sb_dot (yaz 4 rfl));(·rfl))|(apply yad;(·rfl);(·exact sb_past (yaz 4 rfl));(·exact ycj g2.hu))|(apply yax (cs := vlc z);(·rfl);(·rw [hz];exact fill_vl g2.hu)))|(apply yae;(·rfl);(·(exact Cells.cell (env_head hek (yaz 2 rfl)) (j := 0) rfl))));(·rfl);(·rfl))|(refine ybg 3 rfl rfl rfl (by show (vlc z).toArray.size = 22;rw [List.size_toArray, vlc_len]) (by show 0 + (vlc z).toArray.size ≤ 22;rw [List.size_toArray, vlc_len];omega) hzone (ybh (by show (vlc z).length = 22;rw [vlc_len])) rfl rfl ?_ ?_ ?_;(·(exact to_));(·(exact to_)))|refine t1_ ?_|(refine ta_ ?_;intro _)|((fail_if_success (refine ybi rfl ?_));refine ybj rfl ?_ ?_<;>(intro ht;rw [ht];first|replace ht := oet_ ht|replace ht := oef_ ht|skip))|(refine ych ?_;first|(refine ybw rfl ?_ ?_<;>intro ht)|(refine ybx rfl ?_ ?_<;>intro ht)))
            refine nx_ret2 rfl (rv_cells rfl (yaz 3 rfl) (vlc_len zVl)) (rv_tmp rfl) (fun w' s' => ⟨(h3, zVl), rfl, ?_, ⟨⟨Sc.nil _ _ _ _, Sc.nil _ _ _ _⟩, fun e => absurd e hre⟩⟩)
            exact s'.picks [5, 0, 0]
        · rw [decide_eq_false hw] at B1
          have hC : ¬ (checkC g.u g.l = 0 ∧ (q.cl, q.nu) = g.d ∧ encW g.u g.l = q.past) := fun hh => hw hh.2.2
          rw [hcop.trans (if_neg hC), hcon.trans (if_neg hC)]
          repeat' (first|(refine ycf ?_;apply ybk;(·first|(exact tk_));(·rfl);(·rfl))|(refine ybg 3 rfl rfl rfl (by show (vlc z).toArray.size = 22;rw [List.size_toArray, vlc_len]) (by show 0 + (vlc z).toArray.size ≤ 22;rw [List.size_toArray, vlc_len];omega) hzone (ybh (by show (vlc z).length = 22;rw [vlc_len])) rfl rfl ?_ ?_ ?_;(·(exact to_));(·(exact to_)))|refine t1_ ?_|(refine ta_ ?_;intro _)|((fail_if_success (refine ybi rfl ?_));refine ybj rfl ?_ ?_<;>(intro ht;rw [ht];first|replace ht := oet_ ht|replace ht := oef_ ht|skip))|(refine ych ?_;first|(refine ybw rfl ?_ ?_<;>intro ht)|(refine ybx rfl ?_ ?_<;>intro ht)))
          refine ybk (yad (vs := [.int .i64 q.cl, .int .i64 q.nu]) rfl (Cells.take (Cells.drop (env_head hek (yaz 0 rfl)) 2) 2) rfl) rfl rfl ?_
          repeat' (first|(refine ycf ?_;apply ybk;(·first|(exact tk_));(·rfl);(·rfl))|(refine ybg 3 rfl rfl rfl (by show (vlc z).toArray.size = 22;rw [List.size_toArray, vlc_len]) (by show 0 + (vlc z).toArray.size ≤ 22;rw [List.size_toArray, vlc_len];omega) hzone (ybh (by show (vlc z).length = 22;rw [vlc_len])) rfl rfl ?_ ?_ ?_;(·(exact to_));(·(exact to_)))|refine t1_ ?_|(refine ta_ ?_;intro _)|((fail_if_success (refine ybi rfl ?_));refine ybj rfl ?_ ?_<;>(intro ht;rw [ht];first|replace ht := oet_ ht|replace ht := oef_ ht|skip))|(refine ych ?_;first|(refine ybw rfl ?_ ?_<;>intro ht)|(refine ybx rfl ?_ ?_<;>intro ht)))
          refine ybk (yad (vs := dcs g.d) rfl (sb_dot (yaz 2 rfl)) rfl) rfl rfl ?_
          refine ybk (qv_neq_agg (t := true) rfl rfl (fun w => by rw [← hdd]; exact dot_eq (q.cl, q.nu) g.d w)) rfl rfl ?_
          repeat' (first|(refine ycf ?_;apply ybk;(·first|(exact tk_)|(apply yae;(·rfl);(·(exact Cells.cell (env_head hek (yaz 0 rfl)) (j := 4) rfl))));(·rfl);(·rfl))|(refine ybg 3 rfl rfl rfl (by show (vlc z).toArray.size = 22;rw [List.size_toArray, vlc_len]) (by show 0 + (vlc z).toArray.size ≤ 22;rw [List.size_toArray, vlc_len];omega) hzone (ybh (by show (vlc z).length = 22;rw [vlc_len])) rfl rfl ?_ ?_ ?_;(·(exact to_));(·(exact to_)))|refine t1_ ?_|(refine ta_ ?_;intro _)|((fail_if_success (refine ybi rfl ?_));refine ybj rfl ?_ ?_<;>(intro ht;rw [ht];first|replace ht := oet_ ht|replace ht := oef_ ht|skip))|(refine ych ?_;first|(refine ybw rfl ?_ ?_<;>intro ht)|(refine ybx rfl ?_ ?_<;>intro ht)))
          (refine ycn (ycp Tryz.func45 rfl (by kernel_rfl) rfl) (B1) rfl rfl rfl ?_ ?_; (· (exact to_)))
          repeat' (first|(refine ycf ?_;apply ybk;(·first|(exact tk_)|(apply yae;(·rfl);(·(exact Cells.cell (env_head hek (yaz 0 rfl)) (j := 4) rfl))));(·rfl);(·rfl))|(refine ybg 3 rfl rfl rfl (by show (vlc z).toArray.size = 22;rw [List.size_toArray, vlc_len]) (by show 0 + (vlc z).toArray.size ≤ 22;rw [List.size_toArray, vlc_len];omega) hzone (ybh (by show (vlc z).length = 22;rw [vlc_len])) rfl rfl ?_ ?_ ?_;(·(exact to_));(·(exact to_)))|refine t1_ ?_|(refine ta_ ?_;intro _)|((fail_if_success (refine ybi rfl ?_));refine ybj rfl ?_ ?_<;>(intro ht;rw [ht];first|replace ht := oet_ ht|replace ht := oef_ ht|skip))|(refine ych ?_;first|(refine ybw rfl ?_ ?_<;>intro ht)|(refine ybx rfl ?_ ?_<;>intro ht)))
          refine nx_ret2 rfl (rv_cells rfl (yaz 1 rfl) (vlc_len zVl)) (rv_tmp rfl) (fun w' s' => ⟨(h2, zVl), rfl, ?_, ⟨⟨Sc.nil _ _ _ _, Sc.nil _ _ _ _⟩, fun e => absurd e (by decide)⟩⟩)
          exact s'.picks [3, 3, 3]
      · have hdd : decide ((q.cl, q.nu) = g.d) = false := decide_eq_false hd
        have hC : ¬ (checkC g.u g.l = 0 ∧ (q.cl, q.nu) = g.d ∧ encW g.u g.l = q.past) := fun hh => hd hh.2.1
        rw [hcop.trans (if_neg hC), hcon.trans (if_neg hC)]
        repeat' (first|(refine ycf ?_;apply ybk;(·first|(exact tk_));(·rfl);(·rfl))|(refine ybg 3 rfl rfl rfl (by show (vlc z).toArray.size = 22;rw [List.size_toArray, vlc_len]) (by show 0 + (vlc z).toArray.size ≤ 22;rw [List.size_toArray, vlc_len];omega) hzone (ybh (by show (vlc z).length = 22;rw [vlc_len])) rfl rfl ?_ ?_ ?_;(·(exact to_));(·(exact to_)))|refine t1_ ?_|(refine ta_ ?_;intro _)|((fail_if_success (refine ybi rfl ?_));refine ybj rfl ?_ ?_<;>(intro ht;rw [ht];first|replace ht := oet_ ht|replace ht := oef_ ht|skip))|(refine ych ?_;first|(refine ybw rfl ?_ ?_<;>intro ht)|(refine ybx rfl ?_ ?_<;>intro ht)))
        refine ybk (yad (vs := [.int .i64 q.cl, .int .i64 q.nu]) rfl (Cells.take (Cells.drop (env_head hek (yaz 0 rfl)) 2) 2) rfl) rfl rfl ?_
        repeat' (first|(refine ycf ?_;apply ybk;(·first|(exact tk_));(·rfl);(·rfl))|(refine ybg 3 rfl rfl rfl (by show (vlc z).toArray.size = 22;rw [List.size_toArray, vlc_len]) (by show 0 + (vlc z).toArray.size ≤ 22;rw [List.size_toArray, vlc_len];omega) hzone (ybh (by show (vlc z).length = 22;rw [vlc_len])) rfl rfl ?_ ?_ ?_;(·(exact to_));(·(exact to_)))|refine t1_ ?_|(refine ta_ ?_;intro _)|((fail_if_success (refine ybi rfl ?_));refine ybj rfl ?_ ?_<;>(intro ht;rw [ht];first|replace ht := oet_ ht|replace ht := oef_ ht|skip))|(refine ych ?_;first|(refine ybw rfl ?_ ?_<;>intro ht)|(refine ybx rfl ?_ ?_<;>intro ht)))
        refine ybk (yad (vs := dcs g.d) rfl (sb_dot (yaz 2 rfl)) rfl) rfl rfl ?_
        refine ybk (qv_neq_agg (t := false) rfl rfl (fun w => by rw [← hdd]; exact dot_eq (q.cl, q.nu) g.d w)) rfl rfl ?_
        repeat' (first|(refine ycf ?_;apply ybk;(·first|(exact tk_)|(apply yae;(·rfl);(·(exact Cells.cell (env_head hek (yaz 0 rfl)) (j := 4) rfl))));(·rfl);(·rfl))|(refine ybg 3 rfl rfl rfl (by show (vlc z).toArray.size = 22;rw [List.size_toArray, vlc_len]) (by show 0 + (vlc z).toArray.size ≤ 22;rw [List.size_toArray, vlc_len];omega) hzone (ybh (by show (vlc z).length = 22;rw [vlc_len])) rfl rfl ?_ ?_ ?_;(·(exact to_));(·(exact to_)))|refine t1_ ?_|(refine ta_ ?_;intro _)|((fail_if_success (refine ybi rfl ?_));refine ybj rfl ?_ ?_<;>(intro ht;rw [ht];first|replace ht := oet_ ht|replace ht := oef_ ht|skip))|(refine ych ?_;first|(refine ybw rfl ?_ ?_<;>intro ht)|(refine ybx rfl ?_ ?_<;>intro ht)))
        refine nx_ret2 rfl (rv_cells rfl (yaz 1 rfl) (vlc_len zVl)) (rv_tmp rfl) (fun w' s' => ⟨(h2, zVl), rfl, ?_, ⟨⟨Sc.nil _ _ _ _, Sc.nil _ _ _ _⟩, fun e => absurd e (by decide)⟩⟩)
        exact s'.picks [3, 3, 3]
    · have hC : ¬ (checkC g.u g.l = 0 ∧ (q.cl, q.nu) = g.d ∧ encW g.u g.l = q.past) := fun hh => hk0 hh.1
      rw [hcop.trans (if_neg hC), hcon.trans (if_neg hC)]
      repeat' (first|(refine ycf ?_;apply ybk;(·first|(exact tk_));(·rfl);(·rfl))|(refine ybg 3 rfl rfl rfl (by show (vlc z).toArray.size = 22;rw [List.size_toArray, vlc_len]) (by show 0 + (vlc z).toArray.size ≤ 22;rw [List.size_toArray, vlc_len];omega) hzone (ybh (by show (vlc z).length = 22;rw [vlc_len])) rfl rfl ?_ ?_ ?_;(·(exact to_));(·(exact to_)))|refine t1_ ?_|(refine ta_ ?_;intro _)|((fail_if_success (refine ybi rfl ?_));refine ybj rfl ?_ ?_<;>(intro ht;rw [ht];first|replace ht := oet_ ht|replace ht := oef_ ht|skip))|(refine ych ?_;first|(refine ybw rfl ?_ ?_<;>intro ht)|(refine ybx rfl ?_ ?_<;>intro ht)))
      refine nx_ret2 rfl (rv_cells rfl (yaz 1 rfl) (vlc_len zVl)) (rv_tmp rfl) (fun w' s' => ⟨(h2, zVl), rfl, ?_, ⟨⟨Sc.nil _ _ _ _, Sc.nil _ _ _ _⟩, fun e => absurd e (by decide)⟩⟩)
      exact s'.picks [3, 3, 3]
  · rw [if_neg hrd, if_neg hrd]
    have e1 : copF idl key N T nm g.a = (2, 0, false, []) := if_neg hrd
    have e2 : copN idl N nm g.a = N := if_neg (fun hh => hrd hh.1)
    rw [e1, e2]
    repeat' (first|(refine ycf ?_;apply ybk;(·first|(exact tk_));(·rfl);(·rfl))|(refine ybg 3 rfl rfl rfl (by show (vlc z).toArray.size = 22;rw [List.size_toArray, vlc_len]) (by show 0 + (vlc z).toArray.size ≤ 22;rw [List.size_toArray, vlc_len];omega) hzone (ybh (by show (vlc z).length = 22;rw [vlc_len])) rfl rfl ?_ ?_ ?_;(·(exact to_));(·(exact to_)))|refine t1_ ?_|(refine ta_ ?_;intro _)|((fail_if_success (refine ybi rfl ?_));refine ybj rfl ?_ ?_<;>(intro ht;rw [ht];first|replace ht := oet_ ht|replace ht := oef_ ht|skip))|(refine ych ?_;first|(refine ybw rfl ?_ ?_<;>intro ht)|(refine ybx rfl ?_ ?_<;>intro ht)))
    refine nx_ret2 rfl (rv_cells rfl (yaz 1 rfl) (vlc_len zVl)) (rv_tmp rfl) (fun w' s' => ⟨(h1, zVl), rfl, ?_, ⟨⟨Sc.nil _ _ _ _, Sc.nil _ _ _ _⟩, fun e => absurd e (by decide)⟩⟩)
    exact s'.picks [3, 3, 3]
end Go.Proofs.YtaofgcahmfailaaGreatDoor
end
