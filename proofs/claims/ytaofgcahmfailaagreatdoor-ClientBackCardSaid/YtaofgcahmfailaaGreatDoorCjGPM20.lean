/-
  Part 20 of a proof: VrB VrC.
  Conditions: each theorem states its own.
-/
import Derived.Test.YtaofgcahmfailaaGreatDoorCjGPM19
set_option maxRecDepth 100000
set_option linter.unusedVariables false
section
namespace Go.Proofs.YtaofgcahmfailaaGreatDoor
open Go Go.Ck
set_option maxHeartbeats 4000000
theorem boundF_by {key : List Int} {q : Hdr} (hk : Bytes key) (hp : Bytes q.past) : Bytes (boundF key q) := by
  unfold boundF
  exact cbytes_app (cbytes_app (cbytes_app (cbytes_app (cbytes_app (cbytes_app hk (putLow_bytes' 8 _)) (putLow_bytes' 8 _)) (putLow_bytes' 8 _)) (putLow_bytes' 8 _)) (putLow_bytes' 4 _)) hp
theorem ESealX_sp (idl : Bool) (bv : Nat) (key : List Int) (bn bu bt : Nat) (N : List (List Int)) (U : List UseK) (T : Tab) (nm val : List Int) (vn vv pv : Value) (q : Hdr) (del : Bool) (hk : Bytes key) (hk32 : key.length = 32)
    (hN : Names N) (hNl : N.length < 900000) (hU : U.length < 900000) (hT : Held U T) (hnm : Bytes nm) (hnl : 1 ≤ nm.length ∧ nm.length ≤ 64) (hok : q.ok) (hnew : (q.cl, q.ct) ∉ U) (yv : Bytes val) (hvl : del = false → val.length ≤ 3999)
    (h : View) (hv : Vb h bv idl key bn bu bt) (hsn : Bs8 h vn nm) (hsv : Bs8 h vv val) (hsp : Bs8 h pv q.past) (yp : Bytes q.past) (hg : ShG h) (w : World) (s : St ⟨w, h, doms [nmR bn N, usR bu U, tbR bt T]⟩ h [nmR bn N, usR bu U, tbR bt T] w) :
    Calls Tryz.prog 25 [.pointer (some ⟨bv, 0, none⟩), vn, .agg (hdc q pv).toArray, vv, .bool del].toArray w fun e w' => ∃ y : View × Value × Value × Value, e = .returned (.tuple #[.agg (envc (nameX idl key N nm) q y.2.1 y.2.2.1).toArray, .int .i64 0]) ∧
      St ⟨w, h, doms [nmR bn N, usR bu U, tbR bt T]⟩ y.1 [rowB y.2.1 q.past, rowB y.2.2.1 (sealX idl key U q.ep q.cl q.ct (boundF (nameX idl key N nm) q) (padW (inF del val))), nmR bn (addX idl N nm), usR bu (U ++ [(q.cl, q.ct)]),
        tbR bt (tabX idl T ((q.cl, q.ct, q.ep, bstr (boundF (nameX idl key N nm) q), bstr (sealX idl key U q.ep q.cl q.ct (boundF (nameX idl key N nm) q) (padW (inF del val)))), y.2.2.2, padW (inF del val)))] w' ∧ Bs8 y.1 y.2.2.2 (padW (inF del val)) := by
  obtain ⟨_, adn, capn, rfl, hcapn, _⟩ := id hsn
  obtain ⟨_, adv, capv, rfl, hcapv, _⟩ := id hsv
  obtain ⟨_, adp, capp, rfl, hcapp, _⟩ := id hsp
  have HR := hright_sp q _ h hsp
  have HN := name_sp _ nm h hsn
  have e1 : decide q.ok = true := by simpa using hok
  have e2 : decide (1 ≤ nm.length ∧ nm.length ≤ 64) = true := by simpa using hnl
  rw [e1] at HR
  rw [e2] at HN
  refine calls_enter Tryz.func25 rfl Tryz.ntmps25 rfl s ?_
  repeat' (first|(refine ycf ?_;apply ybk;(·first|(first|exact tk_|(apply qv_eql_pnil<;>rfl)|(apply qv_nilCheck;rfl)));(·rfl);(·rfl))|refine t1_ ?_|(refine ta_ ?_;intro _)|((fail_if_success (refine ybi rfl ?_));refine ybj rfl ?_ ?_<;>(intro ht;rw [ht];first|replace ht := oet_ ht|replace ht := oef_ ht|skip))|(refine ych ?_;first|(refine ybw rfl ?_ ?_<;>intro ht)|(refine ybx rfl ?_ ?_<;>intro ht)))
  (refine ycn (ycp Tryz.func34 rfl (by kernel_rfl) rfl) (HN) rfl rfl rfl ?_ ?_; (· (exact to_)))
  repeat' (first|(refine ycf ?_;apply ybk;(·first|(first|exact tk_|(apply qv_eql_pnil<;>rfl)|(apply qv_nilCheck;rfl)));(·rfl);(·rfl))|refine t1_ ?_|(refine ta_ ?_;intro _)|((fail_if_success (refine ybi rfl ?_));refine ybj rfl ?_ ?_<;>(intro ht;rw [ht];first|replace ht := oet_ ht|replace ht := oef_ ht|skip))|(refine ych ?_;first|(refine ybw rfl ?_ ?_<;>intro ht)|(refine ybx rfl ?_ ?_<;>intro ht)))
  (refine ycn (ycp Tryz.func35 rfl (by kernel_rfl) rfl) (HR) rfl rfl rfl ?_ ?_; (· (exact to_)))
  iterate 12 (first|(refine ycf ?_;apply ybk;(·first|(exact tk_));(·rfl);(·rfl))|refine t1_ ?_|(refine ta_ ?_;intro _)|((fail_if_success (refine ybi rfl ?_));refine ybj rfl ?_ ?_<;>(intro ht;rw [ht];first|replace ht := oet_ ht|replace ht := oef_ ht|skip))|(refine ych ?_;first|(refine ybw rfl ?_ ?_<;>intro ht)|(refine ybx rfl ?_ ?_<;>intro ht)))
  rename_i b7 b10 bi
  refine yby ?_
  refine ybo ?_
  have hil := inF_len hvl
  have hiy := inF_by (del := del) yv
  refine cx_cut (X := Value) (fun y => [(0, .pointer (some ⟨bv, 0, none⟩)), (1, .slice adn nm.length capn), (7, .pointer (some ⟨b7, 0, none⟩)), (10, .pointer (some ⟨b10, 0, none⟩)), (12, y)]) (fun _ => h) (fun y => [rowB y (inF del val), Res.blk b10 (.cells zEnv 90 (0, 0)), Res.blk b7 (.cells (hdc q (.slice adp q.past.length capp)).toArray 86 (0, 0)), nmR bn N, usR bu U, tbR bt T]) (fun _ => True) ?_ ?_
  · cases del with
    | true =>
      repeat' (first|(refine ycf ?_;apply ybk;(·first|(exact tk_));(·rfl);(·rfl))|refine t1_ ?_|(refine ta_ ?_;intro _)|((fail_if_success (refine ybi rfl ?_));refine ybj rfl ?_ ?_<;>(intro ht;rw [ht];first|replace ht := oet_ ht|replace ht := oef_ ht|skip))|(refine ych ?_;first|(refine ybw rfl ?_ ?_<;>intro ht)|(refine ybx rfl ?_ ?_<;>intro ht)))
      refine nx_cut (.slice (some ⟨bi, 0, none⟩) 1 1) trivial ts_ (fun w' s' => ?_)
      exact s'.rowOf (k := 1) (m := 1) (cap := 1) (Nat.le_refl _) (by unfold maxLen; omega) rfl
    | false =>
      have hvl := hvl rfl
      repeat' (first|(refine ycf ?_;apply ybk;(·first|(exact tk_));(·rfl);(·rfl))|refine t1_ ?_|(refine ta_ ?_;intro _)|((fail_if_success (refine ybi rfl ?_));refine ybj rfl ?_ ?_<;>(intro ht;rw [ht];first|replace ht := oet_ ht|replace ht := oef_ ht|skip))|(refine ych ?_;first|(refine ybw rfl ?_ ?_<;>intro ht)|(refine ybx rfl ?_ ?_<;>intro ht)))
      refine rx_rowOf 1 1 1 (Nat.le_refl _) (by unfold maxLen; omega) rfl ?_
      refine rx_append_sc (sz := 1) 0 rfl rfl rfl hsv (bcs_one val) rfl (by omega) (by unfold maxLen; omega) (by omega) rfl rfl rfl ybf (fun _ => ybf) ?_
      intro v2 _
      repeat' (first|(refine ycf ?_;apply ybk;(·first|(exact tk_));(·rfl);(·rfl))|refine t1_ ?_|(refine ta_ ?_;intro _)|((fail_if_success (refine ybi rfl ?_));refine ybj rfl ?_ ?_<;>(intro ht;rw [ht];first|replace ht := oet_ ht|replace ht := oef_ ht|skip))|(refine ych ?_;first|(refine ybw rfl ?_ ?_<;>intro ht)|(refine ybx rfl ?_ ?_<;>intro ht)))
      refine nx_cut v2 trivial ts_ (fun w' s' => ?_)
      have s2 := (s'.perm (perm_at (k := 1) rfl)).tl
      have e : (inF false val).length = 1 + val.length := by simp [inF]; omega
      unfold rowB
      rw [e]
      exact s2
  intro vi _
  generalize inF del val = ins at *
  have hpd := padW_len hil
  have hsz := sizeF_bd (n := (ins.length : Nat)) (by omega) (by omega)
  refine yby ?_
  repeat' (first|(refine ycf ?_;apply ybk;(·first|(exact tk_));(·rfl);(·rfl))|refine t1_ ?_|(refine ta_ ?_;intro _)|((fail_if_success (refine ybi rfl ?_));refine ybj rfl ?_ ?_<;>(intro ht;rw [ht];first|replace ht := oet_ ht|replace ht := oef_ ht|skip))|(refine ych ?_;first|(refine ybw rfl ?_ ?_<;>intro ht)|(refine ybx rfl ?_ ?_<;>intro ht)))
  refine rx_call_lendx (u := fun y : Value => .tuple #[y, .int .i64 0]) (LL := fun y => [rowB y (padW ins)]) 0 (ycp Tryz.func36 rfl (by kernel_rfl) rfl) rfl (fun h' _ hsc w s => Pad_sp vi ins hil h' hsc w s) rfl rfl rfl ybf (fun _ => ybf) ?_
  intro vp
  refine rx_persistA (by intro z hz; simp only [doms, List.flatMap_cons, List.flatMap_nil, List.mem_append, Res.mp, List.mem_singleton] at hz ⊢; simp; rcases hz with hz | hz | hz; (· simp_all); (· simp_all); (· simp_all)) fun h1 hle1 hvp => ?_
  have hvp : Bs8 h1 vp (padW ins) := hvp
  obtain ⟨_, adq, capq, rfl, hcapq, _⟩ := id hvp
  have hv1 := hv.mono hle1
  have hsn1 := hsn.mono hle1
  have hsp1 := hsp.mono hle1
  repeat' (first|(refine ycf ?_;apply ybk;(·first|(exact tk_));(·rfl);(·rfl))|refine t1_ ?_|(refine ta_ ?_;intro _)|((fail_if_success (refine ybi rfl ?_));refine ybj rfl ?_ ?_<;>(intro ht;rw [ht];first|replace ht := oet_ ht|replace ht := oef_ ht|skip))|(refine ych ?_;first|(refine ybw rfl ?_ ?_<;>intro ht)|(refine ybx rfl ?_ ?_<;>intro ht)))
  (refine rx_call_m (ycp Tryz.func37 rfl (by kernel_rfl) rfl) (perm_at (k := 3) rfl) (BlindX_sp idl bv key bn bu bt N _ nm hk hk32 hN hNl hnm hnl h1 hv1 hsn1 (hg.mono hle1)) rfl rfl rfl ?_ ?_ ?_; (· (exact to_)); (· intro _ _ hle; (exact to_)); intro x px hle)
  have hb32 : (nameX idl key N nm).length = 32 := nameX_len _ _ _ _
  have hby : Bytes (nameX idl key N nm) := nameX_by _ _ _ _
  generalize hbk : nameX idl key N nm = bk at hb32 hby ⊢
  have hol : (bcs bk).length = 32 := by rw [bcs_len, hb32]
  clear px hle
  repeat' (first|(refine ycf ?_;apply ybk;(·first|(exact tk_));(·rfl);(·rfl))|(refine ybg 0 rfl rfl rfl (by show (bcs bk).toArray.size = 32;simpa using hol) (by show 0 + (bcs bk).toArray.size ≤ _;rw [List.size_toArray, hol];exact nble rfl) (List.all_eq_true.2 (bcs_one bk)) (ybh (by show (bcs bk).length = _;rw [hol];rfl)) rfl rfl ?_ ?_ ?_;(·(exact to_));(·(exact to_)))|refine t1_ ?_|(refine ta_ ?_;intro _)|((fail_if_success (refine ybi rfl ?_));refine ybj rfl ?_ ?_<;>(intro ht;rw [ht];first|replace ht := oet_ ht|replace ht := oef_ ht|skip))|(refine ych ?_;first|(refine ybw rfl ?_ ?_<;>intro ht)|(refine ybx rfl ?_ ?_<;>intro ht)))
  have hpl : q.past.length ≤ 1000000 := by have := hok.2.2.2.2; omega
  (refine yco (ycp Tryz.func38 rfl (by kernel_rfl) rfl) (bclone_sp _ q.past h1 hsp1 hpl) rfl rfl rfl ?_ ?_ ?_; (· (exact to_)); (· intro _ _ hle; (exact to_)); intro x px hle)
  rename_i pc _ _
  refine rx_rowsl 0 rfl fun adx capx hpx => ?_
  subst hpx
  repeat' (first|(refine ycf ?_;apply ybk;(·first|(first|exact tk_|(apply yad;(·rfl);(·exact yaz 1 rfl);(·exact hol))|(apply yax (cs := envc bk q (.slice adx q.past.length capx) (.slice none 0 0));(·rfl);(·exact fill_env hol))));(·rfl);(·rfl))|refine t1_ ?_|(refine ta_ ?_;intro _)|((fail_if_success (refine ybi rfl ?_));refine ybj rfl ?_ ?_<;>(intro ht;rw [ht];first|replace ht := oet_ ht|replace ht := oef_ ht|skip))|(refine ych ?_;first|(refine ybw rfl ?_ ?_<;>intro ht)|(refine ybx rfl ?_ ?_<;>intro ht)))
  repeat' (first|(refine ycf ?_;apply ybk;(·first|(first|exact tk_|(apply yad;(·rfl);(·exact yaz 0 rfl);(·exact envc_len hb32))));(·rfl);(·rfl))|(refine ybg 0 rfl rfl rfl (by show (envc bk q _ _).toArray.size = 38;simpa using envc_len hb32) (by show 0 + (envc bk q _ _).toArray.size ≤ _;rw [List.size_toArray, envc_len hb32];exact nble rfl) (List.all_eq_true.2 (envc_one rfl rfl)) (ybh (by show (envc bk q _ _).length = _;rw [envc_len hb32];rfl)) rfl rfl ?_ ?_ ?_;(·(exact to_));(·(exact to_)))|refine t1_ ?_|(refine ta_ ?_;intro _)|((fail_if_success (refine ybi rfl ?_));refine ybj rfl ?_ ?_<;>(intro ht;rw [ht];first|replace ht := oet_ ht|replace ht := oef_ ht|skip))|(refine ych ?_;first|(refine ybw rfl ?_ ?_<;>intro ht)|(refine ybx rfl ?_ ?_<;>intro ht)))
  refine rx_call_lendx (u := fun y : Nat × Value => .pointer (some ⟨y.1, 0, none⟩)) (LL := fun y => [outR y.1 y.2 false, rowB y.2 (boundF bk q)]) 1 (ycp Tryz.func39 rfl (by kernel_rfl) rfl) rfl (fun h' _ hsc w s => bound_sp bk q _ _ hb32 hok rfl h' hsc w s) rfl rfl rfl ybf (fun _ => ybf) ?_
  rintro ⟨bo, vo⟩
  dsimp only
  have hbl := boundF_len (q := q) hb32
  repeat' (first|(refine ycf ?_;apply ybk;(·first|(exact tk_));(·rfl);(·rfl))|refine t1_ ?_|(refine ta_ ?_;intro _)|((fail_if_success (refine ybi rfl ?_));refine ybj rfl ?_ ?_<;>(intro ht;rw [ht];first|replace ht := oet_ ht|replace ht := oef_ ht|skip))|(refine ych ?_;first|(refine ybw rfl ?_ ?_<;>intro ht)|(refine ybx rfl ?_ ?_<;>intro ht)))
  (refine rx_call_2 (ycp Tryz.func40 rfl (by kernel_rfl) rfl) (Done_sp bo vo (boundF bk q) (by rw [hbl]; have := hok.2.2.2.2; omega) h1) rfl rfl rfl ?_ ?_ ?_; (· (exact to_)); (· intro _ _ hle; (exact to_)); intro x px hle)
  refine rx_persistA (by intro z hz; simp only [doms, List.flatMap_cons, List.flatMap_nil, List.mem_append, Res.mp, List.mem_singleton] at hz ⊢; simp; rcases hz with hz | hz | hz; (· simp_all); (· simp_all); (· simp_all)) fun h2 hle2 hvw => ?_
  have hvw : Bs8 h2 x (boundF bk q) := hvw
  obtain ⟨_, adw, capw, rfl, hcapw, _⟩ := id hvw
  have hv2 := hv1.mono hle2
  have hvp2 := hvp.mono hle2
  repeat' (first|(refine ycf ?_;apply ybk;(·first|(exact tk_)|(apply yae;(·rfl);(·(exact yay 8 rfl rfl))));(·rfl);(·rfl))|refine t1_ ?_|(refine ta_ ?_;intro _)|((fail_if_success (refine ybi rfl ?_));refine ybj rfl ?_ ?_<;>(intro ht;rw [ht];first|replace ht := oet_ ht|replace ht := oef_ ht|skip))|(refine ych ?_;first|(refine ybw rfl ?_ ?_<;>intro ht)|(refine ybx rfl ?_ ?_<;>intro ht)))
  have hpp : (padW ins).length ≤ 5000 := by omega
  refine rx_call_l (ycp Tryz.func41 rfl (by kernel_rfl) rfl) (pick2 9 9 rfl rfl) (VSealX_sp idl bv key bn bu bt U T q.ep q.cl q.ct _ _ (boundF bk q) (padW ins) hk hk32 hU hT hok.sealk hnew (by rw [hbl]; have := hok.2.2.2.2; omega) hpp (boundF_by hby yp) (padW_by hiy) h2 hv2 hvw hvp2 ((hg.mono hle1).mono hle2)) rfl rfl rfl ybf (fun _ _ _ => ybf) ?_
  rintro ⟨h3, vs, tv⟩ htv hle3
  dsimp only at htv hle3 ⊢
  refine rx_rowsl 0 rfl fun ads caps hps => ?_
  subst hps
  repeat' (first|(refine ycf ?_;apply ybk;(·first|(first|exact tk_|(apply yad;(·rfl);(·exact yaz 5 rfl);(·exact envc_len hb32))));(·rfl);(·rfl))|(first|(refine ybg 5 rfl rfl rfl rfl (by show 0 + 37 + 1 ≤ (envc bk q _ _).toArray.size;rw [List.size_toArray, envc_len hb32];omega) rfl (spl_seal hb32) rfl rfl ?_ ?_ ?_;(·(exact to_));(·(exact to_)))|(refine ybg 10 rfl rfl rfl (by show (envc bk q _ _).toArray.size = 38;simpa using envc_len hb32) (by show 0 + (envc bk q _ _).toArray.size ≤ _;rw [List.size_toArray, envc_len hb32];exact nble rfl) (List.all_eq_true.2 (envc_one rfl rfl)) (ybh (by show (envc bk q _ _).length = _;rw [envc_len hb32];rfl)) rfl rfl ?_ ?_ ?_;(·(exact to_));(·(exact to_))))|refine t1_ ?_|(refine ta_ ?_;intro _)|((fail_if_success (refine ybi rfl ?_));refine ybj rfl ?_ ?_<;>(intro ht;rw [ht];first|replace ht := oet_ ht|replace ht := oef_ ht|skip))|(refine ych ?_;first|(refine ybw rfl ?_ ?_<;>intro ht)|(refine ybx rfl ?_ ?_<;>intro ht)))
  refine nx_ret2 rfl (rv_cells rfl (yaz 10 rfl) (envc_len hb32)) (rv_tmp rfl) (fun w' s' => ⟨(h3, .slice adx q.past.length capx, .slice ads (sealX idl key U q.ep q.cl q.ct (boundF bk q) (padW ins)).length caps, tv), rfl, ?_, htv⟩)
  exact s'.picks [6, 0, 6, 0, 0]
end Go.Proofs.YtaofgcahmfailaaGreatDoor
end

section
namespace Go.Proofs.YtaofgcahmfailaaGreatDoor
open Go Go.Ck
set_option maxHeartbeats 400000
theorem Real_sp (key : List Int) (hk32 : key.length = 32) (h : View) (w : World) (s : St ⟨w, h, []⟩ h [] w) :
    Calls Tryz.prog 28 [.agg (bcs key).toArray].toArray w fun e w' => ∃ x : View × Nat × Nat × Nat × Nat, e = .returned (.pointer (some ⟨x.2.1, 0, none⟩)) ∧
      St ⟨w, h, []⟩ x.1 [nmR x.2.2.1 [], usR x.2.2.2.1 [], tbR x.2.2.2.2 []] w' ∧ Vb x.1 x.2.1 false key x.2.2.1 x.2.2.2.1 x.2.2.2.2 := by
  have hol : (bcs key).length = 32 := by rw [bcs_len, hk32]
  refine calls_enter Tryz.func28 rfl Tryz.ntmps28 rfl s ?_
  repeat' (first|(refine ycf ?_;apply ybk;(·first|(apply yad;(·rfl);(·exact yaz 0 rfl);(·exact hol)));(·rfl);(·rfl))|(refine ybg 0 rfl rfl rfl (by show (bcs key).toArray.size = 32;simpa using hol) (by show 0 + (bcs key).toArray.size ≤ _;rw [List.size_toArray, hol];exact nble rfl) (List.all_eq_true.2 (bcs_one key)) (ybh (by show (bcs key).length = _;rw [hol];rfl)) rfl rfl ?_ ?_ ?_;(·(exact to_));(·(exact to_)))|refine t1_ ?_|(refine ta_ ?_;intro _)|((fail_if_success (refine ybi rfl ?_));refine ybj rfl ?_ ?_<;>(intro ht;rw [ht];first|replace ht := oet_ ht|replace ht := oef_ ht|skip))|(refine ych ?_;first|(refine ybw rfl ?_ ?_<;>intro ht)|(refine ybx rfl ?_ ?_<;>intro ht)))
  (refine yco (ycp Tryz.func23 rfl (by kernel_rfl) rfl) (vault_sp false key hk32 h) rfl rfl rfl ?_ ?_ ?_; (· (exact to_)); (· intro _ _ hle; (exact to_)); intro x px hle)
  repeat' (first|(refine ycf ?_;apply ybk;(·first|(apply yad;(·rfl);(·exact yaz 0 rfl);(·exact hol)));(·rfl);(·rfl))|(refine ybg 0 rfl rfl rfl (by show (bcs key).toArray.size = 32;simpa using hol) (by show 0 + (bcs key).toArray.size ≤ _;rw [List.size_toArray, hol];exact nble rfl) (List.all_eq_true.2 (bcs_one key)) (ybh (by show (bcs key).length = _;rw [hol];rfl)) rfl rfl ?_ ?_ ?_;(·(exact to_));(·(exact to_)))|refine t1_ ?_|(refine ta_ ?_;intro _)|((fail_if_success (refine ybi rfl ?_));refine ybj rfl ?_ ?_<;>(intro ht;rw [ht];first|replace ht := oet_ ht|replace ht := oef_ ht|skip))|(refine ych ?_;first|(refine ybw rfl ?_ ?_<;>intro ht)|(refine ybx rfl ?_ ?_<;>intro ht)))
  refine nx_ret1 rfl (rv_tmp rfl) (fun w' s' => ⟨x, rfl, ?_, px⟩)
  exact (St.drop (L := [_]) (s'.perm (perm_at (k := 3) rfl)))
theorem cx_bview {P : Program} {n : Nat} {K : Bs} {F : List (Nat × Value)} {h : View} {L : List Res} {Q : Exit → Act → World → Prop} {c : Code} {b : Nat} {e : TypeId} {cs : Array Value} (k : Nat) (hA : K.A = []) (hk : L[k]? = some (Res.blk b (.cells cs e (0, 0)))) (hx : ∀ h', Le h h' → h' b = some (.cells cs e (0, 0)) → CX P n K c F h' (L.eraseIdx k) Q) :
    CX P n K c F h L Q := by
  refine cx_perm (perm_at hk) ?_
  refine cx_bpersist hA fun hn => hx _ (fun z o hz => ?_) ?_
  · unfold addV
    by_cases hzb : z = b
    · subst hzb; rw [hn] at hz; cases hz
    · rw [if_neg hzb]; exact hz
  · unfold addV; rw [if_pos rfl]
end Go.Proofs.YtaofgcahmfailaaGreatDoor
end
