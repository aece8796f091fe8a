/-
  Part 15 of a proof: VrA CiA CiB EvA EvE.
  Conditions: each theorem states its own.
-/
import Derived.Test.YtaofgcahmfailaaGreatDoorCjGPM14
set_option maxRecDepth 100000
set_option linter.unusedVariables false
section
namespace Go.Ck
open Go
theorem calls_frame {P : Program} {f : FuncId} {args : Array Value} {X : Type} {v : X → Value} {hh : X → View} {LL : X → List Res} {p : X → Prop} {Li Lr L : List Res} {h : View} {w : World} (hp : L.Perm (Li ++ Lr))
    (H : ∀ w, St ⟨w, h, doms Li⟩ h Li w → Calls P f args w fun e w' => ∃ x, e = .returned (v x) ∧ St ⟨w, h, doms Li⟩ (hh x) (LL x) w' ∧ p x) (s : St ⟨w, h, doms L⟩ h L w) :
    Calls P f args w fun e w' => ∃ x, e = .returned (v x) ∧ St ⟨w, h, doms L⟩ (hh x) (LL x ++ Lr) w' ∧ p x := by
  have s1 : St ⟨w, h, doms L⟩ h (Li ++ Lr) w := s.perm hp
  refine (H w (St.enter (Li := Li) (Lr := Lr) s1)).mono fun e w' he => ?_
  obtain ⟨x, rfl, st, px⟩ := he
  exact ⟨x, rfl, St.leave (Li := Li) (Lr := Lr) s1 st, px⟩
theorem calls_frame0 {P : Program} {f : FuncId} {args : Array Value} {v : Value} {L : List Res} {h : View} {w : World}
    (H : ∀ w, St ⟨w, h, []⟩ h [] w → Calls P f args w fun e w' => e = .returned v ∧ St ⟨w, h, []⟩ h [] w') (s : St ⟨w, h, doms L⟩ h L w) :
    Calls P f args w fun e w' => e = .returned v ∧ St ⟨w, h, doms L⟩ h L w' :=
  (calls_frame (X := Unit) (v := fun _ => v) (hh := fun _ => h) (LL := fun _ => []) (p := fun _ => True) (Li := []) (Lr := L) (List.Perm.refl _) (fun w s => (H w s).mono fun e w' he => ⟨(), he.1, he.2, trivial⟩) s).mono fun e w' he => by
    obtain ⟨_, h1, h2, _⟩ := he
    exact ⟨h1, h2⟩
end Go.Ck
namespace Go.Proofs.YtaofgcahmfailaaGreatDoor
open Go Go.Ck
set_option maxHeartbeats 4000000
theorem blindR_len (key nm : List Int) : (blindR key nm).length = 32 := hmacF_len _ _
theorem blindR_by (key nm : List Int) : Bytes (blindR key nm) := hmacF_by _ _
theorem BlindR_sp (bv : Nat) (key : List Int) (bn bu bt : Nat) (v : Value) (nm : List Int) (hk : Bytes key) (hk32 : key.length = 32) (hx : Bytes nm) (hxl : 1 ≤ nm.length ∧ nm.length ≤ 64) (h : View) (hv : Vb h bv false key bn bu bt) (hs : Bs8 h v nm) (hg : ShG h) (w : World) (s : St ⟨w, h, []⟩ h [] w) :
    Calls Tryz.prog 37 [.pointer (some ⟨bv, 0, none⟩), v].toArray w fun e w' => e = .returned (.tuple #[.agg (bcs (blindR key nm)).toArray, .int .i64 0]) ∧ St ⟨w, h, []⟩ h [] w' := by
  obtain ⟨_, ad, cap, rfl, hcap, _⟩ := id hs
  have K1 := kBlind_sp _ key nm hk hk32 hx hxl h hs hg
  have hol : (bcs (blindR key nm)).length = 32 := by rw [bcs_len, blindR_len]
  generalize blindR key nm = out at K1 hol ⊢
  refine calls_enter Tryz.func37 rfl Tryz.ntmps37 rfl s ?_
  repeat' (first|(refine ycf ?_;apply ybk;(·first|(first|exact tk_|(apply qv_eql_pnil<;>rfl)|(apply qv_nilCheck;rfl)|(apply yad;(·rfl);(·exact hv.kb);(·rw [bcs_len, hk32])))|(apply yae;(·rfl);(·(first|exact hv.at hk32 (.inl ⟨rfl, rfl⟩)|exact hv.at hk32 (.inr (.inl ⟨rfl, rfl⟩))))));(·rfl);(·rfl))|refine t1_ ?_|(refine ta_ ?_;intro _)|((fail_if_success (refine ybi rfl ?_));refine ybj rfl ?_ ?_<;>(intro ht;rw [ht];first|replace ht := oet_ ht|replace ht := oef_ ht|skip))|(refine ych ?_;first|(refine ybw rfl ?_ ?_<;>intro ht)|(refine ybx rfl ?_ ?_<;>intro ht)))
  (refine ycn (ycp Tryz.func54 rfl (by kernel_rfl) rfl) (K1) rfl rfl rfl ?_ ?_; (· (exact to_)))
  repeat' (first|(refine ycf ?_;apply ybk;(·first|exact tk_|(apply yae;(·rfl);(·(first|exact hv.at hk32 (.inl ⟨rfl, rfl⟩)|exact hv.at hk32 (.inr (.inl ⟨rfl, rfl⟩))))));(·rfl);(·rfl))|(refine ybg 0 rfl rfl rfl (by show (bcs out).toArray.size = 32;simpa using hol) (by show 0 + (bcs out).toArray.size ≤ _;rw [List.size_toArray, hol];exact nble rfl) (List.all_eq_true.2 (bcs_one out)) (ybh (by show (bcs out).length = _;rw [hol];rfl)) rfl rfl ?_ ?_ ?_;(·(exact to_));(·(exact to_)))|refine t1_ ?_|(refine ta_ ?_;intro _)|((fail_if_success (refine ybi rfl ?_));refine ybj rfl ?_ ?_<;>(intro ht;rw [ht];first|replace ht := oet_ ht|replace ht := oef_ ht|skip))|(refine ych ?_;first|(refine ybw rfl ?_ ?_<;>intro ht)|(refine ybx rfl ?_ ?_<;>intro ht)))
  exact nx_ret2 rfl (rv_cells rfl (yaz 0 rfl) (by show (bcs out).toArray.toList.length = 32; simpa using hol)) (rv_tmp rfl) (fun w' s' => ⟨rfl, s'.nil⟩)
theorem nonceF_by (c n : Int) : Bytes (nonceF c n) := by
  unfold nonceF
  split
  · exact cbytes_app (putLow_bytes' 4 _) (putLow_bytes' 8 _)
  · exact zeros_by _
def sealR (key : List Int) (ep c n : Int) (wi b : List Int) : List Int := aeadS (sealK key ep) (nonceF c n) wi b
theorem sealR_len (key : List Int) (ep c n : Int) (wi b : List Int) : (sealR key ep c n wi b).length = b.length + 16 := aeadS_len _ _ _ _
theorem VSealR_sp (bv : Nat) (key : List Int) (bn bu bt : Nat) (U : List UseK) (ep c n : Int) (vw vb : Value) (wi b : List Int) (hk : Bytes key) (hk32 : key.length = 32) (hok : sealOk ep c n) (hnew : (c, n) ∉ U) (hwl : wi.length ≤ 400000) (hbl : b.length ≤ 5000) (yw : Bytes wi) (yb : Bytes b)
    (h : View) (hv : Vb h bv false key bn bu bt) (hw : Bs8 h vw wi) (hb : Bs8 h vb b) (hg : ShG h) (w : World) (s : St ⟨w, h, doms [usR bu U]⟩ h [usR bu U] w) :
    Calls Tryz.prog 41 [.pointer (some ⟨bv, 0, none⟩), .int .i64 ep, .int .i64 c, .int .i64 n, vw, vb].toArray w fun e w' => ∃ x : Value, e = .returned (.tuple #[x, .int .i64 0]) ∧
      St ⟨w, h, doms [usR bu U]⟩ h [rowB x (sealR key ep c n wi b), usR bu (U ++ [(c, n)])] w' ∧ True := by
  obtain ⟨_, adw, capw, rfl, hcapw, _⟩ := id hw
  obtain ⟨_, adb, capb, rfl, hcapb, _⟩ := id hb
  have R1 := vright_sp ep c n h
  rw [if_pos hok] at R1
  have K1 := vkeys_sp bv false key bn bu bt ep c n hk hk32 hok h hv hg
  have kl := sealK_len key ep
  have kb := sealK_by key ep
  have nl := nonceF_len c n
  have nb := nonceF_by c n
  unfold sealR
  generalize sealK key ep = kk at K1 kl kb ⊢
  generalize nonceF c n = nn at K1 nl nb ⊢
  have S1 := aSeal_sp _ _ kk nn wi b kb nb kl nl yw yb hwl (by omega) h hw hb
  generalize aeadS kk nn wi b = out at S1 ⊢
  have hok1 : (bcs kk).length = 32 := by rw [bcs_len, kl]
  have hon : (bcs nn).length = 12 := by rw [bcs_len, nl]
  refine calls_enter Tryz.func41 rfl Tryz.ntmps41 rfl s ?_
  repeat' (first|(refine ycf ?_;apply ybk;(·first|(first|exact tk_|(apply qv_eql_pnil<;>rfl)|(apply qv_nilCheck;rfl))|(apply yae;(·rfl);(·(first|exact hv.at hk32 (.inl ⟨rfl, rfl⟩)|exact hv.at hk32 (.inr (.inr (.inl ⟨rfl, rfl⟩)))|exact hv.at hk32 (.inr (.inr (.inr ⟨rfl, rfl⟩)))))));(·rfl);(·rfl))|(refine ybg 0 rfl rfl rfl (by show (bcs out).toArray.size = 32;simpa using hol) (by show 0 + (bcs out).toArray.size ≤ _;rw [List.size_toArray, hol];exact nble rfl) (List.all_eq_true.2 (bcs_one out)) (ybh (by show (bcs out).length = _;rw [hol];rfl)) rfl rfl ?_ ?_ ?_;(·(exact to_));(·(exact to_)))|refine t1_ ?_|(refine ta_ ?_;intro _)|((fail_if_success (refine ybi rfl ?_));refine ybj rfl ?_ ?_<;>(intro ht;rw [ht];first|replace ht := oet_ ht|replace ht := oef_ ht|skip))|(refine ych ?_;first|(refine ybw rfl ?_ ?_<;>intro ht)|(refine ybx rfl ?_ ?_<;>intro ht)))
  (refine ycn (ycp Tryz.func58 rfl (by kernel_rfl) rfl) (R1) rfl rfl rfl ?_ ?_; (· (exact to_)))
  repeat' (first|(refine ycf ?_;apply ybk;(·first|(first|exact tk_|(apply qv_eql_pnil<;>rfl)|(apply qv_nilCheck;rfl))|(apply yae;(·rfl);(·(first|exact hv.at hk32 (.inl ⟨rfl, rfl⟩)|exact hv.at hk32 (.inr (.inr (.inl ⟨rfl, rfl⟩)))|exact hv.at hk32 (.inr (.inr (.inr ⟨rfl, rfl⟩)))))));(·rfl);(·rfl))|(refine ybg 0 rfl rfl rfl (by show (bcs out).toArray.size = 32;simpa using hol) (by show 0 + (bcs out).toArray.size ≤ _;rw [List.size_toArray, hol];exact nble rfl) (List.all_eq_true.2 (bcs_one out)) (ybh (by show (bcs out).length = _;rw [hol];rfl)) rfl rfl ?_ ?_ ?_;(·(exact to_));(·(exact to_)))|refine t1_ ?_|(refine ta_ ?_;intro _)|((fail_if_success (refine ybi rfl ?_));refine ybj rfl ?_ ?_<;>(intro ht;rw [ht];first|replace ht := oet_ ht|replace ht := oef_ ht|skip))|(refine ych ?_;first|(refine ybw rfl ?_ ?_<;>intro ht)|(refine ybx rfl ?_ ?_<;>intro ht)))
  have hu0 : (mget (usL U) ((c, n) : UseK)).getD (.bool false) = .bool false := by rw [usL_get, if_neg hnew]; rfl
  refine cx_region_draw' rfl (by kernel_rfl) ?_
  repeat' (refine ycf ?_;(first|(first|(apply ybm;(·(first|(first|exact tk_|(apply qv_nilCheck;rfl)|(refine qv_lookup (a := ((c, n) : UseK)) 1 use_kl rfl rfl rfl hu0))|(apply yae;(·rfl);(·(first|exact hv.at hk32 (.inl ⟨rfl, rfl⟩)|exact hv.at hk32 (.inr (.inr (.inl ⟨rfl, rfl⟩)))|exact hv.at hk32 (.inr (.inr (.inr ⟨rfl, rfl⟩))))))|exact tq_));(·rfl);(·rfl);(·(exact th_)))|refine ybl rfl rfl ?_|((fail_if_success (refine ybi rfl ?_));refine ybj rfl ?_ ?_<;>(intro ht;rw [ht];first|replace ht := oet_ ht|replace ht := oef_ ht|skip))|(refine tb_ ?_ ?_ ?_;(·(exact to_));(·intro _;(exact to_));intro _)|(first|(refine ybg 0 rfl rfl rfl (by show (bcs out).toArray.size = 32;simpa using hol) (by show 0 + (bcs out).toArray.size ≤ _;rw [List.size_toArray, hol];exact nble rfl) (List.all_eq_true.2 (bcs_one out)) (ybh (by show (bcs out).length = _;rw [hol];rfl)) rfl rfl ?_ ?_ ?_;(·(exact to_));(·(exact to_)))|(refine tqs_ ?_ ?_ ?_;(·(exact to_));(·(exact to_))))|(apply ybn;(·(first|(first|exact tk_|(apply qv_nilCheck;rfl)|(refine qv_lookup (a := ((c, n) : UseK)) 1 use_kl rfl rfl rfl hu0))|(apply yae;(·rfl);(·(first|exact hv.at hk32 (.inl ⟨rfl, rfl⟩)|exact hv.at hk32 (.inr (.inr (.inl ⟨rfl, rfl⟩)))|exact hv.at hk32 (.inr (.inr (.inr ⟨rfl, rfl⟩))))))|exact tq_));(·rfl);(·rfl);(·rfl);(·(exact to_))))|refine ycg ?_))
  repeat' (first|(refine ycf ?_;apply ybk;(·first|(first|exact tk_|(apply qv_nilCheck;rfl))|(apply yae;(·rfl);(·(first|exact hv.at hk32 (.inl ⟨rfl, rfl⟩)|exact hv.at hk32 (.inr (.inr (.inl ⟨rfl, rfl⟩)))|exact hv.at hk32 (.inr (.inr (.inr ⟨rfl, rfl⟩)))))));(·rfl);(·rfl))|(refine ybg 0 rfl rfl rfl (by show (bcs out).toArray.size = 32;simpa using hol) (by show 0 + (bcs out).toArray.size ≤ _;rw [List.size_toArray, hol];exact nble rfl) (List.all_eq_true.2 (bcs_one out)) (ybh (by show (bcs out).length = _;rw [hol];rfl)) rfl rfl ?_ ?_ ?_;(·(exact to_));(·(exact to_)))|refine t1_ ?_|(refine ta_ ?_;intro _)|((fail_if_success (refine ybi rfl ?_));refine ybj rfl ?_ ?_<;>(intro ht;rw [ht];first|replace ht := oet_ ht|replace ht := oef_ ht|skip))|(refine ych ?_;first|(refine ybw rfl ?_ ?_<;>intro ht)|(refine ybx rfl ?_ ?_<;>intro ht)))
  refine cx_region_draw' rfl (by kernel_rfl) ?_
  repeat' (refine ycf ?_;(first|(first|(apply ybm;(·(first|(first|exact tk_|(apply qv_nilCheck;rfl))|(apply yae;(·rfl);(·(first|exact hv.at hk32 (.inl ⟨rfl, rfl⟩)|exact hv.at hk32 (.inr (.inr (.inl ⟨rfl, rfl⟩)))|exact hv.at hk32 (.inr (.inr (.inr ⟨rfl, rfl⟩))))))|exact tq_));(·rfl);(·rfl);(·(exact th_)))|refine ybl rfl rfl ?_|((fail_if_success (refine ybi rfl ?_));refine ybj rfl ?_ ?_<;>(intro ht;rw [ht];first|replace ht := oet_ ht|replace ht := oef_ ht|skip))|(refine tb_ ?_ ?_ ?_;(·(exact to_));(·intro _;(exact to_));intro _)|(first|(refine ybg 0 rfl rfl rfl (by show (bcs out).toArray.size = 32;simpa using hol) (by show 0 + (bcs out).toArray.size ≤ _;rw [List.size_toArray, hol];exact nble rfl) (List.all_eq_true.2 (bcs_one out)) (ybh (by show (bcs out).length = _;rw [hol];rfl)) rfl rfl ?_ ?_ ?_;(·(exact to_));(·(exact to_)))|(refine tqs_ ?_ ?_ ?_;(·(exact to_));(·(exact to_))))|(apply ybn;(·(first|(first|exact tk_|(apply qv_nilCheck;rfl))|(apply yae;(·rfl);(·(first|exact hv.at hk32 (.inl ⟨rfl, rfl⟩)|exact hv.at hk32 (.inr (.inr (.inl ⟨rfl, rfl⟩)))|exact hv.at hk32 (.inr (.inr (.inr ⟨rfl, rfl⟩))))))|exact tq_));(·rfl);(·rfl);(·rfl);(·(exact to_))))|refine ycg ?_))
  refine rx_mapUpdate (a := ((c, n) : UseK)) 1 use_kl rfl rfl rfl rfl rfl rfl ?_ ?_ ?_
  · (exact to_)
  · exact .inr (by kernel_rfl)
  rw [usL_put hnew]
  generalize hU3 : U ++ [((c, n) : UseK)] = U2
  repeat' (refine ycf ?_;(first|(first|(apply ybm;(·(first|(first|exact tk_|(apply qv_nilCheck;rfl))|(apply yae;(·rfl);(·(first|exact hv.at hk32 (.inl ⟨rfl, rfl⟩)|exact hv.at hk32 (.inr (.inr (.inl ⟨rfl, rfl⟩)))|exact hv.at hk32 (.inr (.inr (.inr ⟨rfl, rfl⟩))))))|exact tq_));(·rfl);(·rfl);(·(exact th_)))|refine ybl rfl rfl ?_|((fail_if_success (refine ybi rfl ?_));refine ybj rfl ?_ ?_<;>(intro ht;rw [ht];first|replace ht := oet_ ht|replace ht := oef_ ht|skip))|(refine tb_ ?_ ?_ ?_;(·(exact to_));(·intro _;(exact to_));intro _)|(first|(refine ybg 0 rfl rfl rfl (by show (bcs out).toArray.size = 32;simpa using hol) (by show 0 + (bcs out).toArray.size ≤ _;rw [List.size_toArray, hol];exact nble rfl) (List.all_eq_true.2 (bcs_one out)) (ybh (by show (bcs out).length = _;rw [hol];rfl)) rfl rfl ?_ ?_ ?_;(·(exact to_));(·(exact to_)))|(refine tqs_ ?_ ?_ ?_;(·(exact to_));(·(exact to_))))|(apply ybn;(·(first|(first|exact tk_|(apply qv_nilCheck;rfl))|(apply yae;(·rfl);(·(first|exact hv.at hk32 (.inl ⟨rfl, rfl⟩)|exact hv.at hk32 (.inr (.inr (.inl ⟨rfl, rfl⟩)))|exact hv.at hk32 (.inr (.inr (.inr ⟨rfl, rfl⟩))))))|exact tq_));(·rfl);(·rfl);(·rfl);(·(exact to_))))|refine ycg ?_))
  repeat' (first|(refine ycf ?_;apply ybk;(·first|(first|exact tk_|(apply qv_nilCheck;rfl))|(apply yae;(·rfl);(·(first|exact hv.at hk32 (.inl ⟨rfl, rfl⟩)|exact hv.at hk32 (.inr (.inr (.inl ⟨rfl, rfl⟩)))|exact hv.at hk32 (.inr (.inr (.inr ⟨rfl, rfl⟩)))))));(·rfl);(·rfl))|(refine ybg 0 rfl rfl rfl (by show (bcs out).toArray.size = 32;simpa using hol) (by show 0 + (bcs out).toArray.size ≤ _;rw [List.size_toArray, hol];exact nble rfl) (List.all_eq_true.2 (bcs_one out)) (ybh (by show (bcs out).length = _;rw [hol];rfl)) rfl rfl ?_ ?_ ?_;(·(exact to_));(·(exact to_)))|refine t1_ ?_|(refine ta_ ?_;intro _)|((fail_if_success (refine ybi rfl ?_));refine ybj rfl ?_ ?_<;>(intro ht;rw [ht];first|replace ht := oet_ ht|replace ht := oef_ ht|skip))|(refine ych ?_;first|(refine ybw rfl ?_ ?_<;>intro ht)|(refine ybx rfl ?_ ?_<;>intro ht)))
  (refine ycn (ycp Tryz.func59 rfl (by kernel_rfl) rfl) (K1) rfl rfl rfl ?_ ?_; (· (exact to_)))
  repeat' (first|(refine ycf ?_;apply ybk;(·first|(first|exact tk_|(apply yad;(·rfl);(·exact yaz 1 rfl);(·exact hok1))|(apply yad;(·rfl);(·exact yaz 0 rfl);(·exact hon))));(·rfl);(·rfl))|(first|(refine ybg 1 rfl rfl rfl (by show (bcs kk).toArray.size = 32;simpa using hok1) (by show 0 + (bcs kk).toArray.size ≤ _;rw [List.size_toArray, hok1];exact nble rfl) (List.all_eq_true.2 (bcs_one kk)) (ybh (by show (bcs kk).length = _;rw [hok1];rfl)) rfl rfl ?_ ?_ ?_;(·(exact to_));(·(exact to_)))|(refine ybg 0 rfl rfl rfl (by show (bcs nn).toArray.size = 12;simpa using hon) (by show 0 + (bcs nn).toArray.size ≤ _;rw [List.size_toArray, hon];exact nble rfl) (List.all_eq_true.2 (bcs_one nn)) (ybh (by show (bcs nn).length = _;rw [hon];rfl)) rfl rfl ?_ ?_ ?_;(·(exact to_));(·(exact to_))))|refine t1_ ?_|(refine ta_ ?_;intro _)|((fail_if_success (refine ybi rfl ?_));refine ybj rfl ?_ ?_<;>(intro ht;rw [ht];first|replace ht := oet_ ht|replace ht := oef_ ht|skip))|(refine ych ?_;first|(refine ybw rfl ?_ ?_<;>intro ht)|(refine ybx rfl ?_ ?_<;>intro ht)))
  (refine yco (ycp Tryz.func60 rfl (by kernel_rfl) rfl) (S1) rfl rfl rfl ?_ ?_ ?_; (· (exact to_)); (· intro _ _ hle; (exact to_)); intro x px hle)
  repeat' (first|(refine ycf ?_;apply ybk;(·first|exact tk_);(·rfl);(·rfl))|refine t1_ ?_|(refine ta_ ?_;intro _)|((fail_if_success (refine ybi rfl ?_));refine ybj rfl ?_ ?_<;>(intro ht;rw [ht];first|replace ht := oet_ ht|replace ht := oef_ ht|skip))|(refine ych ?_;first|(refine ybw rfl ?_ ?_<;>intro ht)|(refine ybx rfl ?_ ?_<;>intro ht)))
  refine nx_ret2 rfl (rv_tmp rfl) (rv_tmp rfl) (fun w' s' => ⟨x, rfl, ?_, trivial⟩)
  exact s'.picks [0, 3]
def nameX (idl : Bool) (key : List Int) (N : List (List Int)) (nm : List Int) : List Int := if idl then blindF key N nm else blindR key nm
def addX (idl : Bool) (N : List (List Int)) (nm : List Int) : List (List Int) := if idl then addN N nm else N
def sealX (idl : Bool) (key : List Int) (U : List UseK) (ep c n : Int) (wi b : List Int) : List Int := if idl then sealF key U b else sealR key ep c n wi b
def tabX (idl : Bool) (T : Tab) (x : SeaK × Value × List Int) : Tab := if idl then T ++ [x] else T
theorem nameX_len (idl : Bool) (key : List Int) (N : List (List Int)) (nm : List Int) : (nameX idl key N nm).length = 32 := by
  cases idl
  · exact blindR_len _ _
  · exact drawF_len _ _ _ _ (by omega)
theorem nameX_by (idl : Bool) (key : List Int) (N : List (List Int)) (nm : List Int) : Bytes (nameX idl key N nm) := by
  cases idl
  · exact blindR_by _ _
  · exact drawF_by _ _ _ _
theorem sealX_len (idl : Bool) (key : List Int) (U : List UseK) (ep c n : Int) (wi b : List Int) : (sealX idl key U ep c n wi b).length = b.length + 16 := by
  cases idl
  · exact sealR_len _ _ _ _ _ _
  · exact drawF_len _ _ _ _ (by omega)
theorem BlindX_sp (idl : Bool) (bv : Nat) (key : List Int) (bn bu bt : Nat) (N : List (List Int)) (v : Value) (nm : List Int) (hk : Bytes key) (hk32 : key.length = 32) (hN : Names N) (hNl : N.length < 900000) (hx : Bytes nm) (hxl : 1 ≤ nm.length ∧ nm.length ≤ 64) (h : View) (hv : Vb h bv idl key bn bu bt) (hs : Bs8 h v nm) (hg : ShG h) (w : World) (s : St ⟨w, h, doms [nmR bn N]⟩ h [nmR bn N] w) :
    Calls Tryz.prog 37 [.pointer (some ⟨bv, 0, none⟩), v].toArray w fun e w' => ∃ _ : Unit, e = .returned (.tuple #[.agg (bcs (nameX idl key N nm)).toArray, .int .i64 0]) ∧ St ⟨w, h, doms [nmR bn N]⟩ h [nmR bn (addX idl N nm)] w' ∧ True := by
  cases idl
  · exact (calls_frame0 (BlindR_sp bv key bn bu bt v nm hk hk32 hx hxl h hv hs hg) s).mono fun e w' he => ⟨(), he.1, he.2, trivial⟩
  · exact Blind_sp bv key bn bu bt N v nm hk hk32 hN hNl hx hxl h hv hs w s
theorem VSealX_sp (idl : Bool) (bv : Nat) (key : List Int) (bn bu bt : Nat) (U : List UseK) (T : Tab) (ep c n : Int) (vw vb : Value) (wi b : List Int) (hk : Bytes key) (hk32 : key.length = 32) (hU : U.length < 900000) (hT : Held U T) (hok : sealOk ep c n) (hnew : (c, n) ∉ U) (hwl : wi.length ≤ 400000) (hbl : b.length ≤ 5000) (yw : Bytes wi) (yb : Bytes b)
    (h : View) (hv : Vb h bv idl key bn bu bt) (hw : Bs8 h vw wi) (hb : Bs8 h vb b) (hg : ShG h) (w : World) (s : St ⟨w, h, doms [usR bu U, tbR bt T]⟩ h [usR bu U, tbR bt T] w) :
    Calls Tryz.prog 41 [.pointer (some ⟨bv, 0, none⟩), .int .i64 ep, .int .i64 c, .int .i64 n, vw, vb].toArray w fun e w' => ∃ x : View × Value × Value, e = .returned (.tuple #[x.2.1, .int .i64 0]) ∧
      St ⟨w, h, doms [usR bu U, tbR bt T]⟩ x.1 [rowB x.2.1 (sealX idl key U ep c n wi b), usR bu (U ++ [(c, n)]), tbR bt (tabX idl T ((c, n, ep, bstr wi, bstr (sealX idl key U ep c n wi b)), x.2.2, b))] w' ∧ Bs8 x.1 x.2.2 b := by
  cases idl
  · refine (calls_frame (X := Value) (Li := [usR bu U]) (Lr := [tbR bt T]) (hh := fun _ => h) (LL := fun x => [rowB x (sealR key ep c n wi b), usR bu (U ++ [(c, n)])]) (List.Perm.refl _) (VSealR_sp bv key bn bu bt U ep c n vw vb wi b hk hk32 hok hnew hwl hbl yw yb h hv hw hb hg) s).mono fun e w' he => ?_
    obtain ⟨x, h1, h2, _⟩ := he
    exact ⟨(h, x, vb), h1, h2, hb⟩
  · exact VSeal_sp bv key bn bu bt U T ep c n vw vb wi b hk hk32 hU hT hok hnew hbl h hv hw hb w s
end Go.Proofs.YtaofgcahmfailaaGreatDoor
end

section
namespace Go.Ck
open Go
theorem cx_region_drawW {P : Program} {n : Nat} {K : Bs} {F : List (Nat × Value)} {h : View} {L : List Res} {Q : Exit → Act → World → Prop} {id : Nat} {ops : Array Oper} (LS : List Res) (lou : List Nat) (hm : P.follows .mixedOrders = true) (hB : lexOkAt ops (masks ops) (fun i => lou.contains i) (barOf ops) = true)
    (hx : RX P n K ⟨ops, Hd h LS, fun i => lou.contains i, barOf ops⟩ (enumFrom 0 ops.toList) F h L Q) : CX P n K (.region id ops true) F h L Q := by
  unfold CX
  unfold RX at hx
  exact fun a w f s => wp_region_lexL hm hB (hx a w.drew ⟨f.size, f.dfs, f.get⟩ s.drew)
end Go.Ck
namespace Go.Proofs.YtaofgcahmfailaaGreatDoor
open Go Go.Ck
set_option maxHeartbeats 4000000
def clc (id : Int) (bv : Nat) (ep ct : Int) (bm : Nat) : List Value := [.int .i64 id, .pointer (some ⟨bv, 0, none⟩), .int .i64 ep, .int .i64 ct, .map (some bm)]
abbrev clR (b : Nat) (id : Int) (bv : Nat) (ep ct : Int) (bm : Nat) : Res := Res.blk b (.cells (clc id bv ep ct bm).toArray 84 (0, 0))
abbrev cmR (bm : Nat) (K : List (ByteArray × Value)) : Res := Res.mp Value.string bm K
theorem CNew_sp (id : Int) (hid : 1 ≤ id ∧ id ≤ 16) (bv : Nat) (h : View) (w : World) (s : St ⟨w, h, []⟩ h [] w) :
    Calls Tryz.prog 7 [.int .i64 id, .pointer (some ⟨bv, 0, none⟩)].toArray w fun e w' => ∃ x : Nat × Nat, e = .returned (.tuple #[.pointer (some ⟨x.1, 0, none⟩), .int .i64 0]) ∧
      St ⟨w, h, []⟩ h [clR x.1 id bv 1 0 x.2, cmR x.2 []] w' ∧ True := by
  refine calls_enter Tryz.func7 rfl Tryz.ntmps7 rfl s ?_
  repeat' (first|(refine ycf ?_;apply ybk;(·first|(first|exact tk_|(apply qv_eql_pnil<;>rfl)));(·rfl);(·rfl))|refine t1_ ?_|(refine ta_ ?_;intro _)|((fail_if_success (refine ybi rfl ?_));refine ybj rfl ?_ ?_<;>(intro ht;rw [ht];first|replace ht := oet_ ht|replace ht := oef_ ht|skip))|(refine ych ?_;first|(refine ybw rfl ?_ ?_<;>intro ht)|(refine ybx rfl ?_ ?_<;>intro ht)))
  refine yba ma_makeMap rfl rfl rfl ybf (fun _ => ybf) ?_
  intro bm
  repeat' (first|(refine ycf ?_;apply ybk;(·first|(first|exact tk_|(apply qv_eql_pnil<;>rfl)));(·rfl);(·rfl))|refine t1_ ?_|(refine ta_ ?_;intro _)|((fail_if_success (refine ybi rfl ?_));refine ybj rfl ?_ ?_<;>(intro ht;rw [ht];first|replace ht := oet_ ht|replace ht := oef_ ht|skip))|(refine ych ?_;first|(refine ybw rfl ?_ ?_<;>intro ht)|(refine ybx rfl ?_ ?_<;>intro ht)))
  rename_i b
  refine nx_ret2 rfl (rv_tmp rfl) (rv_tmp rfl) (fun w' s' => ⟨(b, bm), rfl, s'.mpOf Value.string (k := 1) rfl, trivial⟩)
theorem Sealed_sp (b : Nat) (id : Int) (bv : Nat) (ep ct : Int) (bm : Nat) (h : View) (w : World) (s : St ⟨w, h, doms [clR b id bv ep ct bm]⟩ h [clR b id bv ep ct bm] w) :
    Calls Tryz.prog 10 [.pointer (some ⟨b, 0, none⟩)].toArray w fun e w' => ∃ _ : Unit, e = .returned (.int .i64 ct) ∧ St ⟨w, h, doms [clR b id bv ep ct bm]⟩ h [clR b id bv ep ct bm] w' ∧ True := by
  refine calls_enter Tryz.func10 rfl Tryz.ntmps10 rfl s ?_
  repeat' (first|(refine ycf ?_;apply ybk;(·first|(first|exact tk_|(apply qv_eql_pnil<;>rfl)));(·rfl);(·rfl))|refine t1_ ?_|(refine ta_ ?_;intro _)|((fail_if_success (refine ybi rfl ?_));refine ybj rfl ?_ ?_<;>(intro ht;rw [ht];first|replace ht := oet_ ht|replace ht := oef_ ht|skip))|(refine ych ?_;first|(refine ybw rfl ?_ ?_<;>intro ht)|(refine ybx rfl ?_ ?_<;>intro ht)))
  exact nx_ret1 rfl (rv_tmp rfl) (fun w' s' => ⟨(), rfl, s', trivial⟩)
end Go.Proofs.YtaofgcahmfailaaGreatDoor
end

section
namespace Go.Proofs.YtaofgcahmfailaaGreatDoor
open Go Go.Ck
set_option maxHeartbeats 4000000
def numK (K : List (ByteArray × Value)) (nm : List Int) (n : Int) : Prop := (mget K (bstr nm)).getD (.int .i64 0) = .int .i64 n
def hasX (u : List Int) (l : List Dt) (d : Dt) : Bool := decide (checkC u l = 0) && rightB d && hasC u l d
def headE (u : List Int) (l : List Dt) (d : Dt) : Int := if checkC u l = 0 then (if hasX u l d = true then 11 else 0) else checkC u l
def zHdr : Hdr := ⟨0, 0, 0, 0, []⟩
theorem tmm_ {p : Prop} (h : p := by (first|exact List.mem_of_getElem? (i := 0) rfl | exact List.mem_of_getElem? (i := 1) rfl | exact List.mem_of_getElem? (i := 2) rfl | exact List.mem_of_getElem? (i := 3) rfl | exact List.mem_of_getElem? (i := 4) rfl | exact List.mem_of_getElem? (i := 5) rfl | exact List.mem_of_getElem? (i := 6) rfl | exact List.mem_of_getElem? (i := 7) rfl | exact List.mem_of_getElem? (i := 8) rfl | exact List.mem_of_getElem? (i := 9) rfl)) : p := h
theorem hd_two {h : View} {L : List Res} {A B : Res} (ha : A ∈ L) (hb : B ∈ L) : ∀ w, Hd h L w → Hd h [A, B] w := fun w s => Hd.sub s (Le.refl _) (fun r hr => by
  rcases List.mem_cons.1 hr with rfl | hr
  · exact ha
  · rw [List.mem_singleton.1 hr]; exact hb)
theorem head_sp (b : Nat) (id : Int) (bv : Nat) (ep ct : Int) (bm : Nat) (K : List (ByteArray × Value)) (nm : List Int) (n : Int) (u : List Int) (l : List Dt) (vn cv : Value) (hid : 1 ≤ id ∧ id ≤ 16) (hn0 : 0 ≤ n ∧ n < 1000000) (hct : 0 ≤ ct ∧ ct < 1000000) (hK : numK K nm n) (hl : l.length ≤ 4611686018427387904)
    (h : View) (hsn : Bs8 h vn nm) (hc : Cx h cv u l) (w : World) (s : St ⟨w, h, doms [clR b id bv ep ct bm, cmR bm K]⟩ h [clR b id bv ep ct bm, cmR bm K] w) :
    Calls Tryz.prog 24 [.pointer (some ⟨b, 0, none⟩), vn, cv].toArray w fun e w' => ∃ y : View × Value, e = .returned (.tuple #[.agg (if headE u l (id, n + 1) = 0 then hdc ⟨ep, ct + 1, id, n + 1, encW u l⟩ y.2 else hdc zHdr (.slice none 0 0)).toArray, .int .i64 (headE u l (id, n + 1))]) ∧
      St ⟨w, h, doms [clR b id bv ep ct bm, cmR bm K]⟩ y.1 [clR b id bv ep ct bm, cmR bm K] w' ∧ (headE u l (id, n + 1) = 0 → Bs8 y.1 y.2 (encW u l)) := by
  have hc' := hc
  obtain ⟨hu, mv, rfl, hs⟩ := hc
  refine calls_enter Tryz.func24 rfl Tryz.ntmps24 rfl s ?_
  repeat' (first|refine tw_ ?_|(refine ta_ ?_;intro _)|((fail_if_success (refine ybi rfl ?_));refine ybj rfl ?_ ?_<;>(intro ht;rw [ht];first|replace ht := oet_ ht|replace ht := oef_ ht|skip))|(refine ych ?_;first|(refine ybw rfl ?_ ?_<;>intro ht)|(refine ybx rfl ?_ ?_<;>intro ht)))
  refine cx_region_drawY [13, 14] rfl (by kernel_rfl) ?_
  repeat' (refine ycf ?_;(first|(first|(apply ybm;(·(first|(first|exact tk_|(refine qv_str_bs rfl hsn)|(refine qv_lookup 3 string_kl rfl rfl rfl hK))|(apply yae;(·rfl);(·(first|exact yay 2 rfl rfl)))|exact tq_));(·rfl);(·rfl);(·(exact th_)))|refine ybl rfl rfl ?_|((fail_if_success (refine ybi rfl ?_));refine ybj rfl ?_ ?_<;>(intro ht;rw [ht];first|replace ht := oet_ ht|replace ht := oef_ ht|skip))|(refine tb_ ?_ ?_ ?_;(·(exact to_));(·intro _;(exact to_));intro _)|(first|(refine tqs_ ?_ ?_ ?_;(·(exact to_));(·(exact to_))))|(apply ybn;(·(first|(first|exact tk_|(refine qv_str_bs rfl hsn)|(refine qv_lookup 3 string_kl rfl rfl rfl hK))|(apply yae;(·rfl);(·(first|exact yay 2 rfl rfl)))|exact tq_));(·rfl);(·rfl);(·rfl);(·(exact to_))))|refine ycg ?_))
  repeat' (first|(refine ycf ?_;apply ybk;(·first|(first|exact tk_|(apply yad;(·rfl);(·exact yaz 2 rfl);(·exact ycj hu)))|(apply yae;(·rfl);(·(first|exact yay 2 rfl rfl))));(·rfl);(·rfl))|refine t1_ ?_|(refine ta_ ?_;intro _)|((fail_if_success (refine ybi rfl ?_));refine ybj rfl ?_ ?_<;>(intro ht;rw [ht];first|replace ht := oet_ ht|replace ht := oef_ ht|skip))|(refine ych ?_;first|(refine ybw rfl ?_ ?_<;>intro ht)|(refine ybx rfl ?_ ?_<;>intro ht)))
  (refine yco (ycp Tryz.func32 rfl (by kernel_rfl) rfl) (Write_sp _ u l h hc' hl) rfl rfl rfl ?_ ?_ ?_; (· (exact to_)); (· intro _ _ hle; (exact to_)); intro x px hle)
  obtain ⟨h1, vp⟩ := x
  dsimp only at px hle ⊢
  have hle1 : Le h h1 := hle
  clear hle
  rename_i bx bh bd
  have hc1 := hc'.mono hle1
  have e0 : headE u l (id, n + 1) = if checkC u l = 0 then (if hasX u l (id, n + 1) = true then 11 else 0) else checkC u l := rfl
  by_cases hk0 : checkC u l = 0
  · rw [if_pos hk0] at e0 px
    have H1 := Has_sp _ u l (id, n + 1) h1 hc1 hl
    have ehx : (decide (checkC u l = 0) && rightB (id, n + 1) && hasC u l (id, n + 1)) = hasX u l (id, n + 1) := rfl
    rw [ehx] at H1
    rw [hk0]
    obtain ⟨_, adp, capp, rfl, hcapp, _⟩ := (show Bs8 h1 vp (encW u l) from px)
    generalize hasX u l (id, n + 1) = hx at H1 e0
    cases hx with
    | true =>
      rw [if_pos rfl] at e0
      rw [e0]
      repeat' (first|(refine ycf ?_;apply ybk;(·first|(first|exact tk_|(apply yad;(·rfl);(·exact yaz 2 rfl);(·exact ycj hu))|(apply yad;(·rfl);(·exact yaz 0 rfl);(·rfl)))|(apply yae;(·rfl);(·(first|exact yay 3 rfl rfl))));(·rfl);(·rfl))|refine t1_ ?_|(refine ta_ ?_;intro _)|((fail_if_success (refine ybi rfl ?_));refine ybj rfl ?_ ?_<;>(intro ht;rw [ht];first|replace ht := oet_ ht|replace ht := oef_ ht|skip))|(refine ych ?_;first|(refine ybw rfl ?_ ?_<;>intro ht)|(refine ybx rfl ?_ ?_<;>intro ht)))
      (refine ycn (ycp Tryz.func33 rfl (by kernel_rfl) rfl) (H1) rfl rfl rfl ?_ ?_; (· (exact to_)))
      repeat' (first|(refine ycf ?_;apply ybk;(·first|(first|exact tk_|(apply yad;(·rfl);(·exact yaz 2 rfl);(·exact ycj hu))|(apply yad;(·rfl);(·exact yaz 0 rfl);(·rfl)))|(apply yae;(·rfl);(·(first|exact yay 3 rfl rfl))));(·rfl);(·rfl))|refine t1_ ?_|(refine ta_ ?_;intro _)|((fail_if_success (refine ybi rfl ?_));refine ybj rfl ?_ ?_<;>(intro ht;rw [ht];first|replace ht := oet_ ht|replace ht := oef_ ht|skip))|(refine ych ?_;first|(refine ybw rfl ?_ ?_<;>intro ht)|(refine ybx rfl ?_ ?_<;>intro ht)))
      exact nx_ret2 rfl (rv_cells rfl (yaz 1 rfl) rfl) (rv_tmp rfl) (fun w' s' => ⟨(h1, .slice none 0 0), rfl, s'.picks [3, 3], fun e => absurd e (by decide)⟩)
    | false =>
      rw [if_neg (by simp)] at e0
      rw [e0]
      repeat' (first|(refine ycf ?_;apply ybk;(·first|(first|exact tk_|(apply yad;(·rfl);(·exact yaz 2 rfl);(·exact ycj hu))|(apply yad;(·rfl);(·exact yaz 0 rfl);(·rfl)))|(apply yae;(·rfl);(·(first|exact yay 3 rfl rfl))));(·rfl);(·rfl))|refine t1_ ?_|(refine ta_ ?_;intro _)|((fail_if_success (refine ybi rfl ?_));refine ybj rfl ?_ ?_<;>(intro ht;rw [ht];first|replace ht := oet_ ht|replace ht := oef_ ht|skip))|(refine ych ?_;first|(refine ybw rfl ?_ ?_<;>intro ht)|(refine ybx rfl ?_ ?_<;>intro ht)))
      (refine ycn (ycp Tryz.func33 rfl (by kernel_rfl) rfl) (H1) rfl rfl rfl ?_ ?_; (· (exact to_)))
      repeat' (first|(refine ycf ?_;apply ybk;(·first|(first|exact tk_|(apply yad;(·rfl);(·exact yaz 2 rfl);(·exact ycj hu))|(apply yad;(·rfl);(·exact yaz 0 rfl);(·rfl)))|(apply yae;(·rfl);(·(first|exact yay 3 rfl rfl))));(·rfl);(·rfl))|refine t1_ ?_|(refine ta_ ?_;intro _)|((fail_if_success (refine ybi rfl ?_));refine ybj rfl ?_ ?_<;>(intro ht;rw [ht];first|replace ht := oet_ ht|replace ht := oef_ ht|skip))|(refine ych ?_;first|(refine ybw rfl ?_ ?_<;>intro ht)|(refine ybx rfl ?_ ?_<;>intro ht)))
      refine cx_perm (L' := [Res.blk bd (.cells (dcs (id, n + 1)).toArray 45 (0, 0)), Res.blk bh (.cells (hdc zHdr (.slice none 0 0)).toArray 86 (0, 0)), Res.blk bx (.cells (cxc u mv).toArray 42 (0, 0)), clR b id bv ep ct bm, cmR bm K]) (.refl _) ?_
      refine cx_region_drawW [Res.blk bd (.cells (dcs (id, n + 1)).toArray 45 (0, 0)), clR b id bv ep ct bm] [12] rfl (by kernel_rfl) ?_
      repeat' (refine ycf ?_;(first|(first|(apply ybm;(·(first|(first|exact tk_|(apply yad;(·rfl);(·exact yaz 0 rfl);(·rfl)))|(apply yae;(·rfl);(·(first|exact yay 1 rfl rfl)))|exact tq_));(·rfl);(·rfl);(·(exact hd_two tmm_ tmm_)))|refine ybl rfl rfl ?_|((fail_if_success (refine ybi rfl ?_));refine ybj rfl ?_ ?_<;>(intro ht;rw [ht];first|replace ht := oet_ ht|replace ht := oef_ ht|skip))|(refine tb_ ?_ ?_ ?_;(·(first|exact ybf|(refine .inl ?_;(exact hd_two tmm_ tmm_))|exact to_));(·intro _;(first|exact ybf|(refine .inl ?_;(exact hd_two tmm_ tmm_))|exact to_));intro _)|(first|(refine tqs_ ?_ ?_ ?_;(·(first|exact ybf|(refine .inl ?_;(exact hd_two tmm_ tmm_))|exact to_));(·(first|exact ybf|(refine .inl ?_;(exact hd_two tmm_ tmm_))|exact to_))))|(apply ybn;(·(first|(first|exact tk_|(apply yad;(·rfl);(·exact yaz 0 rfl);(·rfl)))|(apply yae;(·rfl);(·(first|exact yay 1 rfl rfl)))|exact tq_));(·rfl);(·rfl);(·rfl);(·(first|exact ybf|(refine .inl ?_;(exact hd_two tmm_ tmm_))|exact to_))))|refine ycg ?_))
      repeat' (first|(refine ycf ?_;apply ybk;(·first|(first|exact tk_|(apply yad;(·rfl);(·exact yaz 0 rfl);(·rfl)))|(apply yae;(·rfl);(·(first|exact yay 1 rfl rfl))));(·rfl);(·rfl))|refine t1_ ?_|(refine ta_ ?_;intro _)|((fail_if_success (refine ybi rfl ?_));refine ybj rfl ?_ ?_<;>(intro ht;rw [ht];first|replace ht := oet_ ht|replace ht := oef_ ht|skip))|(refine ych ?_;first|(refine ybw rfl ?_ ?_<;>intro ht)|(refine ybx rfl ?_ ?_<;>intro ht)))
      exact nx_ret2 rfl (rv_cells (vs := hdc ⟨ep, ct + 1, id, n + 1, encW u l⟩ (.slice adp (encW u l).length capp)) rfl (yaz 1 rfl) rfl) (rv_tmp rfl) (fun w' s' => ⟨(h1, .slice adp (encW u l).length capp), rfl, s'.picks [3, 3], fun _ => px⟩)
  · rw [if_neg hk0] at e0
    rw [e0]
    repeat' (first|(refine ycf ?_;apply ybk;(·first|(exact tk_)|(apply yae;(·rfl);(·(first|exact yay 1 rfl rfl))));(·rfl);(·rfl))|refine t1_ ?_|(refine ta_ ?_;intro _)|((fail_if_success (refine ybi rfl ?_));refine ybj rfl ?_ ?_<;>(intro ht;rw [ht];first|replace ht := oet_ ht|replace ht := oef_ ht|skip))|(refine ych ?_;first|(refine ybw rfl ?_ ?_<;>intro ht)|(refine ybx rfl ?_ ?_<;>intro ht)))
    refine nx_ret2 rfl (rv_cells rfl (yaz 1 rfl) rfl) (rv_tmp rfl) (fun w' s' => ⟨(h1, .slice none 0 0), ?_, s'.picks [3, 3], fun e => absurd e hk0⟩)
    rw [if_neg hk0]
    rfl
end Go.Proofs.YtaofgcahmfailaaGreatDoor
end

section
namespace Go.Proofs.YtaofgcahmfailaaGreatDoor
open Go Go.Ck
set_option maxHeartbeats 4000000
def fixC (s : RS) (n : Nat) : List Int × RS := if s.2 ≠ 0 then ([], s) else if s.1.length < n then ([], (s.1, 3)) else (s.1.take n, (s.1.drop n, 0))
theorem RsOk.fix {s : RS} (h : RsOk s) (n : Nat) : RsOk (fixC s n).2 ∧ Bytes (fixC s n).1 ∧ (fixC s n).1.length ≤ n := by
  unfold fixC
  split
  · exact ⟨h, (fun x hx => (by cases hx)), by simp⟩
  · split
    · exact ⟨⟨h.1, h.2⟩, (fun x hx => (by cases hx)), by simp⟩
    · refine ⟨⟨bytes_drop h.1 n, ?_⟩, bytes_take h.1 n, by simp; omega⟩
      have := h.2
      show (s.1.drop n).length ≤ 1000000
      rw [List.length_drop]
      omega
theorem InFixed_sp (bi : Nat) (v : Value) (l : List Int) (e : Int) (n : Nat) (hb : Bytes l) (hn : n ≤ 1000000) (hl : l.length ≤ 1000000) (h : View) (hv : Bs8 h v l) (w : World) (s : St ⟨w, h, doms [inR bi v e]⟩ h [inR bi v e] w) :
    Calls Tryz.prog 63 [.pointer (some ⟨bi, 0, none⟩), .int .i64 n].toArray w fun en w' => ∃ x : View × Value × Value, en = .returned x.2.1 ∧ St ⟨w, h, doms [inR bi v e]⟩ x.1 [inR bi x.2.2 (fixC (l, e) n).2.2] w' ∧ (Bs8 x.1 x.2.1 (fixC (l, e) n).1 ∧ Bs8 x.1 x.2.2 (fixC (l, e) n).2.1) := by
  refine calls_enter Tryz.func63 rfl Tryz.ntmps63 rfl s ?_
  unfold fixC
  dsimp only
  by_cases he : e = 0
  · subst he
    rw [if_neg (by simp)]
    have hdead := dead_sp bi v 0 h
    rw [show decide ((0 : Int) ≠ 0) = false by decide] at hdead
    repeat' (first|(refine ycf ?_;apply ybk;(·first|(exact tk_));(·rfl);(·rfl))|refine t1_ ?_|(refine ta_ ?_;intro _)|((fail_if_success (refine ybi rfl ?_));refine ybj rfl ?_ ?_<;>(intro ht;rw [ht];first|replace ht := oet_ ht|replace ht := oef_ ht|skip))|(refine ych ?_;first|(refine ybw rfl ?_ ?_<;>intro ht)|(refine ybx rfl ?_ ?_<;>intro ht)))
    (refine rx_call_m (ycp Tryz.func79 rfl (by kernel_rfl) rfl) (perm_at (k := 0) rfl) (hdead) rfl rfl rfl ?_ ?_ ?_; (· (exact to_)); (· intro _ _ hle; (exact to_)); intro x px hle)
    obtain ⟨_, ad, cap, rfl, hcap, _⟩ := id hv
    by_cases hN : l.length < n
    · rw [if_pos hN]
      repeat' (first|(refine ycf ?_;apply ybk;(·first|(first|exact tk_|(apply qv_nilCheck;rfl)));(·rfl);(·rfl))|refine t1_ ?_|(refine ta_ ?_;intro _)|((fail_if_success (refine ybi rfl ?_));refine ybj rfl ?_ ?_<;>(intro ht;rw [ht];first|replace ht := oet_ ht|replace ht := oef_ ht|skip))|(refine ych ?_;first|(refine ybw rfl ?_ ?_<;>intro ht)|(refine ybx rfl ?_ ?_<;>intro ht)))
      exact nx_ret1 rfl (rv_tmp rfl) (fun w' s' => ⟨(h, .slice none 0 0, .slice ad l.length cap), rfl, s', Sc.nil h 1 none 0, hv⟩)
    · rw [if_neg hN]
      repeat' (first|(refine ycf ?_;apply ybk;(·first|(first|exact tk_|(apply qv_nilCheck;rfl)));(·rfl);(·rfl))|refine t1_ ?_|(refine ta_ ?_;intro _)|((fail_if_success (refine ybi rfl ?_));refine ybj rfl ?_ ?_<;>(intro ht;rw [ht];first|replace ht := oet_ ht|replace ht := oef_ ht|skip))|(refine ych ?_;first|(refine ybw rfl ?_ ?_<;>intro ht)|(refine ybx rfl ?_ ?_<;>intro ht)))
      (refine rx_call_m (ycp Tryz.func80 rfl (by kernel_rfl) rfl) (perm_at (k := 0) rfl) (skipr_sp bi _ l 0 n (by omega) hl h hv) rfl rfl rfl ?_ ?_ ?_; (· (exact to_)); (· intro _ _ hle; (exact to_)); intro x px hle)
      repeat' (first|(refine ycf ?_;apply ybk;(·first|(first|exact tk_|(apply qv_nilCheck;rfl)));(·rfl);(·rfl))|refine t1_ ?_|(refine ta_ ?_;intro _)|((fail_if_success (refine ybi rfl ?_));refine ybj rfl ?_ ?_<;>(intro ht;rw [ht];first|replace ht := oet_ ht|replace ht := oef_ ht|skip))|(refine ych ?_;first|(refine ybw rfl ?_ ?_<;>intro ht)|(refine ybx rfl ?_ ?_<;>intro ht)))
      exact nx_ret1 rfl (rv_tmp rfl) (fun w' s' => ⟨x, rfl, s', px⟩)
  · rw [if_pos he]
    have hdead := dead_sp bi v e h
    rw [decide_eq_true he] at hdead
    repeat' (first|(refine ycf ?_;apply ybk;(·first|(exact tk_));(·rfl);(·rfl))|refine t1_ ?_|(refine ta_ ?_;intro _)|((fail_if_success (refine ybi rfl ?_));refine ybj rfl ?_ ?_<;>(intro ht;rw [ht];first|replace ht := oet_ ht|replace ht := oef_ ht|skip))|(refine ych ?_;first|(refine ybw rfl ?_ ?_<;>intro ht)|(refine ybx rfl ?_ ?_<;>intro ht)))
    (refine rx_call_m (ycp Tryz.func79 rfl (by kernel_rfl) rfl) (perm_at (k := 0) rfl) (hdead) rfl rfl rfl ?_ ?_ ?_; (· (exact to_)); (· intro _ _ hle; (exact to_)); intro x px hle)
    repeat' (first|(refine ycf ?_;apply ybk;(·first|(exact tk_));(·rfl);(·rfl))|refine t1_ ?_|(refine ta_ ?_;intro _)|((fail_if_success (refine ybi rfl ?_));refine ybj rfl ?_ ?_<;>(intro ht;rw [ht];first|replace ht := oet_ ht|replace ht := oef_ ht|skip))|(refine ych ?_;first|(refine ybw rfl ?_ ?_<;>intro ht)|(refine ybx rfl ?_ ?_<;>intro ht)))
    exact nx_ret1 rfl (rv_tmp rfl) (fun w' s' => ⟨(h, .slice none 0 0, v), rfl, s', Sc.nil h 1 none 0, hv⟩)
end Go.Proofs.YtaofgcahmfailaaGreatDoor
end

section
namespace Go.Proofs.YtaofgcahmfailaaGreatDoor
open Go Go.Ck
set_option maxHeartbeats 4000000
theorem byC_tookV {s : RS} (hb : Bytes s.1) {most : Int} (h : (byC s most).2.2 = 0) : s.2 = 0 ∧ num4 (byC s most).1.length ++ (byC s most).1 ++ (byC s most).2.1 = s.1 := by
  unfold byC at h ⊢
  by_cases h0 : s.2 ≠ 0
  · rw [if_pos h0] at h; exact absurd h h0
  · rw [if_neg h0] at h ⊢
    refine ⟨Decidable.not_not.1 h0, ?_⟩
    by_cases h1 : (lookC s.1 4 most).2 = 0
    · rw [if_neg (by simpa using h1)] at h ⊢
      have hl := lookC_len h1
      have e : (lookC s.1 4 most).1 = valB (s.1.take 4) := by
        unfold lookC at h1 ⊢
        split
        · rename_i h2; rw [if_pos h2] at h1; cases h1
        · rename_i h2
          rw [if_neg h2] at h1
          split
          · rename_i h3; rw [if_pos h3] at h1; cases h1
          · rfl
      by_cases h2 : s.1.length - 4 < (lookC s.1 4 most).1.toNat
      · rw [if_pos h2] at h; cases h
      · rw [if_neg h2]
        have hp := putLow_val (l := s.1.take 4) (fun x hx => hb x (List.mem_of_mem_take hx))
        rw [List.length_take, Nat.min_eq_left hl, ← e] at hp
        have hn : 0 ≤ (lookC s.1 4 most).1 := by rw [e]; exact (valB_bd hb 4 hl).1
        have hlen : (((s.1.drop 4).take (lookC s.1 4 most).1.toNat).length : Int) = (lookC s.1 4 most).1 := by
          rw [List.length_take, List.length_drop]; omega
        dsimp only
        rw [hlen]
        unfold num4
        rw [hp, List.append_assoc, List.take_append_drop, List.take_append_drop]
    · rw [if_pos h1] at h
      exact absurd h h1
def rdK (l : List Int) : List Int × RS := fixC (l, 0) 32
def rdN (s : RS) : Nat → List Int × RS
  | 0 => ([], s)
  | k + 1 => ((rdN s k).1 ++ [(numC (rdN s k).2 8 4611686018427387904).1], (numC (rdN s k).2 8 4611686018427387904).2)
def rdH (l : List Int) : List Int × RS := rdN (rdK l).2 4
def rdP (l : List Int) : List Int × RS := byC (rdH l).2 4096
def rdZ (l : List Int) : List Int × RS := byC (rdP l).2 8192
def hdOf (hv p : List Int) : Hdr := ⟨hv.getD 0 0, hv.getD 1 0, hv.getD 2 0, hv.getD 3 0, p⟩
def rdQ (l : List Int) : Hdr := hdOf (rdH l).1 (rdP l).1
def rdOk (l : List Int) : Prop := endC (rdZ l).2 = 0 ∧ (rdQ l).ok ∧ 16 ≤ (rdZ l).1.length ∧ (rdZ l).1.length ≤ 8192
instance (l : List Int) : Decidable (rdOk l) := by unfold rdOk; exact inferInstance
theorem rdN_ok {s : RS} (h : RsOk s) : ∀ k, RsOk (rdN s k).2 ∧ (rdN s k).1.length = k
  | 0 => ⟨h, rfl⟩
  | k + 1 => by
    obtain ⟨h1, h2⟩ := rdN_ok h k
    exact ⟨h1.num 8 _, by simp [rdN, h2]⟩
theorem rd_oks {l : List Int} (hb : Bytes l) (hl : l.length ≤ 1000000) : RsOk (rdK l).2 ∧ RsOk (rdH l).2 ∧ RsOk (rdP l).2 ∧ RsOk (rdZ l).2 := by
  have h0 : RsOk ((l, 0) : RS) := ⟨hb, hl⟩
  have h1 : RsOk (rdK l).2 := (h0.fix 32).1
  have h2 : RsOk (rdH l).2 := (rdN_ok h1 4).1
  have h3 : RsOk (rdP l).2 := (h2.by (by omega)).1
  exact ⟨h1, h2, h3, (h3.by (by omega)).1⟩
theorem fix_took {s : RS} {n : Nat} (h : (fixC s n).2.2 = 0) : s.2 = 0 ∧ (fixC s n).1 ++ (fixC s n).2.1 = s.1 ∧ (fixC s n).1.length = n := by
  unfold fixC at h ⊢
  by_cases h0 : s.2 ≠ 0
  · rw [if_pos h0] at h; exact absurd h h0
  · rw [if_neg h0] at h ⊢
    by_cases h1 : s.1.length < n
    · rw [if_pos h1] at h; cases h
    · rw [if_neg h1]
      exact ⟨Decidable.not_not.1 h0, List.take_append_drop .., by simp; omega⟩
theorem rdN_took {s : RS} (hs : RsOk s) : ∀ k, (rdN s k).2.2 = 0 → s.2 = 0 ∧ (rdN s k).1.flatMap num8 ++ (rdN s k).2.1 = s.1
  | 0, h => ⟨h, by simp [rdN]⟩
  | k + 1, h => by
    have hk := (rdN_ok hs k).1
    obtain ⟨h1, h2⟩ := numC_took (s := (rdN s k).2) hk.b h
    obtain ⟨h3, h4⟩ := rdN_took hs k h1
    refine ⟨h3, ?_⟩
    have e : (rdN s (k + 1)).1.flatMap num8 ++ (rdN s (k + 1)).2.1 = (rdN s k).1.flatMap num8 ++ (num8 (numC (rdN s k).2 8 4611686018427387904).1 ++ (numC (rdN s k).2 8 4611686018427387904).2.1) := by
      simp [rdN, List.flatMap_append]
    rw [e]
    have h2 : num8 (numC (rdN s k).2 8 4611686018427387904).1 ++ (numC (rdN s k).2 8 4611686018427387904).2.1 = (rdN s k).2.1 := h2
    rw [h2, h4]
def encE (ek : List Int) (q : Hdr) (se : List Int) : List Int := boundF ek q ++ num4 se.length ++ se
theorem list4 (l : List Int) (h : l.length = 4) : ∃ a b c d, l = [a, b, c, d] := by
  match l, h with
  | [a, b, c, d], _ => exact ⟨a, b, c, d, rfl⟩
theorem rd13_took {l : List Int} (hb : Bytes l) (hl : l.length ≤ 1000000) (h : endC (rdZ l).2 = 0) : (rdK l).1.length = 32 ∧ encE (rdK l).1 (rdQ l) (rdZ l).1 = l := by
  obtain ⟨o1, o2, o3, o4⟩ := rd_oks hb hl
  have hz : (rdZ l).2.2 = 0 := by
    unfold endC at h
    split at h
    · cases h
    · exact h
  have hr : (rdZ l).2.1 = [] := by
    unfold endC at h
    split at h
    · cases h
    · rename_i hn
      exact List.eq_nil_of_length_eq_zero (by omega)
  obtain ⟨p1, p2⟩ := byC_tookV (s := (rdP l).2) o3.b hz
  obtain ⟨q1, q2⟩ := byC_tookV (s := (rdH l).2) o2.b p1
  obtain ⟨r1, r2⟩ := rdN_took o1 4 q1
  obtain ⟨k1, k2, k3⟩ := fix_took (s := (l, 0)) r1
  refine ⟨k3, ?_⟩
  have hN := (rdN_ok o1 4).2
  obtain ⟨a, b, c, d, he⟩ := list4 (rdH l).1 hN
  have p2 : num4 (rdZ l).1.length ++ (rdZ l).1 ++ (rdZ l).2.1 = (rdP l).2.1 := p2
  have q2 : num4 (rdP l).1.length ++ (rdP l).1 ++ (rdP l).2.1 = (rdH l).2.1 := q2
  have r2 : (rdH l).1.flatMap num8 ++ (rdH l).2.1 = (rdK l).2.1 := r2
  have k2 : (rdK l).1 ++ (rdK l).2.1 = l := k2
  rw [hr, List.append_nil] at p2
  unfold encE boundF rdQ hdOf
  rw [he] at r2 ⊢
  conv => rhs; rw [← k2, ← r2, ← q2, ← p2]
  simp
theorem rdOk_key {l : List Int} (hb : Bytes l) (hl : l.length ≤ 1000000) (h : rdOk l) : (rdK l).1.length = 32 := (rd13_took hb hl h.1).1
end Go.Proofs.YtaofgcahmfailaaGreatDoor
end
