/-
  Part 16 of a proof: CiM SbR CiN CmA CkFlD VrC.
  Conditions: each theorem states its own.
-/
import Derived.Test.YtaofgcahmfailaaGreatDoorCmNPM15
set_option maxRecDepth 100000
set_option linter.unusedVariables false
set_option linter.unusedSimpArgs false
section
namespace Go.Proofs.YtaofgcahmfailaaGreatDoor
open Go Go.Ck
set_option maxHeartbeats 1000000
theorem u64_bd (z : Int) : 0 ≤ IntKind.u64.wrap z ∧ IntKind.u64.wrap z < 18446744073709551616 := by simp [IntKind.wrap, IntKind.bits, IntKind.signed]; omega
def nmB (n : Int) : List Int := if n.tmod 7 = 6 then List.replicate (60 + (IntKind.u64.wrap n % 9).toNat) 0 else [110, IntKind.u64.wrap n % 3]
theorem nmB_by (n : Int) : Bytes (nmB n) := by
  unfold nmB
  split
  · intro b hb
    rw [List.eq_of_mem_replicate hb]
    omega
  · have := u64_bd n
    intro b hb
    simp only [List.mem_cons, List.not_mem_nil, or_false] at hb
    omega
theorem nmB_len (n : Int) : 1 ≤ (nmB n).length ∧ (nmB n).length ≤ 68 := by
  unfold nmB
  have := u64_bd n
  split
  · rw [List.length_replicate]; omega
  · simp
theorem name7_sp (n : Int) (h : View) (w : World) (s : St ⟨w, h, []⟩ h [] w) :
    Calls Tryz.prog 14 [.int .i64 n].toArray w fun e w' => ∃ x : View × Value, e = .returned x.2 ∧ St ⟨w, h, []⟩ x.1 [] w' ∧ Bs8 x.1 x.2 (nmB n) := by
  have hu := u64_bd n
  refine calls_enter Tryz.func14 rfl Tryz.ntmps14 rfl s ?_
  by_cases h6 : n.tmod 7 = 6
  · obtain ⟨k, hk, hk9⟩ : ∃ k : Nat, (IntKind.u64.wrap n).tmod 9 = (k : Int) ∧ k < 9 := ⟨((IntKind.u64.wrap n) % 9).toNat, by rw [Int.tmod_eq_emod_of_nonneg hu.1]; omega, by omega⟩
    have hk2 : (IntKind.u64.wrap n % 9).toNat = k := by rw [Int.tmod_eq_emod_of_nonneg hu.1] at hk; omega
    have wk : IntKind.i64.wrap (k : Int) = (k : Int) := by rw [IntKind.wrap_i64]; omega
    have e : nmB n = List.replicate (60 + k) 0 := by unfold nmB; rw [if_pos h6, hk2]
    rw [e]
    repeat' (first|(refine ycf ?_;apply ybk;(·first|(first|(refine qv_remr rfl rfl (by decide) h6)|(refine qv_convert_int' rfl wk)|(refine qv_convert_int' rfl rfl)|(refine qv_remr rfl rfl (by decide) hk)|exact tk_));(·rfl);(·rfl))|refine t1_ ?_|(refine ta_ ?_;intro _)|((fail_if_success (refine ybi rfl ?_));refine ybj rfl ?_ ?_<;>(intro ht;rw [ht];first|replace ht := oet_ ht|replace ht := oef_ ht|skip))|(refine ych ?_;first|(refine ybw rfl ?_ ?_<;>intro ht)|(refine ybx rfl ?_ ?_<;>intro ht)))
    refine yba (ma_makeBytes (m := 60 + k) rfl rfl (by omega) (by omega)) rfl rfl rfl ybf (fun _ => ybf) ?_
    intro b
    refine rx_rowOf 1 (60 + k) (60 + k) (by omega) (by unfold maxLen; omega) (by simp) ?_
    refine rx_persist rfl fun h3 hle3 hs3 => ?_
    repeat' (first|(refine ycf ?_;apply ybk;(·first|(first|(refine qv_remr rfl rfl (by decide) h6)|(refine qv_convert_int' rfl wk)|(refine qv_convert_int' rfl rfl)|(refine qv_remr rfl rfl (by decide) hk)|exact tk_));(·rfl);(·rfl))|refine t1_ ?_|(refine ta_ ?_;intro _)|((fail_if_success (refine ybi rfl ?_));refine ybj rfl ?_ ?_<;>(intro ht;rw [ht];first|replace ht := oet_ ht|replace ht := oef_ ht|skip))|(refine ych ?_;first|(refine ybw rfl ?_ ?_<;>intro ht)|(refine ybx rfl ?_ ?_<;>intro ht)))
    refine nx_ret1 rfl (rv_tmp rfl) (fun w' s' => ⟨(h3, _), rfl, s'.nil, ?_⟩)
    have e2 : bcs (List.replicate (60 + k) 0) = (List.replicate (60 + k) (Value.int .u8 0)) := by simp [bcs]
    unfold Bs8
    rw [List.length_replicate, e2]
    simpa using hs3
  · obtain ⟨k, hk, hk3⟩ : ∃ k : Nat, (IntKind.u64.wrap n).tmod 3 = (k : Int) ∧ k < 3 := ⟨((IntKind.u64.wrap n) % 3).toNat, by rw [Int.tmod_eq_emod_of_nonneg hu.1]; omega, by omega⟩
    have hk2 : IntKind.u64.wrap n % 3 = k := by rw [Int.tmod_eq_emod_of_nonneg hu.1] at hk; omega
    have w8 : IntKind.u8.wrap (k : Int) = (k : Int) := by rw [wrap_u8]; omega
    have e : nmB n = [110, (k : Int)] := by unfold nmB; rw [if_neg h6, hk2]
    rw [e]
    repeat' (first|(refine ycf ?_;apply ybk;(·first|(first|(refine qv_convert_int' rfl w8)|(refine qv_convert_int' rfl rfl)|(refine qv_remr rfl rfl (by decide) hk)|(refine qv_remr rfl rfl (by decide) rfl)|exact tk_));(·rfl);(·rfl))|refine t1_ ?_|(refine ta_ ?_;intro _)|((fail_if_success (refine ybi rfl ?_));refine ybj rfl ?_ ?_<;>(intro ht;rw [ht];first|replace ht := oet_ ht|replace ht := oef_ ht|skip))|(refine ych ?_;first|(refine ybw rfl ?_ ?_<;>intro ht)|(refine ybx rfl ?_ ?_<;>intro ht)))
    refine nx_ret1 rfl (rv_tmp rfl) (fun w' s' => ?_)
    obtain ⟨h3, hle3, hs3, s3⟩ := (s'.rowOf (k := 1) (m := 2) (cap := 2) (by omega) (by unfold maxLen; omega) rfl).rowPersist rfl
    exact ⟨(h3, _), rfl, s3.nil, hs3⟩
theorem Epoch_sp (b : Nat) (id : Int) (bv : Nat) (ep ct : Int) (bm : Nat) (h : View) (w : World) (s : St ⟨w, h, doms [clR b id bv ep ct bm]⟩ h [clR b id bv ep ct bm] w) :
    Calls Tryz.prog 19 [.pointer (some ⟨b, 0, none⟩)].toArray w fun e w' => ∃ _ : Unit, e = .returned (.int .i64 ep) ∧ St ⟨w, h, doms [clR b id bv ep ct bm]⟩ h [clR b id bv ep ct bm] w' ∧ True := by
  refine calls_enter Tryz.func19 rfl Tryz.ntmps19 rfl s ?_
  repeat' (first|(refine ycf ?_;apply ybk;(·first|(first|exact tk_|(apply qv_eql_pnil<;>rfl)));(·rfl);(·rfl))|refine t1_ ?_|(refine ta_ ?_;intro _)|((fail_if_success (refine ybi rfl ?_));refine ybj rfl ?_ ?_<;>(intro ht;rw [ht];first|replace ht := oet_ ht|replace ht := oef_ ht|skip))|(refine ych ?_;first|(refine ybw rfl ?_ ?_<;>intro ht)|(refine ybx rfl ?_ ?_<;>intro ht)))
  exact nx_ret1 rfl (rv_tmp rfl) (fun w' s' => ⟨(), rfl, s', trivial⟩)
theorem Rotate_sp (b : Nat) (id : Int) (bv : Nat) (ep ct : Int) (bm : Nat) (hep : 1 ≤ ep ∧ ep ≤ 1000) (h : View) (w : World) (s : St ⟨w, h, doms [clR b id bv ep ct bm]⟩ h [clR b id bv ep ct bm] w) :
    Calls Tryz.prog 13 [.pointer (some ⟨b, 0, none⟩)].toArray w fun e w' => ∃ _ : Unit, e = .returned (.int .i64 0) ∧ St ⟨w, h, doms [clR b id bv ep ct bm]⟩ h [clR b id bv (ep + 1) ct bm] w' ∧ True := by
  refine calls_enter Tryz.func13 rfl Tryz.ntmps13 rfl s ?_
  repeat' (first|(refine ycf ?_;apply ybk;(·first|(first|exact tk_|(apply qv_eql_pnil<;>rfl)|(apply qv_nilCheck;rfl)));(·rfl);(·rfl))|refine t1_ ?_|(refine ta_ ?_;intro _)|((fail_if_success (refine ybi rfl ?_));refine ybj rfl ?_ ?_<;>(intro ht;rw [ht];first|replace ht := oet_ ht|replace ht := oef_ ht|skip))|(refine ych ?_;first|(refine ybw rfl ?_ ?_<;>intro ht)|(refine ybx rfl ?_ ?_<;>intro ht)))
  exact nx_ret1 rfl (rv_tmp rfl) (fun w' s' => ⟨(), rfl, s', trivial⟩)
theorem back7_sp (u : List Int) (hu : u.length = 16) (l : List Dt) (mv : Value) (h : View) (hm : Ds h mv l) (w : World) (s : St ⟨w, h, []⟩ h [] w) :
    Calls Tryz.prog 20 [cxv u mv].toArray w fun e w' => e = .returned (cxv u mv) ∧ St ⟨w, h, []⟩ h [] w' := by
  obtain ⟨_, ad, cap, rfl, hcap, _⟩ := id hm
  have hfu := fill2 (ad := ad) (m := l.length) (c := cap) hu
  refine calls_enter Tryz.func20 rfl Tryz.ntmps20 rfl s ?_
  repeat' (first|(refine ycf ?_;apply ybk;(·first|(first|(apply yad (vs := up u);(·rfl);(·exact ycm (yaz 1 rfl));(·simp [up, hu]))|(apply yax (cs := cxc u (.slice ad l.length cap));(·rfl);(·exact hfu)))|(apply yae;(·rfl);(·(first|exact yck (yaz 1 rfl) hu rfl))));(·rfl);(·rfl))|(refine ybg 0 rfl rfl rfl (cxc_sz hu) (cxc_fit hu) (cxc_one rfl) (ybh (cxc_all hu)) rfl rfl ?_ ?_ ?_;(·(exact to_));(·(exact to_)))|refine t1_ ?_|(refine ta_ ?_;intro _)|((fail_if_success (refine ybi rfl ?_));refine ybj rfl ?_ ?_<;>(intro ht;rw [ht];first|replace ht := oet_ ht|replace ht := oef_ ht|skip))|(refine ych ?_;first|(refine ybw rfl ?_ ?_<;>intro ht)|(refine ybx rfl ?_ ?_<;>intro ht)))
  exact nx_ret1 rfl (rv_cells rfl (yaz 0 rfl) (cxc_all hu)) (fun w' s' => ⟨rfl, s'.nil⟩)
theorem ctx7_sp (cv : Value) (u : List Int) (l : List Dt) (h : View) (hc : Cx h cv u l) (hl : l.length ≤ 8796093022208) (w : World) (s : St ⟨w, h, []⟩ h [] w) :
    Calls Tryz.prog 15 [cv].toArray w fun e w' => ∃ x : View × Value, e = .returned x.2 ∧ St ⟨w, h, []⟩ x.1 [] w' ∧ Cx x.1 x.2 u l := by
  obtain ⟨hu, mv, rfl, hs⟩ := hc
  obtain ⟨_, ad, cap, rfl, hcap, _⟩ := id hs
  refine calls_enter Tryz.func15 rfl Tryz.ntmps15 rfl s ?_
  repeat' (first|(refine ycf ?_;apply ybk;(·first|(first|(apply yad (vs := up u);(·rfl);(·exact ycm (yaz 1 rfl));(·simp [up, hu]))|(apply yad (vs := up u);(·rfl);(·exact ycm (yaz 2 rfl));(·simp [up, hu])))|(apply yae;(·rfl);(·(first|exact yck (yaz 1 rfl) hu rfl|exact yck (yaz 2 rfl) hu rfl))));(·rfl);(·rfl))|(refine ybg 0 rfl rfl rfl (cxc_sz hu) (cxc_fit hu) (cxc_one rfl) (ybh (cxc_all hu)) rfl rfl ?_ ?_ ?_;(·(exact to_));(·(exact to_)))|refine t1_ ?_|(refine ta_ ?_;intro _)|((fail_if_success (refine ybi rfl ?_));refine ybj rfl ?_ ?_<;>(intro ht;rw [ht];first|replace ht := oet_ ht|replace ht := oef_ ht|skip))|(refine ych ?_;first|(refine ybw rfl ?_ ?_<;>intro ht)|(refine ybx rfl ?_ ?_<;>intro ht)))
  refine cx_region_draw' rfl (by kernel_rfl) ?_
  repeat' (refine ycf ?_;(first|(first|(apply ybm;(·(first|(first|(apply yad (vs := up u);(·rfl);(·exact ycm (yaz 1 rfl));(·simp [up, hu]))|(apply yad (vs := up u);(·rfl);(·exact ycm (yaz 2 rfl));(·simp [up, hu])))|(apply yae;(·rfl);(·(first|exact yck (yaz 1 rfl) hu rfl|exact yck (yaz 2 rfl) hu rfl)))|exact tq_));(·rfl);(·rfl);(·(exact th_)))|refine ybl rfl rfl ?_|((fail_if_success (refine ybi rfl ?_));refine ybj rfl ?_ ?_<;>(intro ht;rw [ht];first|replace ht := oet_ ht|replace ht := oef_ ht|skip))|(refine tb_ ?_ ?_ ?_;(·(exact to_));(·intro _;(exact to_));intro _)|(first|(refine ybg 0 rfl rfl rfl (cxc_sz hu) (cxc_fit hu) (cxc_one rfl) (ybh (cxc_all hu)) rfl rfl ?_ ?_ ?_;(·(exact to_));(·(exact to_)))|(refine tqs_ ?_ ?_ ?_;(·(exact to_));(·(exact to_))))|(apply ybn;(·(first|(first|(apply yad (vs := up u);(·rfl);(·exact ycm (yaz 1 rfl));(·simp [up, hu]))|(apply yad (vs := up u);(·rfl);(·exact ycm (yaz 2 rfl));(·simp [up, hu])))|(apply yae;(·rfl);(·(first|exact yck (yaz 1 rfl) hu rfl|exact yck (yaz 2 rfl) hu rfl)))|exact tq_));(·rfl);(·rfl);(·rfl);(·(exact to_))))|refine ycg ?_))
  refine yba ma_buildSlice0 rfl rfl rfl ?_ ?_ ?_
  · (exact to_)
  · intro _; (exact to_)
  intro b
  refine rx_rowOf 2 0 0 (by omega) (by unfold maxLen; omega) rfl ?_
  repeat' (refine ycf ?_;(first|(first|(apply ybm;(·(first|(first|(apply yad (vs := up u);(·rfl);(·exact ycm (yaz 1 rfl));(·simp [up, hu]))|(apply yad (vs := up u);(·rfl);(·exact ycm (yaz 2 rfl));(·simp [up, hu])))|(apply yae;(·rfl);(·(first|exact yck (yaz 1 rfl) hu rfl|exact yck (yaz 2 rfl) hu rfl)))|exact tq_));(·rfl);(·rfl);(·(exact th_)))|refine ybl rfl rfl ?_|((fail_if_success (refine ybi rfl ?_));refine ybj rfl ?_ ?_<;>(intro ht;rw [ht];first|replace ht := oet_ ht|replace ht := oef_ ht|skip))|(refine tb_ ?_ ?_ ?_;(·(exact to_));(·intro _;(exact to_));intro _)|(first|(refine ybg 0 rfl rfl rfl (cxc_sz hu) (cxc_fit hu) (cxc_one rfl) (ybh (cxc_all hu)) rfl rfl ?_ ?_ ?_;(·(exact to_));(·(exact to_)))|(refine tqs_ ?_ ?_ ?_;(·(exact to_));(·(exact to_))))|(apply ybn;(·(first|(first|(apply yad (vs := up u);(·rfl);(·exact ycm (yaz 1 rfl));(·simp [up, hu]))|(apply yad (vs := up u);(·rfl);(·exact ycm (yaz 2 rfl));(·simp [up, hu])))|(apply yae;(·rfl);(·(first|exact yck (yaz 1 rfl) hu rfl|exact yck (yaz 2 rfl) hu rfl)))|exact tq_));(·rfl);(·rfl);(·rfl);(·(exact to_))))|refine ycg ?_))
  refine rx_append_sc (sz := 2) 0 rfl rfl rfl hs (one_dcs l) rfl (by omega) (by unfold maxLen; omega) (by omega) rfl rfl rfl ?_ ?_ ?_
  · (exact to_)
  · intro v'; (exact to_)
  intro v2 _
  refine rx_persist rfl fun h3 hle3 hs3 => ?_
  have hs3' : Ds h3 v2 l := by simpa using hs3
  obtain ⟨_, ad2, cap2, rfl, _, _⟩ := id hs3'
  have hfu := fill2 (ad := ad2) (m := l.length) (c := cap2) hu
  repeat' (refine ycf ?_;(first|(first|(apply ybm;(·(first|(apply yax (cs := cxc u (.slice ad2 l.length cap2));(·rfl);(·exact hfu))|(apply yae;(·rfl);(·(first|exact yck (yaz 1 rfl) hu rfl|exact yck (yaz 2 rfl) hu rfl)))|exact tq_));(·rfl);(·rfl);(·(first|exact fun _ s => s|exact fun _ s => s.tl|exact fun _ s => s.tl.tl|exact fun _ s => Hd.sub s hle3 (fun r hr => hr))))|refine ybl rfl rfl ?_|((fail_if_success (refine ybi rfl ?_));refine ybj rfl ?_ ?_<;>(intro ht;rw [ht];first|replace ht := oet_ ht|replace ht := oef_ ht|skip))|(refine tb_ ?_ ?_ ?_;(·(first|exact ybf|(refine .inl ?_;(first|exact fun _ s => s|exact fun _ s => s.tl|exact fun _ s => s.tl.tl|exact fun _ s => Hd.sub s hle3 (fun r hr => hr)))|exact to_));(·intro _;(first|exact ybf|(refine .inl ?_;(first|exact fun _ s => s|exact fun _ s => s.tl|exact fun _ s => s.tl.tl|exact fun _ s => Hd.sub s hle3 (fun r hr => hr)))|exact to_));intro _)|(first|(refine ybg 0 rfl rfl rfl (cxc_sz hu) (cxc_fit hu) (cxc_one rfl) (ybh (cxc_all hu)) rfl rfl ?_ ?_ ?_;(·(first|exact ybf|(refine .inl ?_;(first|exact fun _ s => s|exact fun _ s => s.tl|exact fun _ s => s.tl.tl|exact fun _ s => Hd.sub s hle3 (fun r hr => hr)))|exact to_));(·(first|exact ybf|(refine .inl ?_;(first|exact fun _ s => s|exact fun _ s => s.tl|exact fun _ s => s.tl.tl|exact fun _ s => Hd.sub s hle3 (fun r hr => hr)))|exact to_)))|(refine tqs_ ?_ ?_ ?_;(·(first|exact ybf|(refine .inl ?_;(first|exact fun _ s => s|exact fun _ s => s.tl|exact fun _ s => s.tl.tl|exact fun _ s => Hd.sub s hle3 (fun r hr => hr)))|exact to_));(·(first|exact ybf|(refine .inl ?_;(first|exact fun _ s => s|exact fun _ s => s.tl|exact fun _ s => s.tl.tl|exact fun _ s => Hd.sub s hle3 (fun r hr => hr)))|exact to_))))|(apply ybn;(·(first|(apply yax (cs := cxc u (.slice ad2 l.length cap2));(·rfl);(·exact hfu))|(apply yae;(·rfl);(·(first|exact yck (yaz 1 rfl) hu rfl|exact yck (yaz 2 rfl) hu rfl)))|exact tq_));(·rfl);(·rfl);(·rfl);(·(first|exact ybf|(refine .inl ?_;(first|exact fun _ s => s|exact fun _ s => s.tl|exact fun _ s => s.tl.tl|exact fun _ s => Hd.sub s hle3 (fun r hr => hr)))|exact to_))))|refine ycg ?_))
  repeat' (first|(refine ycf ?_;apply ybk;(·first|(apply yax (cs := cxc u (.slice ad2 l.length cap2));(·rfl);(·exact hfu))|(apply yae;(·rfl);(·(first|exact yck (yaz 1 rfl) hu rfl|exact yck (yaz 2 rfl) hu rfl))));(·rfl);(·rfl))|(refine ybg 0 rfl rfl rfl (cxc_sz hu) (cxc_fit hu) (cxc_one rfl) (ybh (cxc_all hu)) rfl rfl ?_ ?_ ?_;(·(first|exact ybf|(refine .inl ?_;(first|exact fun _ s => s|exact fun _ s => s.tl|exact fun _ s => s.tl.tl|exact fun _ s => Hd.sub s hle3 (fun r hr => hr)))|exact to_));(·(first|exact ybf|(refine .inl ?_;(first|exact fun _ s => s|exact fun _ s => s.tl|exact fun _ s => s.tl.tl|exact fun _ s => Hd.sub s hle3 (fun r hr => hr)))|exact to_)))|refine t1_ ?_|(refine ta_ ?_;intro _)|((fail_if_success (refine ybi rfl ?_));refine ybj rfl ?_ ?_<;>(intro ht;rw [ht];first|replace ht := oet_ ht|replace ht := oef_ ht|skip))|(refine ych ?_;first|(refine ybw rfl ?_ ?_<;>intro ht)|(refine ybx rfl ?_ ?_<;>intro ht)))
  exact nx_ret1 rfl (rv_cells rfl (yaz 0 rfl) (cxc_all hu)) (fun w' s' => ⟨(h3, cxv u (.slice ad2 l.length cap2)), rfl, s'.nil, hu, _, rfl, hs3'⟩)
end Go.Proofs.YtaofgcahmfailaaGreatDoor
end

section
namespace Go.Proofs.YtaofgcahmfailaaGreatDoor
open Go Go.Ck
set_option maxHeartbeats 4000000
theorem tm_ {p : Prop} (h : p := by (first|exact List.mem_of_getElem? (i := 0) rfl | exact List.mem_of_getElem? (i := 1) rfl | exact List.mem_of_getElem? (i := 2) rfl | exact List.mem_of_getElem? (i := 3) rfl)) : p := h
theorem fill3 {d : Dt} {u : List Int} {mv bv : Value} (hu : u.length = 16) (hb : bv.cells = #[bv]) : fillL (fun i : Nat => ([(0, 2), (2, 17), (19, 1)] : List (Nat × Nat))[i]?) ([.int .i64 0, .int .i64 0] ++ (up zeroU ++ [.slice none 0 0, .slice none 0 0])) [(0, .agg (dcs d).toArray), (1, .agg (cxc u mv).toArray), (2, bv)] = some (dcs d ++ (cxc u mv ++ [bv])) := by
  obtain ⟨a0, a1, a2, a3, a4, a5, a6, a7, a8, a9, a10, a11, a12, a13, a14, a15, rfl⟩ := list16 u hu
  unfold fillL fillL fillL fillL
  simp only [hb]
  rfl
end Go.Proofs.YtaofgcahmfailaaGreatDoor
end

section
namespace Go.Proofs.YtaofgcahmfailaaGreatDoor
open Go Go.Ck
set_option maxHeartbeats 1000000
theorem one7_sp (e0 : Sb) (h : View) (hv : Rv h e0) (hl : e0.l.length ≤ 8796093022208) (w : World) (s : St ⟨w, h, []⟩ h [] w) :
    Calls Tryz.prog 22 [sbv e0].toArray w fun e w' => ∃ x : View × Sb, e = .returned (sbv x.2) ∧ St ⟨w, h, []⟩ x.1 [] w' ∧ Sv x.1 x.2 ∧ x.2.a = e0.a := by
  have hxl := sbc_len e0
  have hone := hv.one
  obtain ⟨_, adm, capm, hmv, _, _⟩ := id hv.ds
  have C1 := fun (h' : View) (hle : Le h h') => ctx7_sp (cxv e0.u e0.mv) e0.u e0.l h' ⟨e0.hu, _, rfl, hv.ds.mono hle⟩ hl
  refine calls_enter Tryz.func22 rfl Tryz.ntmps22 rfl s ?_
  repeat' (first|(refine ybg 0 rfl rfl rfl (sbc_sz e0) (sbc_fit rfl) (sbc_one hone.1 hone.2) (ybh (sbc_all rfl)) rfl rfl ?_ ?_ ?_;(·(exact to_));(·(exact to_)))|refine t1_ ?_|(refine ta_ ?_;intro _)|((fail_if_success (refine ybi rfl ?_));refine ybj rfl ?_ ?_<;>(intro ht;rw [ht];first|replace ht := oet_ ht|replace ht := oef_ ht|skip))|(refine ych ?_;first|(refine ybw rfl ?_ ?_<;>intro ht)|(refine ybx rfl ?_ ?_<;>intro ht)))
  rename_i b1 b2
  refine cx_perm (L' := [Res.blk b2 (.cells (sbc zSb).toArray 47 (0, 0)), Res.blk b1 (.cells (sbc e0).toArray 77 (0, 0))]) (.refl _) ?_
  refine cx_region_flo [Res.blk b1 (.cells (sbc e0).toArray 77 (0, 0))] [7] [0, 1, 2, 3, 5, 6] [4] 7 [8, 9] rfl (by kernel_rfl) ?_
  repeat' (refine ycf ?_;(first|(first|(apply ybm;(·(first|(first|(apply yad;(·rfl);(·exact sb_dot (yaz 0 rfl));(·rfl))|(apply yad;(·rfl);(·exact sb_past (yaz 0 rfl));(·exact ycj e0.hu)))|(apply yae;(·rfl);(·(first|exact sb_body0 (yaz 0 rfl) hv.bs)))|exact tq_));(·rfl);(·rfl);(·(exact fun _ s => Hd.sub s (Le.refl _) (fun r hr => by rw [List.mem_singleton.1 hr];exact tm_))))|refine ybl rfl rfl ?_|((fail_if_success (refine ybi rfl ?_));refine ybj rfl ?_ ?_<;>(intro ht;rw [ht];first|replace ht := oet_ ht|replace ht := oef_ ht|skip))|(refine tb_ ?_ ?_ ?_;(·(first|exact ybf|(refine .inl ?_;(exact fun _ s => Hd.sub s (Le.refl _) (fun r hr => by rw [List.mem_singleton.1 hr];exact tm_)))|exact to_));(·intro _;(first|exact ybf|(refine .inl ?_;(exact fun _ s => Hd.sub s (Le.refl _) (fun r hr => by rw [List.mem_singleton.1 hr];exact tm_)))|exact to_));intro _)|(first|(refine tqs_ ?_ ?_ ?_;(·(first|exact ybf|(refine .inl ?_;(exact fun _ s => Hd.sub s (Le.refl _) (fun r hr => by rw [List.mem_singleton.1 hr];exact tm_)))|exact to_));(·(first|exact ybf|(refine .inl ?_;(exact fun _ s => Hd.sub s (Le.refl _) (fun r hr => by rw [List.mem_singleton.1 hr];exact tm_)))|exact to_))))|(apply ybn;(·(first|(first|(apply yad;(·rfl);(·exact sb_dot (yaz 0 rfl));(·rfl))|(apply yad;(·rfl);(·exact sb_past (yaz 0 rfl));(·exact ycj e0.hu)))|(apply yae;(·rfl);(·(first|exact sb_body0 (yaz 0 rfl) hv.bs)))|exact tq_));(·rfl);(·rfl);(·rfl);(·(first|exact ybf|(refine .inl ?_;(exact fun _ s => Hd.sub s (Le.refl _) (fun r hr => by rw [List.mem_singleton.1 hr];exact tm_)))|exact to_))))|refine ycg ?_))
  refine nx_flo 4 [] [] (by kernel_rfl) ?_ ?_
  · (refine yco (ycp Tryz.func15 rfl (by kernel_rfl) rfl) (C1 h (Le.refl h)) rfl rfl rfl ?_ ?_ ?_;(·(first|exact ybf|(refine .inl ?_;(first|exact fun _ s => Hd.sub s (Le.refl _) (fun r hr => by rw [List.mem_singleton.1 hr];exact tm_)|exact fun _ s => Hd.sub s hle (fun r hr => by rw [List.mem_singleton.1 hr];exact tm_)))|exact to_));(·intro _ _ hle;(first|exact ybf|(refine .inl ?_;(first|exact fun _ s => Hd.sub s (Le.refl _) (fun r hr => by rw [List.mem_singleton.1 hr];exact tm_)|exact fun _ s => Hd.sub s hle (fun r hr => by rw [List.mem_singleton.1 hr];exact tm_)))|exact to_));intro x px hle)
    obtain ⟨h3, v3⟩ := x
    dsimp only at px hle ⊢
    have hle3 : Le h h3 := hle
    obtain ⟨hu3, m3, rfl, hd3⟩ := px
    obtain ⟨_, ad2, cap2, rfl, _, _⟩ := id hd3
    repeat' (refine ycf ?_;(first|(first|(apply ybm;(·exact tq_);(·rfl);(·rfl);(·(exact fun _ s => Hd.sub s hle3 (fun r hr => by rw [List.mem_singleton.1 hr];exact tm_))))|refine ybl rfl rfl ?_|((fail_if_success (refine ybi rfl ?_));refine ybj rfl ?_ ?_<;>(intro ht;rw [ht];first|replace ht := oet_ ht|replace ht := oef_ ht|skip))|(refine tb_ ?_ ?_ ?_;(·(first|exact ybf|(refine .inl ?_;(exact fun _ s => Hd.sub s hle3 (fun r hr => by rw [List.mem_singleton.1 hr];exact tm_)))|exact to_));(·intro _;(first|exact ybf|(refine .inl ?_;(exact fun _ s => Hd.sub s hle3 (fun r hr => by rw [List.mem_singleton.1 hr];exact tm_)))|exact to_));intro _)|(first|(refine tqs_ ?_ ?_ ?_;(·(first|exact ybf|(refine .inl ?_;(exact fun _ s => Hd.sub s hle3 (fun r hr => by rw [List.mem_singleton.1 hr];exact tm_)))|exact to_));(·(first|exact ybf|(refine .inl ?_;(exact fun _ s => Hd.sub s hle3 (fun r hr => by rw [List.mem_singleton.1 hr];exact tm_)))|exact to_))))|(apply ybn;(·exact tq_);(·rfl);(·rfl);(·rfl);(·(first|exact ybf|(refine .inl ?_;(exact fun _ s => Hd.sub s hle3 (fun r hr => by rw [List.mem_singleton.1 hr];exact tm_)))|exact to_))))|refine ycg ?_))
    refine nx_flo_end ?_
    refine rx_bytes_of rfl rfl hv.by8 rfl rfl rfl ?_ ?_ ?_
    · (first|exact ybf|(refine .inl ?_;(exact fun _ s => Hd.sub s hle3 (fun r hr => by rw [List.mem_singleton.1 hr];exact tm_)))|exact to_)
    · intro h' hle'; exact .inl fun _ s => Hd.sub s (hle3.trans hle') (fun r hr => by rw [List.mem_singleton.1 hr]; exact tm_)
    intro h5 v5 hle5 hb5
    obtain ⟨_, ad5, cap5, hv5, _, _⟩ := id hb5
    subst hv5
    obtain ⟨z, hz⟩ : ∃ z : Sb, z = ⟨e0.d, e0.u, e0.hu, e0.l, .slice ad2 e0.l.length cap2, e0.b, .slice ad5 e0.b.length cap5⟩ := ⟨_, rfl⟩
    have hfz : fillL (fun i : Nat => ([(0, 2), (2, 17), (19, 1)] : List (Nat × Nat))[i]?) ([.int .i64 0, .int .i64 0] ++ (up zeroU ++ [.slice none 0 0, .slice none 0 0])) [(0, .agg (dcs e0.d).toArray), (1, .agg (cxc e0.u (.slice ad2 e0.l.length cap2)).toArray), (2, .slice ad5 e0.b.length cap5)] = some (sbc z) := by
      rw [hz]; exact fill3 e0.hu rfl
    have hzv : Sv h5 z := by rw [hz]; exact ⟨hd3.mono hle5, hb5, hv.by8⟩
    have hza : z.a = e0.a := by rw [hz]; rfl
    have hzo := hzv.one
    repeat' (refine ycf ?_;(first|(first|(apply ybm;(·(first|(apply yax (cs := sbc z);(·rfl);(·exact hfz))|exact tq_));(·rfl);(·rfl);(·(exact fun _ s => Hd.sub s (hle3.trans hle5) (fun r hr => by rw [List.mem_singleton.1 hr];exact tm_))))|refine ybl rfl rfl ?_|((fail_if_success (refine ybi rfl ?_));refine ybj rfl ?_ ?_<;>(intro ht;rw [ht];first|replace ht := oet_ ht|replace ht := oef_ ht|skip))|(refine tb_ ?_ ?_ ?_;(·(first|exact ybf|(refine .inl ?_;(exact fun _ s => Hd.sub s (hle3.trans hle5) (fun r hr => by rw [List.mem_singleton.1 hr];exact tm_)))|exact to_));(·intro _;(first|exact ybf|(refine .inl ?_;(exact fun _ s => Hd.sub s (hle3.trans hle5) (fun r hr => by rw [List.mem_singleton.1 hr];exact tm_)))|exact to_));intro _)|(first|(refine ybg 0 rfl rfl rfl (sbc_sz z) (sbc_fit rfl) (sbc_one hzo.1 hzo.2) (ybh (sbc_all rfl)) rfl rfl ?_ ?_ ?_;(·(first|exact ybf|(refine .inl ?_;(exact fun _ s => Hd.sub s (hle3.trans hle5) (fun r hr => by rw [List.mem_singleton.1 hr];exact tm_)))|exact to_));(·(first|exact ybf|(refine .inl ?_;(exact fun _ s => Hd.sub s (hle3.trans hle5) (fun r hr => by rw [List.mem_singleton.1 hr];exact tm_)))|exact to_)))|(refine tqs_ ?_ ?_ ?_;(·(first|exact ybf|(refine .inl ?_;(exact fun _ s => Hd.sub s (hle3.trans hle5) (fun r hr => by rw [List.mem_singleton.1 hr];exact tm_)))|exact to_));(·(first|exact ybf|(refine .inl ?_;(exact fun _ s => Hd.sub s (hle3.trans hle5) (fun r hr => by rw [List.mem_singleton.1 hr];exact tm_)))|exact to_))))|(apply ybn;(·(first|(apply yax (cs := sbc z);(·rfl);(·exact hfz))|exact tq_));(·rfl);(·rfl);(·rfl);(·(first|exact ybf|(refine .inl ?_;(exact fun _ s => Hd.sub s (hle3.trans hle5) (fun r hr => by rw [List.mem_singleton.1 hr];exact tm_)))|exact to_))))|refine ycg ?_))
    repeat' (first|(refine ycf ?_;apply ybk;(·first|(apply yax (cs := sbc z);(·rfl);(·exact hfz)));(·rfl);(·rfl))|(refine ybg 0 rfl rfl rfl (sbc_sz z) (sbc_fit rfl) (sbc_one hzo.1 hzo.2) (ybh (sbc_all rfl)) rfl rfl ?_ ?_ ?_;(·(first|exact ybf|(refine .inl ?_;(exact fun _ s => Hd.sub s (hle3.trans hle5) (fun r hr => by rw [List.mem_singleton.1 hr];exact tm_)))|exact to_));(·(first|exact ybf|(refine .inl ?_;(exact fun _ s => Hd.sub s (hle3.trans hle5) (fun r hr => by rw [List.mem_singleton.1 hr];exact tm_)))|exact to_)))|refine t1_ ?_|(refine ta_ ?_;intro _)|((fail_if_success (refine ybi rfl ?_));refine ybj rfl ?_ ?_<;>(intro ht;rw [ht];first|replace ht := oet_ ht|replace ht := oef_ ht|skip))|(refine ych ?_;first|(refine ybw rfl ?_ ?_<;>intro ht)|(refine ybx rfl ?_ ?_<;>intro ht)))
    exact nx_ret1 rfl (rv_cells rfl (yaz 0 rfl) (sbc_len z)) (fun w' s' => ⟨(h5, z), rfl, s'.nil, hzv, hza⟩)
  · --(apply yax (cs := sbc z); (· rfl); (· exact hfz)):= fail
    refine rx_bytes_of rfl rfl hv.by8 rfl rfl rfl ?_ ?_ ?_
    · (first|exact ybf|(refine .inl ?_;(exact fun _ s => Hd.sub s (Le.refl _) (fun r hr => by rw [List.mem_singleton.1 hr];exact tm_)))|exact to_)
    · intro h' hle'; exact .inl fun _ s => Hd.sub s hle' (fun r hr => by rw [List.mem_singleton.1 hr]; exact tm_)
    intro h5 v5 hle5 hb5
    obtain ⟨_, ad5, cap5, hv5, _, _⟩ := id hb5
    subst hv5
    (refine yco (ycp Tryz.func15 rfl (by kernel_rfl) rfl) (C1 h5 hle5) rfl rfl rfl ?_ ?_ ?_;(·(first|exact ybf|(refine .inl ?_;(first|exact fun _ s => Hd.sub s hle5 (fun r hr => by rw [List.mem_singleton.1 hr];exact tm_)|exact fun _ s => Hd.sub s (hle5.trans hle) (fun r hr => by rw [List.mem_singleton.1 hr];exact tm_)))|exact to_));(·intro _ _ hle;(first|exact ybf|(refine .inl ?_;(first|exact fun _ s => Hd.sub s hle5 (fun r hr => by rw [List.mem_singleton.1 hr];exact tm_)|exact fun _ s => Hd.sub s (hle5.trans hle) (fun r hr => by rw [List.mem_singleton.1 hr];exact tm_)))|exact to_));intro x px hle)
    obtain ⟨h3, v3⟩ := x
    dsimp only at px hle ⊢
    have hle3 : Le h5 h3 := hle
    obtain ⟨hu3, m3, rfl, hd3⟩ := px
    obtain ⟨_, ad2, cap2, rfl, _, _⟩ := id hd3
    obtain ⟨z, hz⟩ : ∃ z : Sb, z = ⟨e0.d, e0.u, e0.hu, e0.l, .slice ad2 e0.l.length cap2, e0.b, .slice ad5 e0.b.length cap5⟩ := ⟨_, rfl⟩
    have hfz : fillL (fun i : Nat => ([(0, 2), (2, 17), (19, 1)] : List (Nat × Nat))[i]?) ([.int .i64 0, .int .i64 0] ++ (up zeroU ++ [.slice none 0 0, .slice none 0 0])) [(0, .agg (dcs e0.d).toArray), (1, .agg (cxc e0.u (.slice ad2 e0.l.length cap2)).toArray), (2, .slice ad5 e0.b.length cap5)] = some (sbc z) := by
      rw [hz]; exact fill3 e0.hu rfl
    have hzv : Sv h3 z := by rw [hz]; exact ⟨hd3, hb5.mono hle3, hv.by8⟩
    have hza : z.a = e0.a := by rw [hz]; rfl
    have hzo := hzv.one
    repeat' (refine ycf ?_;(first|(first|(apply ybm;(·(first|(apply yax (cs := sbc z);(·rfl);(·exact hfz))|exact tq_));(·rfl);(·rfl);(·(exact fun _ s => Hd.sub s (hle5.trans hle3) (fun r hr => by rw [List.mem_singleton.1 hr];exact tm_))))|refine ybl rfl rfl ?_|((fail_if_success (refine ybi rfl ?_));refine ybj rfl ?_ ?_<;>(intro ht;rw [ht];first|replace ht := oet_ ht|replace ht := oef_ ht|skip))|(refine tb_ ?_ ?_ ?_;(·(first|exact ybf|(refine .inl ?_;(exact fun _ s => Hd.sub s (hle5.trans hle3) (fun r hr => by rw [List.mem_singleton.1 hr];exact tm_)))|exact to_));(·intro _;(first|exact ybf|(refine .inl ?_;(exact fun _ s => Hd.sub s (hle5.trans hle3) (fun r hr => by rw [List.mem_singleton.1 hr];exact tm_)))|exact to_));intro _)|(first|(refine ybg 0 rfl rfl rfl (sbc_sz z) (sbc_fit rfl) (sbc_one hzo.1 hzo.2) (ybh (sbc_all rfl)) rfl rfl ?_ ?_ ?_;(·(first|exact ybf|(refine .inl ?_;(exact fun _ s => Hd.sub s (hle5.trans hle3) (fun r hr => by rw [List.mem_singleton.1 hr];exact tm_)))|exact to_));(·(first|exact ybf|(refine .inl ?_;(exact fun _ s => Hd.sub s (hle5.trans hle3) (fun r hr => by rw [List.mem_singleton.1 hr];exact tm_)))|exact to_)))|(refine tqs_ ?_ ?_ ?_;(·(first|exact ybf|(refine .inl ?_;(exact fun _ s => Hd.sub s (hle5.trans hle3) (fun r hr => by rw [List.mem_singleton.1 hr];exact tm_)))|exact to_));(·(first|exact ybf|(refine .inl ?_;(exact fun _ s => Hd.sub s (hle5.trans hle3) (fun r hr => by rw [List.mem_singleton.1 hr];exact tm_)))|exact to_))))|(apply ybn;(·(first|(apply yax (cs := sbc z);(·rfl);(·exact hfz))|exact tq_));(·rfl);(·rfl);(·rfl);(·(first|exact ybf|(refine .inl ?_;(exact fun _ s => Hd.sub s (hle5.trans hle3) (fun r hr => by rw [List.mem_singleton.1 hr];exact tm_)))|exact to_))))|refine ycg ?_))
    repeat' (first|(refine ycf ?_;apply ybk;(·first|(apply yax (cs := sbc z);(·rfl);(·exact hfz)));(·rfl);(·rfl))|(refine ybg 0 rfl rfl rfl (sbc_sz z) (sbc_fit rfl) (sbc_one hzo.1 hzo.2) (ybh (sbc_all rfl)) rfl rfl ?_ ?_ ?_;(·(first|exact ybf|(refine .inl ?_;(exact fun _ s => Hd.sub s (hle5.trans hle3) (fun r hr => by rw [List.mem_singleton.1 hr];exact tm_)))|exact to_));(·(first|exact ybf|(refine .inl ?_;(exact fun _ s => Hd.sub s (hle5.trans hle3) (fun r hr => by rw [List.mem_singleton.1 hr];exact tm_)))|exact to_)))|refine t1_ ?_|(refine ta_ ?_;intro _)|((fail_if_success (refine ybi rfl ?_));refine ybj rfl ?_ ?_<;>(intro ht;rw [ht];first|replace ht := oet_ ht|replace ht := oef_ ht|skip))|(refine ych ?_;first|(refine ybw rfl ?_ ?_<;>intro ht)|(refine ybx rfl ?_ ?_<;>intro ht)))
    exact nx_ret1 rfl (rv_cells rfl (yaz 0 rfl) (sbc_len z)) (fun w' s' => ⟨(h3, z), rfl, s'.nil, hzv, hza⟩)
end Go.Proofs.YtaofgcahmfailaaGreatDoor
end

section
namespace Go.Proofs.YtaofgcahmfailaaGreatDoor
open Go Go.Ck
set_option maxHeartbeats 1000000
theorem spl_sb19 (g : Sb) {x : Value} (b : List Int) (hx : x.cells.toList = [x]) : spl (sbc g).toArray.toList (0 + 19) x.cells.toList = sbc ⟨g.d, g.u, g.hu, g.l, g.mv, b, x⟩ := by
  rw [hx]
  obtain ⟨a0, a1, a2, a3, a4, a5, a6, a7, a8, a9, a10, a11, a12, a13, a14, a15, hu⟩ := list16 g.u g.hu
  show spl (dcs g.d ++ (cxc g.u g.mv ++ [g.bv])) 19 [x] = dcs g.d ++ (cxc g.u g.mv ++ [x])
  rw [hu]
  rfl
theorem spl_sb1 (g : Sb) (x : Int) : spl (sbc g).toArray.toList (0 + 0 + 1) (Value.int .i64 x).cells.toList = sbc ⟨(g.d.1, x), g.u, g.hu, g.l, g.mv, g.b, g.bv⟩ := rfl
theorem spl_sbu (g : Sb) (k : Nat) (hk : k < 16) (x : Int) {o : Nat} (ho : o = 2 + k) : spl (sbc g).toArray.toList o (Value.int .i64 x).cells.toList = sbc ⟨g.d, g.u.set k x, by rw [List.length_set]; exact g.hu, g.l, g.mv, g.b, g.bv⟩ := by
  obtain ⟨a0, a1, a2, a3, a4, a5, a6, a7, a8, a9, a10, a11, a12, a13, a14, a15, hu⟩ := list16 g.u g.hu
  subst ho
  show spl (dcs g.d ++ (cxc g.u g.mv ++ [g.bv])) (2 + k) [.int .i64 x] = dcs g.d ++ (cxc (g.u.set k x) g.mv ++ [g.bv])
  rw [hu]
  rcases (by omega : k = 0 ∨ k = 1 ∨ k = 2 ∨ k = 3 ∨ k = 4 ∨ k = 5 ∨ k = 6 ∨ k = 7 ∨ k = 8 ∨ k = 9 ∨ k = 10 ∨ k = 11 ∨ k = 12 ∨ k = 13 ∨ k = 14 ∨ k = 15) with rfl | rfl | rfl | rfl | rfl | rfl | rfl | rfl | rfl | rfl | rfl | rfl | rfl | rfl | rfl | rfl<;>rfl
theorem bcs_set (l : List Int) (k : Nat) (x : Int) : (bcs l).set k (.int .u8 x) = bcs (l.set k x) := by
  unfold bcs
  rw [List.map_set]
theorem bytes_set {l : List Int} (hb : Bytes l) (k : Nat) {x : Int} (hx : 0 ≤ x ∧ x < 256) : Bytes (l.set k x) := fun y hy => by
  rcases List.mem_or_eq_of_mem_set hy with h | rfl
  · exact hb y h
  · exact hx
section
variable {P : Program} {n : Nat} {F : List (Nat × Value)} {h : View} {L : List Res}
variable {dst : Option Nat} {ty : Nat} {pos : String} {af : Array Edge} {gd : Option (Nat × Bool)}
theorem qv_str_own {S D e : Nat} {x : Operand} {ad : Addr} {m cap : Nat} {l : List Int} [tS : TyU P S (.slice e)] [te : TyU P e (.int .u8)] [tD : TyU P D .string] (hx : ev F x = some (.slice (some ad) m cap)) (hm : l.length = m) (hc : Cells h L ad (bcs l)) :
    QV P n F h L ⟨dst, .convert S D x, ty, pos, af, gd⟩ (.string (bstr l)) := by subst hm; exact qv_str_of hx hc
theorem cellat_eq {b i j : Nat} {v : Value} (c : CellAt h L b i v) (e : j = i) : CellAt h L b j v := e ▸ c
end
theorem changed7_sp (e0 : Sb) (by' : Int) (h : View) (hv : Rv h e0) (hb0 : 0 < e0.b.length) (hb9 : e0.b.length ≤ 900000) (w : World) (s : St ⟨w, h, []⟩ h [] w) :
    Calls Tryz.prog 31 [sbv e0, .int .i64 by'].toArray w fun e w' => ∃ x : View × Sb, e = .returned (sbv x.2) ∧ St ⟨w, h, []⟩ x.1 [] w' ∧ Rv x.1 x.2 ∧ x.2.l = e0.l ∧ x.2.b.length ≤ e0.b.length := by
  have hxl := sbc_len e0
  have hone := hv.one
  have hu64 := u64_bd by'
  obtain ⟨n, hn, hn4⟩ : ∃ n : Nat, (IntKind.u64.wrap by' / 8) % 200 = (n : Int) ∧ n < 200 := ⟨((IntKind.u64.wrap by' / 8) % 200).toNat, by omega, by omega⟩
  obtain ⟨m, hm, hm4⟩ : ∃ m : Nat, IntKind.u64.wrap by' % 8 = (m : Int) ∧ m < 8 := ⟨(IntKind.u64.wrap by' % 8).toNat, by omega, by omega⟩
  have wn : IntKind.i64.wrap (n : Int) = (n : Int) := by rw [IntKind.wrap_i64]; omega
  have wm : IntKind.i64.wrap (m : Int) = (m : Int) := by rw [IntKind.wrap_i64]; omega
  have q8 : IntKind.u64.wrap ((IntKind.u64.wrap by').tdiv 8) = IntKind.u64.wrap by' / 8 := by
    rw [Int.tdiv_eq_ediv_of_nonneg hu64.1]
    simp only [IntKind.wrap, IntKind.bits, IntKind.signed]; simp; omega
  have q2 : (IntKind.u64.wrap by' / 8).tmod 200 = (n : Int) := by rw [Int.tmod_eq_emod_of_nonneg (by omega)]; exact hn
  have q3 : (IntKind.u64.wrap by').tmod 8 = (m : Int) := by rw [Int.tmod_eq_emod_of_nonneg (by omega)]; exact hm
  refine calls_enter Tryz.func31 rfl Tryz.ntmps31 rfl s ?_
  repeat' (first|(refine ycf ?_;apply ybk;(·first|(first|exact tk_|(refine qv_quor rfl rfl (by decide) q8)|(refine qv_remr rfl rfl (by decide) q2)|(refine qv_remr rfl rfl (by decide) q3)|(refine qv_convert_int' rfl wn)|(refine qv_convert_int' rfl wm)|(refine qv_convert_int' rfl rfl))|(apply yae;(·rfl);(·(exact sb_body' (yaz 1 rfl) hv.bs))));(·rfl);(·rfl))|(refine ybg 0 rfl rfl rfl (sbc_sz e0) (sbc_fit rfl) (sbc_one hone.1 hone.2) (ybh (sbc_all rfl)) rfl rfl ?_ ?_ ?_;(·(exact to_));(·(exact to_)))|refine t1_ ?_|(refine ta_ ?_;intro _)|((fail_if_success (refine ybi rfl ?_));refine ybj rfl ?_ ?_<;>(intro ht;rw [ht];first|replace ht := oet_ ht|replace ht := oef_ ht|skip))|(refine ych ?_;first|(refine ybw rfl ?_ ?_<;>intro ht)|(refine ybx rfl ?_ ?_<;>intro ht)))
  · rename_i b1 b2
    simp only [Array.toList, enumFrom]
    refine rx_bytes_s rfl (bstr_bc hv.by8) (by rw [bstr_size]; unfold maxLen; omega) rfl rfl rfl ybf (fun _ => ybf) ?_
    intro v
    rw [bcs_len]
    refine ybk (yab rfl) rfl rfl ?_
    refine ycg ?_
    refine yby ?_
    refine cx_srowad 0 rfl hb0 ?_
    rintro b3 cap rfl
    obtain ⟨k, hk, hkl⟩ : ∃ k : Nat, ((n : Int).tmod (e0.b.length : Int)) = (k : Int) ∧ k < e0.b.length := ⟨n % e0.b.length, by rw [Int.tmod_eq_emod_of_nonneg (by omega)]; omega, Nat.mod_lt _ hb0⟩
    have hkb := hv.by8 e0.b[k] (List.getElem_mem hkl)
    have hkc : (bcs e0.b)[k]? = some (.int .u8 e0.b[k]) := by simp [bcs, hkl]
    repeat' (first|(refine ycf ?_;apply ybk;(·first|(first|exact tk_|(refine qv_remr rfl rfl (by omega) hk)|(apply qv_bx;(·rfl);(·rfl);(·exact hkb);(·omega)))|(apply yae;(·rfl);(·(exact cellat_eq ((cells_srow 0 rfl).cell hkc) (by omega)))));(·rfl);(·rfl))|(refine rx_bstore 0 rfl rfl rfl rfl (by omega) rfl rfl rfl ?_ ?_ ?_;(·(exact to_));(·(exact to_)))|refine t1_ ?_|(refine ta_ ?_;intro _)|((fail_if_success (refine ybi rfl ?_));refine ybj rfl ?_ ?_<;>(intro ht;rw [ht];first|replace ht := oet_ ht|replace ht := oef_ ht|skip))|(refine ych ?_;first|(refine ybw rfl ?_ ?_<;>intro ht)|(refine ybx rfl ?_ ?_<;>intro ht)))
    have hset : (bcs e0.b).set (0 + (k : Int).toNat * 1) (.int .u8 (bx e0.b[k] 1)) = bcs (e0.b.set k (bx e0.b[k] 1)) := by
      rw [show 0 + (k : Int).toNat * 1 = k by omega]; exact bcs_set _ _ _
    rw [hset]
    obtain ⟨b', hb2⟩ : ∃ b', b' = e0.b.set k (bx e0.b[k] 1) := ⟨_, rfl⟩
    have hbl : b'.length = e0.b.length := by rw [hb2, List.length_set]
    have hby : Bytes b' := by rw [hb2]; exact bytes_set hv.by8 k (bx_by _ _)
    rw [← hb2]
    repeat' (first|(refine ycf ?_;apply ybk;(·first|(first|exact tk_|(refine qv_str_own rfl hbl (cells_srow 0 rfl))));(·rfl);(·rfl))|(refine ybg 2 rfl rfl rfl rfl (by show 0 + 19 + 1 ≤ (sbc e0).toArray.size;rw [List.size_toArray, hxl];omega) rfl (spl_sb19 e0 b' rfl) rfl rfl ?_ ?_ ?_;(·(exact to_));(·(exact to_)))|refine t1_ ?_|(refine ta_ ?_;intro _)|((fail_if_success (refine ybi rfl ?_));refine ybj rfl ?_ ?_<;>(intro ht;rw [ht];first|replace ht := oet_ ht|replace ht := oef_ ht|skip))|(refine ych ?_;first|(refine ybw rfl ?_ ?_<;>intro ht)|(refine ybx rfl ?_ ?_<;>intro ht)))
    obtain ⟨z, hzd⟩ : ∃ z : Sb, z = ⟨e0.d, e0.u, e0.hu, e0.l, e0.mv, b', .string (bstr b')⟩ := ⟨_, rfl⟩
    rw [← hzd]
    have hz : Rv h z := by rw [hzd]; exact ⟨hv.ds, rfl, hby⟩
    have hl' : z.l = e0.l := by rw [hzd]
    have hb' : z.b.length ≤ e0.b.length := by rw [hzd]; exact Nat.le_of_eq hbl
    have hzo := hz.one
    have hzl := sbc_len z
    repeat' (first|(refine ycf ?_;apply ybk;(·first|(apply yad (vs := sbc z);(·rfl);(·exact yaz 2 rfl);(·exact hzl)));(·rfl);(·rfl))|(refine ybg 1 rfl rfl rfl (sbc_sz z) (sbc_fit rfl) (sbc_one hzo.1 hzo.2) (ybh (sbc_all rfl)) rfl rfl ?_ ?_ ?_;(·(exact to_));(·(exact to_)))|refine t1_ ?_|(refine ta_ ?_;intro _)|((fail_if_success (refine ybi rfl ?_));refine ybj rfl ?_ ?_<;>(intro ht;rw [ht];first|replace ht := oet_ ht|replace ht := oef_ ht|skip))|(refine ych ?_;first|(refine ybw rfl ?_ ?_<;>intro ht)|(refine ybx rfl ?_ ?_<;>intro ht)))
    exact nx_ret1 rfl (rv_cells rfl (yaz 1 rfl) hzl) (fun w' s' => ⟨(h, z), rfl, s'.nil, hz, hl', hb'⟩)
  · rename_i b1 b2
    repeat' (first|(refine ycf ?_;apply ybk;(·first|(first|exact tk_|(refine qv_add' rfl rfl rfl)));(·rfl);(·rfl))|(refine ybg 1 rfl rfl rfl rfl (by show 0 + 0 + 1 + 1 ≤ (sbc e0).toArray.size;rw [List.size_toArray, hxl];omega) rfl (spl_sb1 e0 _) rfl rfl ?_ ?_ ?_;(·(exact to_));(·(exact to_)))|refine t1_ ?_|(refine ta_ ?_;intro _)|((fail_if_success (refine ybi rfl ?_));refine ybj rfl ?_ ?_<;>(intro ht;rw [ht];first|replace ht := oet_ ht|replace ht := oef_ ht|skip))|(refine ych ?_;first|(refine ybw rfl ?_ ?_<;>intro ht)|(refine ybx rfl ?_ ?_<;>intro ht)))
    obtain ⟨z, hzd⟩ : ∃ z : Sb, z = ⟨(e0.d.1, IntKind.i64.wrap (e0.d.2 + 1)), e0.u, e0.hu, e0.l, e0.mv, e0.b, e0.bv⟩ := ⟨_, rfl⟩
    rw [← hzd]
    have hz : Rv h z := by rw [hzd]; exact ⟨hv.ds, hv.bs, hv.by8⟩
    have hl' : z.l = e0.l := by rw [hzd]
    have hb' : z.b.length ≤ e0.b.length := by rw [hzd]; exact Nat.le_refl _
    have hzo := hz.one
    have hzl := sbc_len z
    repeat' (first|(refine ycf ?_;apply ybk;(·first|(apply yad (vs := sbc z);(·rfl);(·exact yaz 1 rfl);(·exact hzl)));(·rfl);(·rfl))|(refine ybg 0 rfl rfl rfl (sbc_sz z) (sbc_fit rfl) (sbc_one hzo.1 hzo.2) (ybh (sbc_all rfl)) rfl rfl ?_ ?_ ?_;(·(exact to_));(·(exact to_)))|refine t1_ ?_|(refine ta_ ?_;intro _)|((fail_if_success (refine ybi rfl ?_));refine ybj rfl ?_ ?_<;>(intro ht;rw [ht];first|replace ht := oet_ ht|replace ht := oef_ ht|skip))|(refine ych ?_;first|(refine ybw rfl ?_ ?_<;>intro ht)|(refine ybx rfl ?_ ?_<;>intro ht)))
    exact nx_ret1 rfl (rv_cells rfl (yaz 0 rfl) hzl) (fun w' s' => ⟨(h, z), rfl, s'.nil, hz, hl', hb'⟩)
  · rename_i b1 b2
    obtain ⟨k, hk, hkl⟩ : ∃ k : Nat, ((n : Int).tmod 16) = (k : Int) ∧ k < 16 := ⟨n % 16, by rw [Int.tmod_eq_emod_of_nonneg (by omega)]; omega, Nat.mod_lt _ (by omega)⟩
    have hu := e0.hu
    have hkc : (up e0.u)[k]? = some (.int .i64 e0.u[k]) := by simp [up, e0.hu, hkl]
    repeat' (first|(refine ycf ?_;apply ybk;(·first|(first|exact tk_|(refine qv_add' rfl rfl rfl)|(refine qv_remr rfl rfl (by omega) hk))|(apply yae;(·rfl);(·(exact cellat_eq ((cells_up2 (sb_past (yaz 1 rfl))).cell hkc) (by omega)))));(·rfl);(·rfl))|(refine ybg 1 rfl rfl rfl rfl (by show 0 + 2 + 0 + (k : Int).toNat * 1 + 1 ≤ (sbc e0).toArray.size;rw [List.size_toArray, hxl];omega) rfl (spl_sbu e0 k hkl _ (by omega)) rfl rfl ?_ ?_ ?_;(·(exact to_));(·(exact to_)))|refine t1_ ?_|(refine ta_ ?_;intro _)|((fail_if_success (refine ybi rfl ?_));refine ybj rfl ?_ ?_<;>(intro ht;rw [ht];first|replace ht := oet_ ht|replace ht := oef_ ht|skip))|(refine ych ?_;first|(refine ybw rfl ?_ ?_<;>intro ht)|(refine ybx rfl ?_ ?_<;>intro ht)))
    obtain ⟨z, hzd⟩ : ∃ z : Sb, z = ⟨e0.d, e0.u.set k (IntKind.i64.wrap (e0.u[k] + 1)), by rw [List.length_set]; exact e0.hu, e0.l, e0.mv, e0.b, e0.bv⟩ := ⟨_, rfl⟩
    rw [← hzd]
    have hz : Rv h z := by rw [hzd]; exact ⟨hv.ds, hv.bs, hv.by8⟩
    have hl' : z.l = e0.l := by rw [hzd]
    have hb' : z.b.length ≤ e0.b.length := by rw [hzd]; exact Nat.le_refl _
    have hzo := hz.one
    have hzl := sbc_len z
    repeat' (first|(refine ycf ?_;apply ybk;(·first|(apply yad (vs := sbc z);(·rfl);(·exact yaz 1 rfl);(·exact hzl)));(·rfl);(·rfl))|(refine ybg 0 rfl rfl rfl (sbc_sz z) (sbc_fit rfl) (sbc_one hzo.1 hzo.2) (ybh (sbc_all rfl)) rfl rfl ?_ ?_ ?_;(·(exact to_));(·(exact to_)))|refine t1_ ?_|(refine ta_ ?_;intro _)|((fail_if_success (refine ybi rfl ?_));refine ybj rfl ?_ ?_<;>(intro ht;rw [ht];first|replace ht := oet_ ht|replace ht := oef_ ht|skip))|(refine ych ?_;first|(refine ybw rfl ?_ ?_<;>intro ht)|(refine ybx rfl ?_ ?_<;>intro ht)))
    exact nx_ret1 rfl (rv_cells rfl (yaz 0 rfl) hzl) (fun w' s' => ⟨(h, z), rfl, s'.nil, hz, hl', hb'⟩)
  · rename_i b1 b2
    obtain ⟨k, hk, hkl⟩ : ∃ k : Nat, ((n : Int).tmod (e0.b.length : Int)) = (k : Int) ∧ k < e0.b.length := ⟨n % e0.b.length, by rw [Int.tmod_eq_emod_of_nonneg (by omega)]; omega, Nat.mod_lt _ hb0⟩
    refine cx_region_draw' rfl (by kernel_rfl) ?_
    have hle : (k : Int) ≤ ((bstr e0.b).size : Int) := by rw [bstr_size]; omega
    have hex : (bstr e0.b).extract 0 (k : Int).toNat = bstr (e0.b.take k) := bstr_take _ _
    have hrem : (n : Int).tmod ((bstr e0.b).size : Int) = (k : Int) := by rw [bstr_size]; exact hk
    have hnz : ((bstr e0.b).size : Int) ≠ 0 := by rw [bstr_size]; omega
    repeat' (refine ycf ?_;(first|(first|(apply ybm;(·(first|(first|exact tk_|(refine qv_remr rfl rfl hnz hrem)|(refine qv_strslice_to rfl rfl (by omega) hle))|(apply yae;(·rfl);(·(exact sb_body' (yaz 1 rfl) hv.bs)))|exact tq_));(·rfl);(·rfl);(·(exact th_)))|refine ybl rfl rfl ?_|((fail_if_success (refine ybi rfl ?_));refine ybj rfl ?_ ?_<;>(intro ht;rw [ht];first|replace ht := oet_ ht|replace ht := oef_ ht|skip))|(refine tb_ ?_ ?_ ?_;(·(exact to_));(·intro _;(exact to_));intro _)|(first|(refine ybg 1 rfl rfl rfl rfl (by show 0 + 19 + 1 ≤ (sbc e0).toArray.size;rw [List.size_toArray, hxl];omega) rfl (spl_sb19 e0 (e0.b.take k) rfl) rfl rfl ?_ ?_ ?_;(·(exact to_));(·(exact to_)))|(refine tqs_ ?_ ?_ ?_;(·(exact to_));(·(exact to_))))|(apply ybn;(·(first|(first|exact tk_|(refine qv_remr rfl rfl hnz hrem)|(refine qv_strslice_to rfl rfl (by omega) hle))|(apply yae;(·rfl);(·(exact sb_body' (yaz 1 rfl) hv.bs)))|exact tq_));(·rfl);(·rfl);(·rfl);(·(exact to_))))|refine ycg ?_))
    rw [hex]
    obtain ⟨z, hzd⟩ : ∃ z : Sb, z = ⟨e0.d, e0.u, e0.hu, e0.l, e0.mv, e0.b.take k, .string (bstr (e0.b.take k))⟩ := ⟨_, rfl⟩
    rw [← hzd]
    have hz : Rv h z := by rw [hzd]; exact ⟨hv.ds, rfl, fun y hy => hv.by8 y (List.mem_of_mem_take hy)⟩
    have hl' : z.l = e0.l := by rw [hzd]
    have hb' : z.b.length ≤ e0.b.length := by rw [hzd, List.length_take]; exact Nat.min_le_right _ _
    have hzo := hz.one
    have hzl := sbc_len z
    repeat' (first|(refine ycf ?_;apply ybk;(·first|(apply yad (vs := sbc z);(·rfl);(·exact yaz 1 rfl);(·exact hzl)));(·rfl);(·rfl))|(refine ybg 0 rfl rfl rfl (sbc_sz z) (sbc_fit rfl) (sbc_one hzo.1 hzo.2) (ybh (sbc_all rfl)) rfl rfl ?_ ?_ ?_;(·(exact to_));(·(exact to_)))|refine t1_ ?_|(refine ta_ ?_;intro _)|((fail_if_success (refine ybi rfl ?_));refine ybj rfl ?_ ?_<;>(intro ht;rw [ht];first|replace ht := oet_ ht|replace ht := oef_ ht|skip))|(refine ych ?_;first|(refine ybw rfl ?_ ?_<;>intro ht)|(refine ybx rfl ?_ ?_<;>intro ht)))
    exact nx_ret1 rfl (rv_cells rfl (yaz 0 rfl) hzl) (fun w' s' => ⟨(h, z), rfl, s'.nil, hz, hl', hb'⟩)
  · rename_i b1 b2
    obtain ⟨z, hzd⟩ : ∃ z : Sb, z = e0 := ⟨_, rfl⟩
    rw [← hzd]
    have hz : Rv h z := by rw [hzd]; exact hv
    have hl' : z.l = e0.l := by rw [hzd]
    have hb' : z.b.length ≤ e0.b.length := by rw [hzd]; exact Nat.le_refl _
    have hzo := hz.one
    have hzl := sbc_len z
    repeat' (first|(refine ycf ?_;apply ybk;(·first|(apply yad (vs := sbc z);(·rfl);(·exact yaz 1 rfl);(·exact hzl)));(·rfl);(·rfl))|(refine ybg 0 rfl rfl rfl (sbc_sz z) (sbc_fit rfl) (sbc_one hzo.1 hzo.2) (ybh (sbc_all rfl)) rfl rfl ?_ ?_ ?_;(·(exact to_));(·(exact to_)))|refine t1_ ?_|(refine ta_ ?_;intro _)|((fail_if_success (refine ybi rfl ?_));refine ybj rfl ?_ ?_<;>(intro ht;rw [ht];first|replace ht := oet_ ht|replace ht := oef_ ht|skip))|(refine ych ?_;first|(refine ybw rfl ?_ ?_<;>intro ht)|(refine ybx rfl ?_ ?_<;>intro ht)))
    exact nx_ret1 rfl (rv_cells rfl (yaz 0 rfl) hzl) (fun w' s' => ⟨(h, z), rfl, s'.nil, hz, rfl, Nat.le_refl _⟩)
end Go.Proofs.YtaofgcahmfailaaGreatDoor
end

section
namespace Go.Ck
open Go
section
variable {P : Program} {ops : Array Oper} {S : World → Prop} {lo bar fl : Nat → Bool} {ms : List Nat} {rk : Nat → Nat}
theorem float_anyD {Q : Exit → Act → World → Prop} (hB : lexOkR ops ms lo bar rk (fun j i => lo j && fl i) = true)
    (hF : ∀ i o y oy, ops[i]? = some o → ops[y]? = some oy → lo i = false → fl y = true → (∃ j, j < ops.size ∧ lo j = true ∧ rk j < rk i) → (ms.getD i 0).testBit y = true ∨ Pass ops lo bar (y, oy) i o) :
    ∀ (fuel : Nat) (prs : List (Nat × Oper)) (listed : Array Bool) (a : Act) (w : World), prs.length ≤ fuel → InvR ops rk listed prs →
      wpG P ops S lo bar fl (Q .normal) prs.length prs a w → wpAny P .any ops Q fuel listed a w := by
  intro fuel
  induction fuel with
  | zero =>
    intro prs listed a w hl inv h
    have : prs = [] := List.eq_nil_of_length_eq_zero (by omega)
    subst this
    refine ⟨?_, h⟩
    cases hr : Region.ready .any ops listed with
    | nil => rfl
    | cons i r =>
      have hi : i ∈ Region.ready .any ops listed := by rw [hr]; exact List.mem_cons_self ..
      obtain ⟨hun, o, ho, _⟩ := mem_ready.1 hi
      obtain ⟨_, hm2⟩ := (inv.left i (Array.getElem?_eq_some_iff.1 ho).1).1 hun
      cases hm2
  | succ fuel ih =>
    intro prs listed a w hl inv h
    refine ⟨fun hr => by rw [headR hB prs listed inv hr] at h; exact h, fun i hi => ?_⟩
    obtain ⟨hun, o, ho, hall⟩ := mem_ready.1 hi
    have hlt := (Array.getElem?_eq_some_iff.1 ho).1
    obtain ⟨o', hm2⟩ := (inv.left i hlt).1 hun
    have : o' = o := by have := inv.pr _ hm2; rw [ho] at this; cases this; rfl
    subst this
    obtain ⟨l1, l2, rfl⟩ := List.append_of_mem hm2
    have hs := inv.sorted
    rw [List.pairwise_append] at hs
    have hlen : (l1 ++ (i, o') :: l2).length = (l1 ++ l2).length + 1 := by simp; omega
    rw [hlen] at h
    have hpass : ∀ p ∈ l1, (lo p.1 && fl i) = false → Pass ops lo bar p i o' := fun p hp hx => passR hB inv ho hi (List.mem_append_left _ hp) (hs.2.2 p hp (i, o') (List.mem_cons_self ..)) hx
    have hb : R1 P ops S (lo i) (bar i) o' (wpG P ops S lo bar fl (Q .normal) (l1 ++ l2).length (l1 ++ l2)) a w := by
      by_cases hfi : fl i = true
      · refine bringX l1 l2 _ hlen (fun p hp => ?_) a w h
        cases hlp : lo p.1 with
        | false => exact .inl ⟨rfl, hpass p hp (by rw [hlp]; rfl)⟩
        | true => exact .inr ⟨rfl, hfi⟩
      · have hfi : fl i = false := by simpa using hfi
        have hpass' : ∀ p ∈ l1, Pass ops lo bar p i o' := fun p hp => hpass p hp (by rw [hfi, Bool.and_false])
        cases hli : lo i with
        | true =>
          rw [← hli]
          refine bringX l1 l2 _ hlen (fun p hp => .inl ⟨?_, hpass' p hp⟩) a w h
          have := (hpass' p hp).2.1
          rw [hli, Bool.true_and] at this
          exact this
        | false =>
          rw [← hli]
          by_cases hloud : ∃ p ∈ l1, lo p.1 = true
          rotate_left
          · refine bringX l1 l2 _ hlen (fun p hp => .inl ⟨?_, hpass' p hp⟩) a w h
            cases hlp : lo p.1 with
            | false => rfl
            | true => exact absurd ⟨p, hp, hlp⟩ hloud
          refine bringQ hli hfi _ l1 l2 hlen hpass' (fun p hp hfp => ?_) a w h
          have hpm : p ∈ l1 ++ (i, o') :: l2 := by
            rcases List.mem_append.1 hp with hp | hp
            · exact List.mem_append_left _ hp
            · exact List.mem_append_right _ (List.mem_cons_of_mem _ hp)
          obtain ⟨pl, hpl, hpl2⟩ := hloud
          have hplo := inv.pr pl (List.mem_append_left _ hpl)
          rcases hF i o' p.1 p.2 ho (inv.pr p hpm) hli hfp ⟨pl.1, (Array.getElem?_eq_some_iff.1 hplo).1, hpl2, hs.2.2 pl hpl (i, o') (List.mem_cons_self ..)⟩ with hbit | hP
          · exfalso
            have hlj := mask_listed (lexOkR_mask hB) inv.closed i o' ho hall p.1 hbit
            have hpl' := (Array.getElem?_eq_some_iff.1 (inv.pr p hpm)).1
            have hun' := (inv.left p.1 hpl').2 ⟨p.2, hpm⟩
            rw [getD_tf (by rw [inv.size]; exact hpl')] at hun'
            rw [hun'] at hlj
            cases hlj
          · exact hP
    exact (R1.mono (fun a' w' h' => ih (l1 ++ l2) (listed.setIfInBounds i true) a' w' (by simp at hl ⊢; omega) (inv.step hi) h') hb).op ho
end
section
variable {P : Program} {ops : Array Oper} {S : World → Prop} {lo bar : Nat → Bool}
def flOkD (ops : Array Oper) (lo bar fl : Nat → Bool) (rk : Nat → Nat) : Bool :=
  (List.range ops.size).all fun y => !fl y || (!bar y && lo y && (List.range ops.size).all fun i => lo i || ((List.range ops.size).all fun j => !lo j || !decide (rk j < rk i)) || ((masks ops).getD i 0).testBit y || (!bar i && match ops[y]?, ops[i]? with
    | some oy, some oi => oy.apart ops oi
    | _, _ => true))
def flo1OkD (ops : Array Oper) (ex : List Nat) (pre l : List Nat) (y : Nat) (r : List Nat) : Bool :=
  lexOkR ops (masks ops) (fun i => ex.contains i) (barOf ops) (rkOf (pre ++ l ++ y :: r)) (fun j i => ex.contains j && Nat.beq i y) && flOkD ops (fun i => ex.contains i) (barOf ops) (fun i => Nat.beq i y) (rkOf (pre ++ l ++ y :: r)) &&
  ((List.range ops.size).all fun i => (pre ++ l ++ y :: r).contains i) && (pre ++ l ++ y :: r).length == ops.size && ((pre ++ l ++ y :: r).all fun i => decide (i < ops.size)) && decide ((pre ++ l ++ y :: r).Pairwise fun i j => rkOf (pre ++ l ++ y :: r) i < rkOf (pre ++ l ++ y :: r) j) &&
  (pre.all fun i => !ex.contains i) && ((pre ++ l ++ r).all fun i => !Nat.beq i y)
theorem wp_region_floD {id : Nat} {Q : Exit → Act → World → Prop} {a : Act} {w : World} (ex pre l : List Nat) (y : Nat) (r : List Nat) (hm : P.follows .mixedOrders = true) (hB : flo1OkD ops ex pre l y r = true)
    (h : wpX P ops S (fun i => ex.contains i) (barOf ops) (wpF P ops S (fun i => ex.contains i) (barOf ops) (Q .normal) (y, nthO ops.toList y) (pickL ops.toList r) (pickL ops.toList l)) (pickL ops.toList pre) a w.drew) : (Code.region id ops true).wp P Q a w := by
  simp only [flo1OkD, Bool.and_eq_true] at hB
  obtain ⟨⟨⟨⟨⟨⟨⟨b1, b2⟩, b3⟩, b4⟩, b5⟩, b6⟩, b7⟩, b8⟩ := hB
  have b4 : (pre ++ l ++ y :: r).length = ops.size := by simpa using b4
  have b6 := oet_ b6
  have hpq : ∀ p ∈ pickL ops.toList pre, (fun i => ex.contains i) p.1 = false := fun p hp => by
    have := List.all_eq_true.1 b7 _ (pickL_mem.1 hp).1
    simpa using this
  have hfl : ∀ m : List Nat, (∀ i ∈ m, i ∈ pre ++ l ++ r) → ∀ p ∈ pickL ops.toList m, (fun i => Nat.beq i y) p.1 = false := fun m hmm p hp => by
    have := List.all_eq_true.1 b8 _ (hmm _ (pickL_mem.1 hp).1)
    simpa using this
  have hF := wpF_app (P := P) (ops := ops) (S := S) (Q := Q .normal) (y := (y, nthO ops.toList y)) (r := pickL ops.toList r) (l := pickL ops.toList l) (pickL ops.toList pre) hpq a w.drew h
  rw [← pickL_append] at hF
  have hG := wpF_G (fun i => Nat.beq i y) (hfl r (fun i hi => by simp [hi])) (pickL ops.toList (pre ++ l)) (hfl (pre ++ l) (fun i hi => List.mem_append_left _ hi)) a w.drew hF
  have hpk : pickL ops.toList (pre ++ l) ++ (y, nthO ops.toList y) :: pickL ops.toList r = pickL ops.toList (pre ++ l ++ y :: r) := by
    rw [pickL_append (pre ++ l)]; rfl
  rw [hpk] at hG
  refine wp_region_any hm (float_anyD (ms := masks ops) (rk := rkOf (pre ++ l ++ y :: r)) b1 (fun i o y' oy hi hy hli hfy hlj => ?_) _ (pickL ops.toList (pre ++ l ++ y :: r)) _ a _ ?_ ⟨?_, ?_, ?_, ?_, ?_⟩ hG)
  · have hil := (Array.getElem?_eq_some_iff.1 hi).1
    have hyl := (Array.getElem?_eq_some_iff.1 hy).1
    have h1 := List.all_eq_true.1 b2 y' (List.mem_range.2 hyl)
    simp only [hfy, Bool.not_true, Bool.false_or, Bool.and_eq_true] at h1
    have h2 := List.all_eq_true.1 h1.2 i (List.mem_range.2 hil)
    obtain ⟨j, hj1, hj2, hj3⟩ := hlj
    have hnot : ((List.range ops.size).all fun j => !ex.contains j || !decide (rkOf (pre ++ l ++ y :: r) j < rkOf (pre ++ l ++ y :: r) i)) = false := by
      rw [List.all_eq_false]
      exact ⟨j, List.mem_range.2 hj1, by simp only [hj2, hj3]; decide⟩
    simp only [hli, hnot, Bool.false_or, hi, hy, Bool.or_eq_true, Bool.and_eq_true] at h2
    have hsel := lexOkR_sel b1
    rcases h2 with h2 | h2
    · exact .inl h2
    refine .inr ⟨h2.2, (by show (ex.contains i && _) = false; rw [hli]; rfl), by simpa using h2.1, by simpa using h1.1.1, fun cs b => Region.noSelect_spec hsel i o cs b hi, fun cs b => Region.noSelect_spec hsel y' oy cs b hy⟩
  · rw [pickL_length]; omega
  · intro p hp
    obtain ⟨h1, h2⟩ := pickL_mem.1 hp
    have hlt : p.1 < ops.size := by simpa using List.all_eq_true.1 b5 _ h1
    have := nthO_ok ops.toList p.1 (by simpa using hlt)
    rw [h2]; simpa using this
  · exact pickL_pair b6
  · intro i hi
    simp only [Array.getD_eq_getD_getElem?, Array.getElem?_replicate, hi, if_true, Option.getD_some, true_iff]
    have := List.all_eq_true.1 b3 i (List.mem_range.2 hi)
    exact ⟨nthO ops.toList i, (pickL_mem (p := (i, nthO ops.toList i))).2 ⟨by simpa using this, rfl⟩⟩
  · intro i o ho hl
    simp only [Array.getD_eq_getD_getElem?, Array.getElem?_replicate] at hl
    split at hl <;> simp at hl
  · simp
end
section
variable {P : Program} {n : Nat} {K : Bs} {F : List (Nat × Value)} {h : View} {L : List Res} {Q : Exit → Act → World → Prop}
theorem cx_region_floD {id : Nat} {ops : Array Oper} (LS : List Res) (ex pre l : List Nat) (y : Nat) (r : List Nat) (hm : P.follows .mixedOrders = true) (hB : flo1OkD ops ex pre l y r = true)
    (hx : RX P n K ⟨ops, Hd h LS, fun i => ex.contains i, barOf ops⟩ (pickL ops.toList pre) F h L (FlQ P ⟨ops, Hd h LS, fun i => ex.contains i, barOf ops⟩ Q l y r)) : CX P n K (.region id ops true) F h L Q := by
  unfold CX
  unfold RX at hx
  exact fun a w f s => wp_region_floD ex pre l y r hm hB (wpX_mono (fun a w h => h.2) _ _ _ (hx a w.drew ⟨f.size, f.dfs, f.get⟩ s.drew))
end
end Go.Ck
end

section
namespace Go.Proofs.YtaofgcahmfailaaGreatDoor
open Go Go.Ck
set_option maxHeartbeats 400000
theorem Real_sp (key : List Int) (hk32 : key.length = 32) (h : View) (w : World) (s : St ⟨w, h, []⟩ h [] w) :
    Calls Tryz.prog 28 [.agg (bcs key).toArray].toArray w fun e w' => ∃ x : View × Nat × Nat × Nat × Nat, e = .returned (.pointer (some ⟨x.2.1, 0, none⟩)) ∧
      St ⟨w, h, []⟩ x.1 [nmR x.2.2.1 [], usR x.2.2.2.1 [], tbR x.2.2.2.2 []] w' ∧ Vb x.1 x.2.1 false key x.2.2.1 x.2.2.2.1 x.2.2.2.2 := by
  have hol : (bcs key).length = 32 := by rw [bcs_len, hk32]
  refine calls_enter Tryz.func28 rfl Tryz.ntmps28 rfl s ?_
  repeat' (first|(refine ycf ?_;apply ybk;(·first|(apply yad;(·rfl);(·exact yaz 0 rfl);(·exact hol)));(·rfl);(·rfl))|(refine ybg 0 rfl rfl rfl (by show (bcs key).toArray.size = 32;simpa using hol) (by show 0 + (bcs key).toArray.size ≤ _;rw [List.size_toArray, hol];exact nble rfl) (List.all_eq_true.2 (bcs_one key)) (ybh (by show (bcs key).length = _;rw [hol];rfl)) rfl rfl ?_ ?_ ?_;(·(exact to_));(·(exact to_)))|refine t1_ ?_|(refine ta_ ?_;intro _)|((fail_if_success (refine ybi rfl ?_));refine ybj rfl ?_ ?_<;>(intro ht;rw [ht];first|replace ht := oet_ ht|replace ht := oef_ ht|skip))|(refine ych ?_;first|(refine ybw rfl ?_ ?_<;>intro ht)|(refine ybx rfl ?_ ?_<;>intro ht)))
  (refine yco (ycp Tryz.func23 rfl (by kernel_rfl) rfl) (vault_sp false key hk32 h) rfl rfl rfl ?_ ?_ ?_; (· (exact to_)); (· intro _ _ hle; (exact to_)); intro x px hle)
  repeat' (first|(refine ycf ?_;apply ybk;(·first|(apply yad;(·rfl);(·exact yaz 0 rfl);(·exact hol)));(·rfl);(·rfl))|(refine ybg 0 rfl rfl rfl (by show (bcs key).toArray.size = 32;simpa using hol) (by show 0 + (bcs key).toArray.size ≤ _;rw [List.size_toArray, hol];exact nble rfl) (List.all_eq_true.2 (bcs_one key)) (ybh (by show (bcs key).length = _;rw [hol];rfl)) rfl rfl ?_ ?_ ?_;(·(exact to_));(·(exact to_)))|refine t1_ ?_|(refine ta_ ?_;intro _)|((fail_if_success (refine ybi rfl ?_));refine ybj rfl ?_ ?_<;>(intro ht;rw [ht];first|replace ht := oet_ ht|replace ht := oef_ ht|skip))|(refine ych ?_;first|(refine ybw rfl ?_ ?_<;>intro ht)|(refine ybx rfl ?_ ?_<;>intro ht)))
  refine nx_ret1 rfl (rv_tmp rfl) (fun w' s' => ⟨x, rfl, ?_, px⟩)
  exact (St.drop (L := [_]) (s'.perm (perm_at (k := 3) rfl)))
end Go.Proofs.YtaofgcahmfailaaGreatDoor
end
