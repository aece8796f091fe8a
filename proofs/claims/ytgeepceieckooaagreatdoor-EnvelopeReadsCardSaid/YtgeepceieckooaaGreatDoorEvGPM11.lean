/-
  Of all bytes the envelope is told, or that they are none: the statement EnvelopeReads holds.
  Conditions: none.
-/
import Derived.Deep.Slices
import Derived.Carry
import Derived.DataReads
import Derived.DataShut
import Derived.Test.YtgeepceieckooaaGreatDoorRows
import Derived.WalkKit
import Derived.ProofKit
import Derived.OpenShut
import Derived.LaidMore
import Derived.Stop.Joined
import Derived.SevenTiedAt
import Derived.Test.YtgeepceieckooaaGreatDoorCards
import Derived.Test.YtgeepceieckooaaGreatDoorTie
import Derived.Test.YtgeepceieckooaaGreatDoorEvGPM10
section
namespace Go.Proofs.YtgeepceieckooaaGreatDoor
open Go Go.Ck
set_option maxRecDepth 100000
set_option maxHeartbeats 4000000
set_option linter.unusedVariables false
def key1 (k : Int) : List Int := k :: List.replicate 31 0
theorem key1_by {k : Int} (h : 0 ≤ k ∧ k < 256) : Bytes (key1 k) := fun x hx => by
  rcases List.mem_cons.1 hx with rfl | hx
  · exact h
  · have := List.eq_of_mem_replicate hx
    omega
def hd1 : Hdr := ⟨1, 1, 1, 1, []⟩
theorem seals_sp (h : View) (w : World) (s : St ⟨w, h, []⟩ h [] w) :
    Calls Tryz.prog 11 [].toArray w fun e w' => ∃ h', e = .returned (.bool true) ∧ St ⟨w, h, []⟩ h' [] w' := by
  have hk : Bytes (key1 1) := key1_by (by omega)
  have hb107 : Bytes [107] := by intro x hx; rw [List.mem_singleton.1 hx]; omega
  have hb108 : Bytes [108] := by intro x hx; rw [List.mem_singleton.1 hx]; omega
  have hbval : Bytes [118, 97, 108, 117, 101] := by
    intro x hx
    simp only [List.mem_cons, List.not_mem_nil, or_false] at hx
    omega
  have hok1 : hd1.ok := by decide
  have hnil : Names [] := fun x hx => by cases hx
  refine calls_enter Tryz.func11 rfl Tryz.ntmps11 rfl s ?_
  repeat' (first|(refine ycf ?_;apply ybk;(·first|(exact qv_build_arr (cs := bcs (key1 1)) rfl rfl));(·rfl);(·rfl))|refine t1_ ?_|(refine ta_ ?_;intro _)|((fail_if_success (refine ybi rfl ?_));refine ybj rfl ?_ ?_<;>(intro ht;rw [ht];first|replace ht := oet_ ht|replace ht := oef_ ht|skip))|(refine ych ?_;first|(refine ybw rfl ?_ ?_<;>intro ht)|(refine ybx rfl ?_ ?_<;>intro ht)))
  (refine yco (ycp Tryz.func20 rfl (by kernel_rfl) rfl) (Ideal_sp (key1 1) rfl h) rfl rfl rfl ?_ ?_ ?_; (· (exact to_)); (· intro _ _ hle; (exact to_)); intro x px hle)
  obtain ⟨h1, bv, bn, bu, bt⟩ := x
  dsimp only at px hle ⊢
  have hv1 : Vb h1 bv true (key1 1) bn bu bt := px
  clear px hle
  repeat' (first|refine tw_ ?_|(refine ta_ ?_;intro _)|((fail_if_success (refine ybi rfl ?_));refine ybj rfl ?_ ?_<;>(intro ht;rw [ht];first|replace ht := oet_ ht|replace ht := oef_ ht|skip))|(refine ych ?_;first|(refine ybw rfl ?_ ?_<;>intro ht)|(refine ybx rfl ?_ ?_<;>intro ht)))
  refine rx_mark 0 rfl rfl rfl (by unfold maxLen; omega) rfl rfl rfl ybf ybf ?_
  refine rx_persist_s rfl fun h2 hle2 hn2 => ?_
  have hn2 : Bs8 h2 (.slice (some ⟨_, 0, none⟩) ([107] : List Int).length 1) [107] := hn2
  have hv2 := hv1.mono hle2
  repeat' (first|refine tw_ ?_|(refine ta_ ?_;intro _)|((fail_if_success (refine ybi rfl ?_));refine ybj rfl ?_ ?_<;>(intro ht;rw [ht];first|replace ht := oet_ ht|replace ht := oef_ ht|skip))|(refine ych ?_;first|(refine ybw rfl ?_ ?_<;>intro ht)|(refine ybx rfl ?_ ?_<;>intro ht)))
  refine rx_mark 0 rfl rfl rfl (by unfold maxLen; omega) rfl rfl rfl ybf ybf ?_
  refine rx_persist_s rfl fun h3 hle3 hval => ?_
  have hval : Bs8 h3 (.slice (some ⟨_, 0, none⟩) ([118, 97, 108, 117, 101] : List Int).length 5) [118, 97, 108, 117, 101] := hval
  have hn3 := hn2.mono hle3
  have hv3 := hv2.mono hle3
  repeat' (first|refine tw_ ?_|(refine ta_ ?_;intro _)|((fail_if_success (refine ybi rfl ?_));refine ybj rfl ?_ ?_<;>(intro ht;rw [ht];first|replace ht := oet_ ht|replace ht := oef_ ht|skip))|(refine ych ?_;first|(refine ybw rfl ?_ ?_<;>intro ht)|(refine ybx rfl ?_ ?_<;>intro ht)))
  refine rx_call_l (ycp Tryz.func9 rfl (by kernel_rfl) rfl) (pick3 1 1 1 rfl rfl rfl) (ESeal_sp bv (key1 1) bn bu bt [] [] [] [107] [118, 97, 108, 117, 101] _ _ (.slice none 0 0) hd1 false hk rfl hnil (by simp) (by simp) (fun x hx => (by cases hx)) hb107 (by simp) hok1 (by simp) hbval (by simp) h3 hv3 hn3 hval (Sc.nil _ _ _ _)) rfl rfl rfl ybf (fun _ _ _ => ybf) ?_
  rintro ⟨h4, pv, sv, tv⟩ htv hle4
  dsimp only at htv hle4 ⊢
  have hek : (blindF (key1 1) [] [107]).length = 32 := drawF_len _ _ _ _ (by omega)
  have hpad : padF (inF false [118, 97, 108, 117, 101]) = num4 6 ++ [1, 118, 97, 108, 117, 101] ++ List.replicate 54 0 := rfl
  have hpl : (padF (inF false [118, 97, 108, 117, 101])).length = 64 := by rw [hpad]; simp [num4_len]
  have hsl : (sealF (key1 1) [] (padF (inF false [118, 97, 108, 117, 101]))).length = 80 := by
    unfold sealF
    rw [drawF_len _ _ _ _ (by omega), hpl]
  have hpb : Bytes (padF (inF false [118, 97, 108, 117, 101])) := padF_by (inF_by hbval)
  have hvf : valF (padF (inF false [118, 97, 108, 117, 101])) = ([118, 97, 108, 117, 101], false, 0) := valF_pad hbval (by simp)
  generalize hse : sealF (key1 1) [] (padF (inF false [118, 97, 108, 117, 101])) = se at hsl htv ⊢
  generalize padF (inF false [118, 97, 108, 117, 101]) = pd at hpl hpb hvf htv ⊢
  have hek2 : blindF (key1 1) [[107]] [107] = blindF (key1 1) [] [107] := rfl
  have hne : blindF (key1 1) [[107]] [108] ≠ blindF (key1 1) [] [107] := blindF_ne _ (by decide) (by decide) (by decide)
  have hadd : addN [] [107] = [[107]] := rfl
  rw [hadd]
  generalize blindF (key1 1) [] [107] = ek at hek hek2 hne ⊢
  refine rx_persist rfl fun h5 hle5 hpv => ?_
  refine rx_persist rfl fun h6 hle6 hsv => ?_
  have hpv : Bs8 h6 pv hd1.past := Sc.mono hpv hle6
  have hsv : Bs8 h6 sv se := hsv
  have hv6 := ((hv3.mono hle4).mono hle5).mono hle6
  have htv6 := (htv.mono hle5).mono hle6
  obtain ⟨_, adp, capp, rfl, hcapp, _⟩ := id hpv
  obtain ⟨_, ads, caps, rfl, hcaps, _⟩ := id hsv
  repeat' (first|(refine ybg 0 rfl rfl rfl (by show (envc ek hd1 _ _).toArray.size = 38;simpa using envc_len hek) (by show 0 + (envc ek hd1 _ _).toArray.size ≤ _;rw [List.size_toArray, envc_len hek];exact nble rfl) (List.all_eq_true.2 (envc_one rfl rfl)) (ybh (by show (envc ek hd1 _ _).length = _;rw [envc_len hek];rfl)) rfl rfl ?_ ?_ ?_;(·(exact to_));(·(exact to_)))|refine t1_ ?_|(refine ta_ ?_;intro _)|((fail_if_success (refine ybi rfl ?_));refine ybj rfl ?_ ?_<;>(intro ht;rw [ht];first|replace ht := oet_ ht|replace ht := oef_ ht|skip))|(refine ych ?_;first|(refine ybw rfl ?_ ?_<;>intro ht)|(refine ybx rfl ?_ ?_<;>intro ht)))
  have htok : TbOk h6 ([] ++ [((hd1.cl, hd1.ct, hd1.ep, bstr (boundF ek hd1), bstr se), tv, pd)]) := fun x hx => by rw [List.mem_singleton.1 hx]; exact htv6
  have htl : ∀ x ∈ (([] : Tab) ++ [((hd1.cl, hd1.ct, hd1.ep, bstr (boundF ek hd1), bstr se), tv, pd)]), x.2.2.length ≤ 900000 ∧ Bytes x.2.2 := fun x hx => by
    rw [List.mem_singleton.1 hx]
    exact ⟨by show pd.length ≤ _; omega, hpb⟩
  have hop1 : openF (key1 1) [[107]] ([] ++ [((hd1.cl, hd1.ct, hd1.ep, bstr (boundF ek hd1), bstr se), tv, pd)]) [107] ek hd1 se = ([118, 97, 108, 117, 101], false, 0) := by
    have hm : mget ([((hd1.cl, hd1.ct, hd1.ep, bstr (boundF ek hd1), bstr se), tv, pd)] : Tab) (hd1.cl, hd1.ct, hd1.ep, bstr (boundF ek hd1), bstr se) = some (tv, pd) := if_pos rfl
    unfold openF
    rw [if_pos hek2, List.nil_append, hm]
    exact hvf
  have hop2 : openF (key1 1) [[107]] ([] ++ [((hd1.cl, hd1.ct, hd1.ep, bstr (boundF ek hd1), bstr se), tv, pd)]) [108] ek hd1 se = ([], false, 6) := by
    unfold openF
    rw [if_neg hne]
  generalize ([] ++ [((hd1.cl, hd1.ct, hd1.ep, bstr (boundF ek hd1), bstr se), tv, pd)] : Tab) = T at htok htl hop1 hop2 ⊢
  have hN1 : Names [[107]] := fun x hx => by rw [List.mem_singleton.1 hx]; exact hb107
  refine rx_mark 0 rfl rfl rfl (by unfold maxLen; omega) rfl rfl rfl ybf ybf ?_
  refine rx_persist_s rfl fun h7 hle7 hn7 => ?_
  have hn7 : Bs8 h7 (.slice (some ⟨_, 0, none⟩) ([107] : List Int).length 1) [107] := hn7
  repeat' (first|(refine ycf ?_;apply ybk;(·first|(first|exact tk_|(apply yad;(·rfl);(·exact yaz 0 rfl);(·exact envc_len hek))));(·rfl);(·rfl))|refine t1_ ?_|(refine ta_ ?_;intro _)|((fail_if_success (refine ybi rfl ?_));refine ybj rfl ?_ ?_<;>(intro ht;rw [ht];first|replace ht := oet_ ht|replace ht := oef_ ht|skip))|(refine ych ?_;first|(refine ybw rfl ?_ ?_<;>intro ht)|(refine ybx rfl ?_ ?_<;>intro ht)))
  have O1 := EOpen_sp bv (key1 1) bn bu bt [[107]] T [107] ek se _ _ _ hd1 hk rfl hek hN1 (by decide) htl hb107 (by decide) hok1 (by omega) h7 (htok.mono hle7) (hv6.mono hle7) hn7 (hpv.mono hle7) (hsv.mono hle7)
  rw [hop1] at O1
  refine rx_call_l (ycp Tryz.func12 rfl (by kernel_rfl) rfl) (pick2 1 2 rfl rfl) O1 rfl rfl rfl ybf (fun _ _ _ => ybf) ?_
  rintro ⟨h8, v1⟩ hv1r hle8
  dsimp only at hv1r hle8 ⊢
  obtain ⟨_, ad1, cap1, rfl, hcap1, _⟩ := id hv1r
  have hadd2 : addN [[107]] [107] = [[107]] := rfl
  rw [hadd2]
  repeat' (first|(refine ycf ?_;apply ybk;(·first|(exact tk_));(·rfl);(·rfl))|refine t1_ ?_|(refine ta_ ?_;intro _)|((fail_if_success (refine ybi rfl ?_));refine ybj rfl ?_ ?_<;>(intro ht;rw [ht];first|replace ht := oet_ ht|replace ht := oef_ ht|skip))|(refine ych ?_;first|(refine ybw rfl ?_ ?_<;>intro ht)|(refine ybx rfl ?_ ?_<;>intro ht)))
  refine rx_mark 0 rfl rfl rfl (by unfold maxLen; omega) rfl rfl rfl ybf ybf ?_
  refine rx_persist_s rfl fun h9 hle9 hn9 => ?_
  have hn9 : Bs8 h9 (.slice (some ⟨_, 0, none⟩) ([108] : List Int).length 1) [108] := hn9
  have hle79 := hle8.trans hle9
  repeat' (first|(refine ycf ?_;apply ybk;(·first|(first|exact tk_|(apply yad;(·rfl);(·exact yaz 2 rfl);(·exact envc_len hek))));(·rfl);(·rfl))|refine t1_ ?_|(refine ta_ ?_;intro _)|((fail_if_success (refine ybi rfl ?_));refine ybj rfl ?_ ?_<;>(intro ht;rw [ht];first|replace ht := oet_ ht|replace ht := oef_ ht|skip))|(refine ych ?_;first|(refine ybw rfl ?_ ?_<;>intro ht)|(refine ybx rfl ?_ ?_<;>intro ht)))
  have O2 := EOpen_sp bv (key1 1) bn bu bt [[107]] T [108] ek se _ _ _ hd1 hk rfl hek hN1 (by decide) htl hb108 (by decide) hok1 (by omega) h9 ((htok.mono hle7).mono hle79) ((hv6.mono hle7).mono hle79) hn9 ((hpv.mono hle7).mono hle79) ((hsv.mono hle7).mono hle79)
  rw [hop2] at O2
  refine rx_call_l (ycp Tryz.func12 rfl (by kernel_rfl) rfl) (pick2 0 0 rfl rfl) O2 rfl rfl rfl ybf (fun _ _ _ => ybf) ?_
  rintro ⟨h10, v2⟩ hv2r hle10
  dsimp only at hv2r hle10 ⊢
  obtain ⟨_, ad2, cap2, rfl, hcap2, _⟩ := id hv2r
  have hv1s := (hv1r.mono hle9).mono hle10
  have hstr : ((bstr [118, 97, 108, 117, 101]).toList == (⟨#[118, 97, 108, 117, 101]⟩ : ByteArray).toList) = true := by
    rw [← beq_toListBytes, ba_beq]
    exact decide_eq_true rfl
  repeat' (first|(refine ycf ?_;apply ybk;(·first|(first|exact tk_|(refine qv_str_bs rfl hv1s)|(refine qv_eql_str rfl rfl hstr))|(apply yae;(·rfl);(·(exact env_seal hek (yaz 2 rfl)))));(·rfl);(·rfl))|refine t1_ ?_|(refine ta_ ?_;intro _)|((fail_if_success (refine ybi rfl ?_));refine ybj rfl ?_ ?_<;>(intro ht;rw [ht];first|replace ht := oet_ ht|replace ht := oef_ ht|skip))|(refine ych ?_;first|(refine ybw rfl ?_ ?_<;>intro ht)|(refine ybx rfl ?_ ?_<;>intro ht)))
  exact nx_ret1 rfl (rv_tmp rfl) (fun w' s' => ⟨h10, rfl, s'.nil⟩)
end Go.Proofs.YtgeepceieckooaaGreatDoor
end

section
namespace Go.Proofs.YtgeepceieckooaaGreatDoor
open Go Go.Ck
set_option maxRecDepth 100000
set_option maxHeartbeats 4000000
set_option linter.unusedVariables false
theorem EnvelopeReads_sp (bv : Value) (l : List Int) (h : View) (hb : Bytes l) (hs : Bs8 h bv l) (hl : l.length ≤ 9223372036854775807) (w : World) (s : St ⟨w, h, []⟩ h [] w) :
    Calls Tryz.prog 4 [bv].toArray w fun e w' => ∃ h', e = .returned (.bool true) ∧ St ⟨w, h, []⟩ h' [] w' := by
  obtain ⟨_, ad, cap, rfl, hcap, _⟩ := id hs
  have hS : ∀ (h : View) (w : World), St ⟨w, h, []⟩ h [] w → Calls Tryz.prog 11 [].toArray w fun e w' => ∃ h' : View, e = .returned (.bool true) ∧ St ⟨w, h, []⟩ h' [] w' ∧ True := fun h w s =>
    (seals_sp h w s).mono fun e w' ⟨h', h1, h2⟩ => ⟨h', h1, h2, trivial⟩
  refine calls_enter Tryz.func4 rfl Tryz.ntmps4 rfl s ?_
  have hj : (if (600 : Int) < (l.length : Int) then (600 : Int) else (l.length : Int)) = ((min l.length 600 : Nat) : Int) := by split<;>omega
  generalize hJ : min l.length 600 = j at hj
  have hjl : j ≤ l.length := by omega
  have hst : Bs8 h (.slice ad j cap) (l.take j) := by
    have htl : (l.take j).length = j := by simp; omega
    have := sc_take hs hjl
    unfold Bs8
    rw [htl]
    simpa [bcs, List.map_take] using this
  have hbm : Bytes (l.take j) := fun b hb' => hb b (List.mem_of_mem_take hb')
  have hml : (l.take j).length ≤ 600 := by simp; omega
  have hjm : (l.take j).length = j := by simp; omega
  generalize l.take j = m at hst hbm hml hjm
  subst hjm
  repeat' (first|(refine ycf ?_;apply ybk;(·first|(first|(refine qv_min' rfl rfl hj)|(apply qv_slice_to;(·rfl);(·rfl);(·omega);(·omega))));(·rfl);(·rfl))|refine t1_ ?_|(refine ta_ ?_;intro _)|((fail_if_success (refine ybi rfl ?_));refine ybj rfl ?_ ?_<;>(intro ht;rw [ht];first|replace ht := oet_ ht|replace ht := oef_ ht|skip))|(refine ych ?_;first|(refine ybw rfl ?_ ?_<;>intro ht)|(refine ybx rfl ?_ ?_<;>intro ht)))
  (refine yco (ycp Tryz.func15 rfl (by kernel_rfl) rfl) (ERead_sp _ m hbm (by omega) h hst) rfl rfl rfl ?_ ?_ ?_; (· (exact to_)); (· intro _ _ hle; (exact to_)); intro x px hle)
  obtain ⟨h1, pv, sv⟩ := x
  have hle1 : Le h h1 := hle
  clear hle
  dsimp only at px ⊢
  have hs1 := hst.mono hle1
  obtain ⟨k1, k2⟩ : (rdOk m → (rdK m).1.length = 32) ∧ (rdOk m → encE (rdK m).1 (rdQ m) (rdZ m).1 = m) := ⟨fun q => rdOk_key hbm (by omega) q, fun q => (rd13_took hbm (by omega) q.1).2⟩
  have R1 := rERead_sp m hbm (by omega) h1
  by_cases hok : rdOk m
  · rw [if_pos hok, decide_eq_true hok] at R1
    rw [if_pos hok, if_pos hok]
    replace k1 := k1 hok
    replace k2 := k2 hok
    obtain ⟨hp, hz⟩ := px hok
    have hq := hok.2.1
    have hzl := hok.2.2
    generalize rdQ m = q at *
    generalize (rdZ m).1 = se at *
    generalize (rdK m).1 = ek at *
    obtain ⟨_, adp, capp, rfl, hcapp, _⟩ := id hp
    obtain ⟨_, ads, caps, rfl, hcaps, _⟩ := id hz
    repeat' (first|(refine ycf ?_;apply ybk;(·first|(first|exact tk_|(refine qv_str_bs rfl hs1)|(apply yad;(·rfl);(·exact yaz 0 rfl);(·exact envc_len k1))));(·rfl);(·rfl))|(refine ybg 0 rfl rfl rfl (by show (envc ek q _ _).toArray.size = 38;simpa using envc_len k1) (by show 0 + (envc ek q _ _).toArray.size ≤ _;rw [List.size_toArray, envc_len k1];exact nble rfl) (List.all_eq_true.2 (envc_one rfl rfl)) (ybh (by show (envc ek q _ _).length = _;rw [envc_len k1];rfl)) rfl rfl ?_ ?_ ?_;(·(exact to_));(·(exact to_)))|refine t1_ ?_|(refine ta_ ?_;intro _)|((fail_if_success (refine ybi rfl ?_));refine ybj rfl ?_ ?_<;>(intro ht;rw [ht];first|replace ht := oet_ ht|replace ht := oef_ ht|skip))|(refine ych ?_;first|(refine ybw rfl ?_ ?_<;>intro ht)|(refine ybx rfl ?_ ?_<;>intro ht)))
    (refine ycn (ycp Tryz.func16 rfl (by kernel_rfl) rfl) (R1) rfl rfl rfl ?_ ?_; (· (exact to_)))
    repeat' (first|(refine ycf ?_;apply ybk;(·first|(first|exact tk_|(refine qv_neq_bool rfl rfl rfl)));(·rfl);(·rfl))|refine t1_ ?_|(refine ta_ ?_;intro _)|((fail_if_success (refine ybi rfl ?_));refine ybj rfl ?_ ?_<;>(intro ht;rw [ht];first|replace ht := oet_ ht|replace ht := oef_ ht|skip))|(refine ych ?_;first|(refine ybw rfl ?_ ?_<;>intro ht)|(refine ybx rfl ?_ ?_<;>intro ht)))
    (refine yco (ycp Tryz.func11 rfl (by kernel_rfl) rfl) (hS h1) rfl rfl rfl ?_ ?_ ?_; (· (exact to_)); (· intro _ _ hle; (exact to_)); intro x px hle)
    obtain ⟨h2, rfl⟩ : ∃ y, y = x := ⟨x, rfl⟩
    have hle2 : Le h1 h2 := hle
    clear px hle
    have hp2 := hp.mono hle2
    have hz2 := hz.mono hle2
    have hs2 := hs1.mono hle2
    repeat' (first|(refine ycf ?_;apply ybk;(·first|(first|exact tk_|(refine qv_neq_bool rfl rfl rfl)|(apply yad;(·rfl);(·exact yaz 1 rfl);(·exact envc_len k1))));(·rfl);(·rfl))|refine t1_ ?_|(refine ta_ ?_;intro _)|((fail_if_success (refine ybi rfl ?_));refine ybj rfl ?_ ?_<;>(intro ht;rw [ht];first|replace ht := oet_ ht|replace ht := oef_ ht|skip))|(refine ych ?_;first|(refine ybw rfl ?_ ?_<;>intro ht)|(refine ybx rfl ?_ ?_<;>intro ht)))
    (refine yco (ycp Tryz.func17 rfl (by kernel_rfl) rfl) (EWrite_sp ek q _ _ se k1 hq hzl h2 hp2 hz2) rfl rfl rfl ?_ ?_ ?_; (· (exact to_)); (· intro _ _ hle; (exact to_)); intro x px hle)
    rw [k2]
    refine rx_persist rfl fun h3 hle3 hc3 => ?_
    have hc3 : Bs8 h3 x m := hc3
    have hp3 := hp2.mono hle3
    have hz3 := hz2.mono hle3
    have hs3 := hs2.mono hle3
    obtain ⟨_, adc, capc, rfl, hcapc, _⟩ := id hc3
    repeat' (first|(refine ycf ?_;apply ybk;(·first|(first|exact tk_|(refine qv_neq_bool rfl rfl rfl)|(apply yad;(·rfl);(·exact yaz 1 rfl);(·exact envc_len k1))));(·rfl);(·rfl))|refine t1_ ?_|(refine ta_ ?_;intro _)|((fail_if_success (refine ybi rfl ?_));refine ybj rfl ?_ ?_<;>(intro ht;rw [ht];first|replace ht := oet_ ht|replace ht := oef_ ht|skip))|(refine ych ?_;first|(refine ybw rfl ?_ ?_<;>intro ht)|(refine ybx rfl ?_ ?_<;>intro ht)))
    refine cx_region_draw' rfl (by kernel_rfl) ?_
    repeat' (refine ycf ?_;(first|(first|(apply ybm;(·(first|(first|exact tk_|(refine qv_neq_bool rfl rfl rfl)|(apply yad;(·rfl);(·exact yaz 1 rfl);(·exact envc_len k1)))|exact tq_));(·rfl);(·rfl);(·(exact th_)))|refine ybl rfl rfl ?_|((fail_if_success (refine ybi rfl ?_));refine ybj rfl ?_ ?_<;>(intro ht;rw [ht];first|replace ht := oet_ ht|replace ht := oef_ ht|skip))|(refine tb_ ?_ ?_ ?_;(·(exact to_));(·intro _;(exact to_));intro _)|(first|(refine tqs_ ?_ ?_ ?_;(·(exact to_));(·(exact to_))))|(apply ybn;(·(first|(first|exact tk_|(refine qv_neq_bool rfl rfl rfl)|(apply yad;(·rfl);(·exact yaz 1 rfl);(·exact envc_len k1)))|exact tq_));(·rfl);(·rfl);(·rfl);(·(exact to_))))|refine ycg ?_))
    (refine ycn (ycp Tryz.func18 rfl (by kernel_rfl) rfl) (from_sp ek q _ _ se k1 h3 hp3 hz3) rfl rfl rfl ?_ ?_; (· (exact to_)))
    repeat' (refine ycf ?_;(first|(first|(apply ybm;(·(first|(first|exact tk_|(refine qv_eql_agg rfl rfl (renv_refl ek q se))|(refine qv_str_bs rfl hc3)|(refine qv_str_bs rfl hs3)|(refine qv_eql_str rfl rfl (beq_self_eq_true _))|(apply yad (vs := renv ek q se);(·rfl);(·exact yaz 0 rfl);(·rfl)))|exact tq_));(·rfl);(·rfl);(·(exact th_)))|refine ybl rfl rfl ?_|((fail_if_success (refine ybi rfl ?_));refine ybj rfl ?_ ?_<;>(intro ht;rw [ht];first|replace ht := oet_ ht|replace ht := oef_ ht|skip))|(refine tb_ ?_ ?_ ?_;(·(exact to_));(·intro _;(exact to_));intro _)|(first|(refine tqs_ ?_ ?_ ?_;(·(exact to_));(·(exact to_))))|(apply ybn;(·(first|(first|exact tk_|(refine qv_eql_agg rfl rfl (renv_refl ek q se))|(refine qv_str_bs rfl hc3)|(refine qv_str_bs rfl hs3)|(refine qv_eql_str rfl rfl (beq_self_eq_true _))|(apply yad (vs := renv ek q se);(·rfl);(·exact yaz 0 rfl);(·rfl)))|exact tq_));(·rfl);(·rfl);(·rfl);(·(exact to_))))|refine ycg ?_))
    repeat' (first|(refine ycf ?_;apply ybk;(·first|(first|exact tk_|(refine qv_eql_agg rfl rfl (renv_refl ek q se))|(refine qv_str_bs rfl hc3)|(refine qv_str_bs rfl hs3)|(refine qv_eql_str rfl rfl (beq_self_eq_true _))|(apply yad (vs := renv ek q se);(·rfl);(·exact yaz 0 rfl);(·rfl))));(·rfl);(·rfl))|refine t1_ ?_|(refine ta_ ?_;intro _)|((fail_if_success (refine ybi rfl ?_));refine ybj rfl ?_ ?_<;>(intro ht;rw [ht];first|replace ht := oet_ ht|replace ht := oef_ ht|skip))|(refine ych ?_;first|(refine ybw rfl ?_ ?_<;>intro ht)|(refine ybx rfl ?_ ?_<;>intro ht)))
    exact nx_ret1 rfl (rv_tmp rfl) (fun w' s' => ⟨h3, rfl, s'.nil⟩)
  · rw [if_neg hok, decide_eq_false hok] at R1
    rw [if_neg hok, if_neg hok]
    repeat' (first|(refine ycf ?_;apply ybk;(·first|(first|exact tk_|(refine qv_str_bs rfl hs1)));(·rfl);(·rfl))|(refine ybg 0 rfl rfl rfl rfl (Nat.le_of_ble_eq_true rfl) rfl (ybh (z := zEnv.toList) rfl) rfl rfl ?_ ?_ ?_;(·(exact to_));(·(exact to_)))|refine t1_ ?_|(refine ta_ ?_;intro _)|((fail_if_success (refine ybi rfl ?_));refine ybj rfl ?_ ?_<;>(intro ht;rw [ht];first|replace ht := oet_ ht|replace ht := oef_ ht|skip))|(refine ych ?_;first|(refine ybw rfl ?_ ?_<;>intro ht)|(refine ybx rfl ?_ ?_<;>intro ht)))
    (refine ycn (ycp Tryz.func16 rfl (by kernel_rfl) rfl) (R1) rfl rfl rfl ?_ ?_; (· (exact to_)))
    repeat' (first|(refine ycf ?_;apply ybk;(·first|(first|exact tk_|(refine qv_neq_bool rfl rfl rfl)));(·rfl);(·rfl))|refine t1_ ?_|(refine ta_ ?_;intro _)|((fail_if_success (refine ybi rfl ?_));refine ybj rfl ?_ ?_<;>(intro ht;rw [ht];first|replace ht := oet_ ht|replace ht := oef_ ht|skip))|(refine ych ?_;first|(refine ybw rfl ?_ ?_<;>intro ht)|(refine ybx rfl ?_ ?_<;>intro ht)))
    (refine yco (ycp Tryz.func11 rfl (by kernel_rfl) rfl) (hS h1) rfl rfl rfl ?_ ?_ ?_; (· (exact to_)); (· intro _ _ hle; (exact to_)); intro x px hle)
    repeat' (first|(refine ycf ?_;apply ybk;(·first|(first|exact tk_|(refine qv_neq_bool rfl rfl rfl)));(·rfl);(·rfl))|refine t1_ ?_|(refine ta_ ?_;intro _)|((fail_if_success (refine ybi rfl ?_));refine ybj rfl ?_ ?_<;>(intro ht;rw [ht];first|replace ht := oet_ ht|replace ht := oef_ ht|skip))|(refine ych ?_;first|(refine ybw rfl ?_ ?_<;>intro ht)|(refine ybx rfl ?_ ?_<;>intro ht)))
    exact nx_ret1 rfl (rv_tmp rfl) (fun w' s' => ⟨x, rfl, s'.nil⟩)
end Go.Proofs.YtgeepceieckooaaGreatDoor
end

section
namespace Go.Ck
open Go Go.ChangeShapes
set_option linter.unusedVariables false
set_option maxHeartbeats 1000000
section
variable {H : Type} {enc : TypeId × Value → H} {P : Program} {w : World} {base : Nat} {spare : Nat → Bool} {held : Bool}
theorem cells_get' {a : Addr} {n : Nat} {cs : List Value} (h : w.cells? base a n = some cs) {j : Nat} {u : Value} (hj : cs[j]? = some u) : w.cell? (a.add j) = some u := by
  unfold World.cells? at h
  split at h
  · have hl := mapM_some_length h
    have hjl : j < cs.length := (List.getElem?_eq_some_iff.1 hj).1
    have := mapM_some_get h j j (by rw [List.length_range] at hl; exact List.getElem?_range (by omega))
    rw [this, hj]
  · cases h
theorem trod_slice_of {T e k : Nat} {α : Type} {en : α → List Value} {R : α → Prop} (tu : P.underlying T = some (.slice e)) (hc : P.cellsOf e = k) (hk0 : 0 < k) (hlen : ∀ x, (en x).length = k)
    (hel : ∀ (m : Nat) (cs : List Value) (y : DataW H × List MemPlace), DataW.trod enc P w base spare held m e cs = some y → ∃ x : α, R x ∧ cs = en x)
    {m : Nat} {cs : List Value} {y : DataW H × List MemPlace} (h : DataW.trod enc P w base spare held m T cs = some y) :
    ∃ (v : Value) (l : List α), cs = [v] ∧ Sc (fun b => w.heap[b]?) k v l.length (l.flatMap en) ∧ l.length ≤ maxLen ∧ ∀ x ∈ l, R x := by
  subst hc
  rcases Go.Deep.open_slice tu h with ⟨rfl, _⟩ | ⟨a, len, cap, q, n, D, Pl, rfl, _, h1, h2, hk, _, hall⟩
  · exact ⟨_, [], rfl, Sc.nil _ _ none 0, Nat.zero_le _, fun x hx => by cases hx⟩
  · have hkl : len ≤ q := by rw [hk]; split <;> omega
    have hex : ∀ i, i < len → ∃ d : α, R d ∧ w.cells? base (a.add (i * P.cellsOf e)) (P.cellsOf e) = some (en d) := fun i hi => by
      obtain ⟨cs', e1, e2⟩ := hall i (by omega)
      obtain ⟨d, hr, rfl⟩ := hel _ _ _ e2
      exact ⟨d, hr, e1⟩
    generalize P.cellsOf e = k at hex hk0 hlen ⊢
    by_cases h0 : len = 0
    · subst h0
      exact ⟨_, [], rfl, ⟨by simp, some a, cap, rfl, Nat.zero_le _, .inl rfl⟩, Nat.zero_le _, fun x hx => by cases hx⟩
    obtain ⟨d0, _⟩ := hex 0 (by omega)
    obtain ⟨f, hf'⟩ : ∃ f : Nat → α, ∀ i, i < len → R (f i) ∧ w.cells? base (a.add (i * k)) k = some (en (f i)) := by
      classical
      exact ⟨fun i => if hi : i < len then (hex i hi).choose else d0, fun i hi => by
        dsimp only
        rw [dif_pos hi]
        exact (hex i hi).choose_spec⟩
    have hf := fun i hi => (hf' i hi).2
    refine ⟨_, (List.range len).map f, rfl, ⟨?_, some a, cap, by simp, by simpa using h1, ?_⟩, by simp; omega, fun x hx => ?_⟩
    · rw [flat_len hlen]
    · refine .inr ?_
      have hc00 : 0 < (en (f 0)).length := by rw [hlen]; exact hk0
      have hc0 := cells_get' (hf 0 (by omega)) (j := 0) (List.getElem?_eq_getElem hc00)
      obtain ⟨b, o, sp⟩ := a
      have hadd : ∀ i j, ((⟨b, o, sp⟩ : Addr).add i).add j = (⟨b, o, sp⟩ : Addr).add (i + j) := fun i j => Go.Deep.add_add _ i j
      rw [hadd] at hc0
      have hblk : ((⟨b, o, sp⟩ : Addr).add (0 * k + 0)) = ⟨b, o, sp⟩ := by simp [Addr.add]
      rw [hblk] at hc0
      unfold World.cell? at hc0
      split at hc0
      · rename_i c e fz hb
        split at hc0
        · cases hc0
        · rename_i hsp
          have hsp' : sp = none := by simpa using hsp
          subst hsp'
          refine ⟨b, o, c, e, fz, rfl, hb, fun j u hj => ?_⟩
          have hjl : j < len * k := by
            have := (List.getElem?_eq_some_iff.1 hj).1
            rw [flat_len hlen] at this
            simpa using this
          have hjk : j / k < len := Nat.div_lt_of_lt_mul (by rw [Nat.mul_comm]; exact hjl)
          have hd : j / k < ((List.range len).map f).length := by simpa using hjk
          have e1 : (((List.range len).map f).flatMap en)[j]? = (en (f (j / k)))[j % k]? := by
            have := flat_at hlen ((List.range len).map f) (j / k) hd
            have e3 : ((List.range len).map f)[j / k] = f (j / k) := by simp
            rw [e3] at this
            rw [← this, List.getElem?_take_of_lt (Nat.mod_lt _ hk0), List.getElem?_drop]
            congr 1
            rw [Nat.mul_comm]
            exact (Nat.div_add_mod j k).symm
          rw [e1] at hj
          have := cells_get' (hf (j / k) hjk) hj
          rw [hadd, Addr.add_off] at this
          unfold World.cell? at this
          simp only [hb] at this
          simp only [Option.isSome_none, Bool.false_eq_true, if_false] at this
          have ej : j / k * k + j % k = j := by rw [Nat.mul_comm]; exact Nat.div_add_mod j k
          rw [ej] at this
          exact this
      · cases hc0
    · obtain ⟨i, hi, rfl⟩ := List.mem_map.1 hx
      exact (hf' i (by simpa using hi)).1
end
end Go.Ck
end

section
namespace Go.Proofs.YtgeepceieckooaaGreatDoor
open Go Go.Ck Go.ChangeShapes
set_option maxRecDepth 100000
set_option maxHeartbeats 1000000
set_option linter.unusedVariables false
theorem cellsByte : Tryz.prog.cellsOf 5 = 1 := by kernel_rfl
theorem bcs_flat (l : List Int) : l.flatMap (fun n => [Value.int .u8 n]) = bcs l := by
  induction l with
  | nil => rfl
  | cons x l ih => rw [List.flatMap_cons, ih]; rfl
theorem trod_bs {H : Type} {enc : TypeId × Value → H} {w : World} {base : Nat} {spare : Nat → Bool} {held : Bool} {m : Nat} {cs : List Value} {y : DataW H × List MemPlace} (h : DataW.trod enc Tryz.prog w base spare held m 22 cs = some y) :
    ∃ (v : Value) (l : List Int), cs = [v] ∧ Bs8 (fun b => w.heap[b]?) v l ∧ Bytes l ∧ l.length ≤ maxLen := by
  obtain ⟨v, l, h1, h2, h3, h4⟩ := trod_slice_of (en := fun n : Int => [Value.int .u8 n]) (R := fun n => 0 ≤ n ∧ n < 256) Tryz.underlying22 cellsByte (by decide) (fun _ => rfl) (fun m cs y hy => by
    obtain ⟨n, e1, _, e3⟩ := DataW.trod_int Tryz.underlying5 hy
    obtain ⟨q1, q2⟩ := (Lit.wf_int_iff .u8 n).1 e3
    have m1 : IntKind.u8.min = 0 := by decide
    have m2 : IntKind.u8.max = 255 := by decide
    exact ⟨n, ⟨by omega, by omega⟩, e1⟩) h
  rw [bcs_flat] at h2
  exact ⟨v, l, h1, h2, h4, h3⟩
end Go.Proofs.YtgeepceieckooaaGreatDoor
end

section
namespace Go.Proofs.YtgeepceieckooaaGreatDoor.envelopeReads
open Go Go.Ck Go.ChangeShapes Go.WideShapes Go.ChangeAt Go.RowKit
set_option maxRecDepth 100000
set_option maxHeartbeats 1000000
set_option linter.unusedVariables false
theorem laidOut : laidOutB Tryz.prog = true := by kernel_rfl
theorem own : ownKnob Tryz.prog.godebug = none := by kernel_rfl
theorem door_met (os : Os) (args : Array Value) : laidMetH Tryz.prog Rows.envelopeReadsRow.laid ((World.doorLaid Tryz.prog 400 os).forCall (fun _ _ => 0) ⟨#[], args, []⟩).memory :=
  laidMetH_of_parts3 (fuel := 8) (laidMet_of_run' 8 (by kernel_rfl) (by kernel_rfl)) (by kernel_rfl) (by kernel_rfl)
theorem contract (H : Type) (enc : TypeId × Value → H) (W : World) (base : Nat) (args : Array Value) (ds gs : List (DataW H)) (before : List MemPlace)
    (hval : ∀ (j : Nat) t v, Tryz.f4.params[j]? = some t → args[j]? = some v → Value.okWide Tryz.prog W .any base t v)
    (hW : DataW.Whole enc Tryz.prog Tryz.f4.params.toList Rows.envelopeReadsSpec.vars false W args.toList ds gs before) (hL : laidMetH Tryz.prog Rows.envelopeReadsRow.laid W) :
    Calls Tryz.prog 4 args W fun e W' => ∃ v, e = .returned v ∧ Rows.envelopeReadsSpec.post enc Tryz.prog Tryz.f4 false true false false W args v W' := by
  have hW' := hW
  obtain ⟨p, q, hA0, hV, rfl, hfz, hnd⟩ := hW
  have hA : DataW.TrodAll enc Tryz.prog W 0 (fun _ => true) true Tryz.f4.params.toList args.toList ds p := hA0
  rw [Tryz.params4] at hA hval
  obtain ⟨v0, vs0, d0, ds0, p0, q0, hargs0, rfl, rfl, h0, r0⟩ := trodAll_cons hA
  obtain ⟨rfl, rfl, rfl⟩ := trodAll_nil r0
  obtain rfl : args = #[v0] := by cases args; simp_all
  obtain ⟨rfl, rfl⟩ := trodVars_none hV
  obtain ⟨a0, len0, cap0, rfl⟩ := okWide_slice Tryz.underlying22 (hval 0 22 v0 rfl rfl)
  obtain ⟨fu0, g0⟩ := id h0
  obtain ⟨sv0, l0, hsv0, hd0, hb0, hl0⟩ := trod_bs g0
  obtain rfl : Value.slice a0 len0 cap0 = sv0 := by
    have e : (Value.slice a0 len0 cap0).cells.toList = [Value.slice a0 len0 cap0] := rfl
    rw [e] at hsv0
    exact (List.cons.inj hsv0).1
  have hl0 : l0.length ≤ 9223372036854775807 := by unfold maxLen at hl0; omega
  have hst : St ⟨W, fun b => W.heap[b]?, []⟩ (fun b => W.heap[b]?) [] W := St.start (L := []) ⟨fun b o hb => hb, fun r hr => (by cases hr)⟩ (by simp [doms]) (fun b hb => (by simp [doms] at hb))
  refine (EnvelopeReads_sp _ l0 _ hb0 hd0 hl0 W hst).mono fun e W' ⟨h', he, s'⟩ => ?_
  subst he
  have hb : Below W.heap.size W W' := ⟨s'.os, s'.tape, s'.output, s'.size, fun k hk => s'.keep k hk (by simp)⟩
  simp only [List.append_nil] at hW'
  have hlt0 : ∀ x ∈ p0, x.block < W.heap.size := fun x hx => by simpa using hW'.lt x (by simp [hx])
  exact ⟨_, rfl, _, _, _, [], p0, [], hW', trodAll_cons_mk (shut_bool Tryz.underlying4 _) trodAll_mk0,
    by
      have h := (trodAll_cons_mk (Below.trod laidOut (by kernel_rfl) (oet_ (by kernel_rfl)) h0 hb hlt0) trodAll_mk0)
      simp only [List.append_nil] at h
      exact h,
    rfl, hb.frame _, fun h => by cases h⟩
set_option maxRecDepth 100000 in
theorem lifted (os : Os) (started : os.Started) (H : Type) (enc : TypeId × Value → H) :
    ReturnsInHanded {} Tryz.checked os 4 .any (fun w args => (Rows.envelopeReadsSpec.pre enc Tryz.prog Tryz.f4 Rows.envelopeReadsRow.domain false w args ∧ laidMetH Tryz.prog Rows.envelopeReadsRow.laid w) ∧ sizedMet enc Tryz.prog Tryz.f4 (OpenSpec.ofChange Rows.envelopeReadsSpec) false w args) (Rows.envelopeReadsSpec.post enc Tryz.prog Tryz.f4 false true false false) := by
  refine returnsInHanded_of_change_and (C := Tryz.checked) (X := fun w _ => laidMetH Tryz.prog Rows.envelopeReadsRow.laid w) (fun _ _ _ hh h => h.of_heap hh) own started (by kernel_rfl) Tryz.func4
    (ChangeSpec.witness_shaped (enc := enc) (C := Tryz.checked) (os := os) (X := fun w _ => laidMetH Tryz.prog Rows.envelopeReadsRow.laid w) false (World.doorLaid Tryz.prog 400 os) #[.slice none 0 0] 8 rfl (World.shaped_of_RefB (by kernel_rfl) (by kernel_rfl)) (by kernel_rfl) (by kernel_rfl) (by kernel_rfl) (door_met os _)) ?_
  intro W base args ds gs before hval hW _ _ hL _
  exact contract H enc W base args ds gs before hval hW hL
theorem over : Rows.EnvelopeReadsSaid :=
  OpenClaim.holds_of_wide 4 Tryz.f4 rfl rfl rfl rfl rfl rfl rfl ⟨rfl, rfl, rfl, rfl, rfl⟩ rfl rfl rfl rfl rfl (by kernel_rfl) Tryz.func4 (by kernel_rfl)
    (oet_ (by kernel_rfl)) (by unfold Func.isWrapper;first|(rw [if_pos (by decide +kernel)];kernel_rfl)|(rw [if_neg (by decide +kernel)];exact ⟨rfl, rfl⟩))
    (fun os started H enc _ => lifted os started H enc)
theorem proved : Rows.EnvelopeReadsCardSaid :=
  Claim7.holds_tied_plain_at .later [] Rows.envelopeReadsCard.laidKinds true Rows.envelopeReadsCard.stood.harness false
    over (fun _ h => by cases h) (by kernel_rfl) (fun _ h => by cases h) envelopeReads_row_tie rfl ⟨rfl, rfl⟩ (by kernel_rfl) rfl
    (fun f fn hf hfn => by
      obtain rfl : f = 4 := Option.some.inj ((show Tryz.prog.funcNamed "casket/casketlaw13.EnvelopeReads" = some 4 by kernel_rfl).symm.trans hf) |>.symm
      obtain rfl : fn = Tryz.f4 := (Option.some.inj (Tryz.func4.symm.trans hfn)).symm
      exact ⟨by kernel_rfl, fun j t ht => by
        rw [Tryz.params4] at ht
        have hm : t ∈ [22] := by simpa using Array.mem_of_getElem? ht
        have hall : ([22].all fun u => !Tryz.prog.wantsStandIn u) = true := by kernel_rfl
        exact (show Tryz.prog.wantsStandIn t = false by simpa using List.all_eq_true.1 hall t hm)⟩)
    (by kernel_rfl)
end Go.Proofs.YtgeepceieckooaaGreatDoor.envelopeReads
end
