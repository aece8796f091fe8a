/-
  By an ideal vault what was sealed is refused once any part of it is changed: the statement EnvelopeForged holds.
  Conditions: none.
-/
import Derived.Deep.Slices
import Derived.Carry
import Derived.DataReads
import Derived.DataShut
import Derived.Test.YtgeepceieckooaaDoorRows
import Derived.WalkKit
import Derived.ProofKit
import Derived.OpenShut
import Derived.LaidMore
import Derived.Stop.Joined
import Derived.SevenTiedAt
import Derived.Test.YtgeepceieckooaaDoorCards
import Derived.Test.YtgeepceieckooaaDoorTie
import Derived.Test.YtgeepceieckooaaDoorVaTPM8
section
namespace Go.Proofs.YtgeepceieckooaaDoor
open Go Go.Ck
set_option maxRecDepth 100000
set_option maxHeartbeats 4000000
set_option linter.unusedVariables false
def key1 (k : Int) : List Int := k :: List.replicate 31 0
theorem key1_by {k : Int} (h : 0 ≤ k ∧ k < 256) : Bytes (key1 k) := fun x hx => by
  rcases List.mem_cons.1 hx with rfl | hx
  · exact h
  · have := List.eq_of_mem_replicate hx
    omega
def hd1 : Hdr := ⟨1, 1, 1, 1, []⟩
theorem seals_sp (h : View) (w : World) (s : St ⟨w, h, []⟩ h [] w) :
    Calls Tryd.prog 7 [].toArray w fun e w' => ∃ h', e = .returned (.bool true) ∧ St ⟨w, h, []⟩ h' [] w' := by
  have hk : Bytes (key1 1) := key1_by (by omega)
  have hb107 : Bytes [107] := by intro x hx; rw [List.mem_singleton.1 hx]; omega
  have hb108 : Bytes [108] := by intro x hx; rw [List.mem_singleton.1 hx]; omega
  have hbval : Bytes [118, 97, 108, 117, 101] := by
    intro x hx
    simp only [List.mem_cons, List.not_mem_nil, or_false] at hx
    omega
  have hok1 : hd1.ok := by decide
  have hnil : Names [] := fun x hx => by cases hx
  refine calls_enter Tryd.func7 rfl Tryd.ntmps7 rfl s ?_
  repeat' (first|(refine ycf ?_;apply ybk;(·first|(exact qv_build_arr (cs := bcs (key1 1)) rfl rfl));(·rfl);(·rfl))|refine t1_ ?_|(refine ta_ ?_;intro _)|((fail_if_success (refine ybi rfl ?_));refine ybj rfl ?_ ?_<;>(intro ht;rw [ht];first|replace ht := oet_ ht|replace ht := oef_ ht|skip))|(refine ych ?_;first|(refine ybw rfl ?_ ?_<;>intro ht)|(refine ybx rfl ?_ ?_<;>intro ht)))
  (refine yco (ycp Tryd.func5 rfl (by kernel_rfl) rfl) (Ideal_sp (key1 1) rfl h) rfl rfl rfl ?_ ?_ ?_; (· (exact to_)); (· intro _ _ hle; (exact to_)); intro x px hle)
  obtain ⟨h1, bv, bn, bu, bt⟩ := x
  dsimp only at px hle ⊢
  have hv1 : Vb h1 bv true (key1 1) bn bu bt := px
  clear px hle
  repeat' (first|refine tw_ ?_|(refine ta_ ?_;intro _)|((fail_if_success (refine ybi rfl ?_));refine ybj rfl ?_ ?_<;>(intro ht;rw [ht];first|replace ht := oet_ ht|replace ht := oef_ ht|skip))|(refine ych ?_;first|(refine ybw rfl ?_ ?_<;>intro ht)|(refine ybx rfl ?_ ?_<;>intro ht)))
  refine rx_mark 0 rfl rfl rfl (by unfold maxLen; omega) rfl rfl rfl ybf ybf ?_
  refine rx_persist_s rfl fun h2 hle2 hn2 => ?_
  have hn2 : Bs8 h2 (.slice (some ⟨_, 0, none⟩) ([107] : List Int).length 1) [107] := hn2
  have hv2 := hv1.mono hle2
  repeat' (first|refine tw_ ?_|(refine ta_ ?_;intro _)|((fail_if_success (refine ybi rfl ?_));refine ybj rfl ?_ ?_<;>(intro ht;rw [ht];first|replace ht := oet_ ht|replace ht := oef_ ht|skip))|(refine ych ?_;first|(refine ybw rfl ?_ ?_<;>intro ht)|(refine ybx rfl ?_ ?_<;>intro ht)))
  refine rx_mark 0 rfl rfl rfl (by unfold maxLen; omega) rfl rfl rfl ybf ybf ?_
  refine rx_persist_s rfl fun h3 hle3 hval => ?_
  have hval : Bs8 h3 (.slice (some ⟨_, 0, none⟩) ([118, 97, 108, 117, 101] : List Int).length 5) [118, 97, 108, 117, 101] := hval
  have hn3 := hn2.mono hle3
  have hv3 := hv2.mono hle3
  repeat' (first|refine tw_ ?_|(refine ta_ ?_;intro _)|((fail_if_success (refine ybi rfl ?_));refine ybj rfl ?_ ?_<;>(intro ht;rw [ht];first|replace ht := oet_ ht|replace ht := oef_ ht|skip))|(refine ych ?_;first|(refine ybw rfl ?_ ?_<;>intro ht)|(refine ybx rfl ?_ ?_<;>intro ht)))
  refine rx_call_l (ycp Tryd.func6 rfl (by kernel_rfl) rfl) (pick3 1 1 1 rfl rfl rfl) (ESeal_sp bv (key1 1) bn bu bt [] [] [] [107] [118, 97, 108, 117, 101] _ _ (.slice none 0 0) hd1 false hk rfl hnil (by simp) (by simp) (fun x hx => (by cases hx)) hb107 (by simp) hok1 (by simp) hbval (by simp) h3 hv3 hn3 hval (Sc.nil _ _ _ _)) rfl rfl rfl ybf (fun _ _ _ => ybf) ?_
  rintro ⟨h4, pv, sv, tv⟩ htv hle4
  dsimp only at htv hle4 ⊢
  have hek : (blindF (key1 1) [] [107]).length = 32 := drawF_len _ _ _ _ (by omega)
  have hpad : padF (inF false [118, 97, 108, 117, 101]) = num4 6 ++ [1, 118, 97, 108, 117, 101] ++ List.replicate 54 0 := rfl
  have hpl : (padF (inF false [118, 97, 108, 117, 101])).length = 64 := by rw [hpad]; simp [num4_len]
  have hsl : (sealF (key1 1) [] (padF (inF false [118, 97, 108, 117, 101]))).length = 80 := by
    unfold sealF
    rw [drawF_len _ _ _ _ (by omega), hpl]
  have hpb : Bytes (padF (inF false [118, 97, 108, 117, 101])) := padF_by (inF_by hbval)
  have hvf : valF (padF (inF false [118, 97, 108, 117, 101])) = ([118, 97, 108, 117, 101], false, 0) := valF_pad hbval (by simp)
  generalize hse : sealF (key1 1) [] (padF (inF false [118, 97, 108, 117, 101])) = se at hsl htv ⊢
  generalize padF (inF false [118, 97, 108, 117, 101]) = pd at hpl hpb hvf htv ⊢
  have hek2 : blindF (key1 1) [[107]] [107] = blindF (key1 1) [] [107] := rfl
  have hne : blindF (key1 1) [[107]] [108] ≠ blindF (key1 1) [] [107] := blindF_ne _ (by decide) (by decide) (by decide)
  have hadd : addN [] [107] = [[107]] := rfl
  rw [hadd]
  generalize blindF (key1 1) [] [107] = ek at hek hek2 hne ⊢
  refine rx_persist rfl fun h5 hle5 hpv => ?_
  refine rx_persist rfl fun h6 hle6 hsv => ?_
  have hpv : Bs8 h6 pv hd1.past := Sc.mono hpv hle6
  have hsv : Bs8 h6 sv se := hsv
  have hv6 := ((hv3.mono hle4).mono hle5).mono hle6
  have htv6 := (htv.mono hle5).mono hle6
  obtain ⟨_, adp, capp, rfl, hcapp, _⟩ := id hpv
  obtain ⟨_, ads, caps, rfl, hcaps, _⟩ := id hsv
  repeat' (first|(refine ybg 0 rfl rfl rfl (by show (envc ek hd1 _ _).toArray.size = 38;simpa using envc_len hek) (by show 0 + (envc ek hd1 _ _).toArray.size ≤ _;rw [List.size_toArray, envc_len hek];exact nble rfl) (List.all_eq_true.2 (envc_one rfl rfl)) (ybh (by show (envc ek hd1 _ _).length = _;rw [envc_len hek];rfl)) rfl rfl ?_ ?_ ?_;(·(exact to_));(·(exact to_)))|refine t1_ ?_|(refine ta_ ?_;intro _)|((fail_if_success (refine ybi rfl ?_));refine ybj rfl ?_ ?_<;>(intro ht;rw [ht];first|replace ht := oet_ ht|replace ht := oef_ ht|skip))|(refine ych ?_;first|(refine ybw rfl ?_ ?_<;>intro ht)|(refine ybx rfl ?_ ?_<;>intro ht)))
  have htok : TbOk h6 ([] ++ [((hd1.cl, hd1.ct, hd1.ep, bstr (boundF ek hd1), bstr se), tv, pd)]) := fun x hx => by rw [List.mem_singleton.1 hx]; exact htv6
  have htl : ∀ x ∈ (([] : Tab) ++ [((hd1.cl, hd1.ct, hd1.ep, bstr (boundF ek hd1), bstr se), tv, pd)]), x.2.2.length ≤ 900000 ∧ Bytes x.2.2 := fun x hx => by
    rw [List.mem_singleton.1 hx]
    exact ⟨by show pd.length ≤ _; omega, hpb⟩
  have hop1 : openF (key1 1) [[107]] ([] ++ [((hd1.cl, hd1.ct, hd1.ep, bstr (boundF ek hd1), bstr se), tv, pd)]) [107] ek hd1 se = ([118, 97, 108, 117, 101], false, 0) := by
    have hm : mget ([((hd1.cl, hd1.ct, hd1.ep, bstr (boundF ek hd1), bstr se), tv, pd)] : Tab) (hd1.cl, hd1.ct, hd1.ep, bstr (boundF ek hd1), bstr se) = some (tv, pd) := if_pos rfl
    unfold openF
    rw [if_pos hek2, List.nil_append, hm]
    exact hvf
  have hop2 : openF (key1 1) [[107]] ([] ++ [((hd1.cl, hd1.ct, hd1.ep, bstr (boundF ek hd1), bstr se), tv, pd)]) [108] ek hd1 se = ([], false, 6) := by
    unfold openF
    rw [if_neg hne]
  generalize ([] ++ [((hd1.cl, hd1.ct, hd1.ep, bstr (boundF ek hd1), bstr se), tv, pd)] : Tab) = T at htok htl hop1 hop2 ⊢
  have hN1 : Names [[107]] := fun x hx => by rw [List.mem_singleton.1 hx]; exact hb107
  refine rx_mark 0 rfl rfl rfl (by unfold maxLen; omega) rfl rfl rfl ybf ybf ?_
  refine rx_persist_s rfl fun h7 hle7 hn7 => ?_
  have hn7 : Bs8 h7 (.slice (some ⟨_, 0, none⟩) ([107] : List Int).length 1) [107] := hn7
  repeat' (first|(refine ycf ?_;apply ybk;(·first|(first|exact tk_|(apply yad;(·rfl);(·exact yaz 0 rfl);(·exact envc_len hek))));(·rfl);(·rfl))|refine t1_ ?_|(refine ta_ ?_;intro _)|((fail_if_success (refine ybi rfl ?_));refine ybj rfl ?_ ?_<;>(intro ht;rw [ht];first|replace ht := oet_ ht|replace ht := oef_ ht|skip))|(refine ych ?_;first|(refine ybw rfl ?_ ?_<;>intro ht)|(refine ybx rfl ?_ ?_<;>intro ht)))
  have O1 := EOpen_sp bv (key1 1) bn bu bt [[107]] T [107] ek se _ _ _ hd1 hk rfl hek hN1 (by decide) htl hb107 (by decide) hok1 (by omega) h7 (htok.mono hle7) (hv6.mono hle7) hn7 (hpv.mono hle7) (hsv.mono hle7)
  rw [hop1] at O1
  refine rx_call_l (ycp Tryd.func8 rfl (by kernel_rfl) rfl) (pick2 1 2 rfl rfl) O1 rfl rfl rfl ybf (fun _ _ _ => ybf) ?_
  rintro ⟨h8, v1⟩ hv1r hle8
  dsimp only at hv1r hle8 ⊢
  obtain ⟨_, ad1, cap1, rfl, hcap1, _⟩ := id hv1r
  have hadd2 : addN [[107]] [107] = [[107]] := rfl
  rw [hadd2]
  repeat' (first|(refine ycf ?_;apply ybk;(·first|(exact tk_));(·rfl);(·rfl))|refine t1_ ?_|(refine ta_ ?_;intro _)|((fail_if_success (refine ybi rfl ?_));refine ybj rfl ?_ ?_<;>(intro ht;rw [ht];first|replace ht := oet_ ht|replace ht := oef_ ht|skip))|(refine ych ?_;first|(refine ybw rfl ?_ ?_<;>intro ht)|(refine ybx rfl ?_ ?_<;>intro ht)))
  refine rx_mark 0 rfl rfl rfl (by unfold maxLen; omega) rfl rfl rfl ybf ybf ?_
  refine rx_persist_s rfl fun h9 hle9 hn9 => ?_
  have hn9 : Bs8 h9 (.slice (some ⟨_, 0, none⟩) ([108] : List Int).length 1) [108] := hn9
  have hle79 := hle8.trans hle9
  repeat' (first|(refine ycf ?_;apply ybk;(·first|(first|exact tk_|(apply yad;(·rfl);(·exact yaz 2 rfl);(·exact envc_len hek))));(·rfl);(·rfl))|refine t1_ ?_|(refine ta_ ?_;intro _)|((fail_if_success (refine ybi rfl ?_));refine ybj rfl ?_ ?_<;>(intro ht;rw [ht];first|replace ht := oet_ ht|replace ht := oef_ ht|skip))|(refine ych ?_;first|(refine ybw rfl ?_ ?_<;>intro ht)|(refine ybx rfl ?_ ?_<;>intro ht)))
  have O2 := EOpen_sp bv (key1 1) bn bu bt [[107]] T [108] ek se _ _ _ hd1 hk rfl hek hN1 (by decide) htl hb108 (by decide) hok1 (by omega) h9 ((htok.mono hle7).mono hle79) ((hv6.mono hle7).mono hle79) hn9 ((hpv.mono hle7).mono hle79) ((hsv.mono hle7).mono hle79)
  rw [hop2] at O2
  refine rx_call_l (ycp Tryd.func8 rfl (by kernel_rfl) rfl) (pick2 0 0 rfl rfl) O2 rfl rfl rfl ybf (fun _ _ _ => ybf) ?_
  rintro ⟨h10, v2⟩ hv2r hle10
  dsimp only at hv2r hle10 ⊢
  obtain ⟨_, ad2, cap2, rfl, hcap2, _⟩ := id hv2r
  have hv1s := (hv1r.mono hle9).mono hle10
  have hstr : ((bstr [118, 97, 108, 117, 101]).toList == (⟨#[118, 97, 108, 117, 101]⟩ : ByteArray).toList) = true := by
    rw [← beq_toListBytes, ba_beq]
    exact decide_eq_true rfl
  repeat' (first|(refine ycf ?_;apply ybk;(·first|(first|exact tk_|(refine qv_str_bs rfl hv1s)|(refine qv_eql_str rfl rfl hstr))|(apply yae;(·rfl);(·(exact env_seal hek (yaz 2 rfl)))));(·rfl);(·rfl))|refine t1_ ?_|(refine ta_ ?_;intro _)|((fail_if_success (refine ybi rfl ?_));refine ybj rfl ?_ ?_<;>(intro ht;rw [ht];first|replace ht := oet_ ht|replace ht := oef_ ht|skip))|(refine ych ?_;first|(refine ybw rfl ?_ ?_<;>intro ht)|(refine ybx rfl ?_ ?_<;>intro ht)))
  exact nx_ret1 rfl (rv_tmp rfl) (fun w' s' => ⟨h10, rfl, s'.nil⟩)
end Go.Proofs.YtgeepceieckooaaDoor
end

section
namespace Go.Ck
open Go
set_option linter.unusedVariables false
set_option linter.unusedSimpArgs false
section
variable {P : Program} {n : Nat} {K : Bs} {F : List (Nat × Value)} {h : View} {L : List Res} {Q : Exit → Act → World → Prop}
variable {dst : Option Nat} {ty : Nat} {pos : String} {af : Array Edge} {gd : Option (Nat × Bool)}
theorem rx_append_full {g : Rg} {i : Nat} {r : List (Nat × Oper)} {T e : Nat} {x y : Operand} {z : Value} {sz by' m0 m c gb go : Nat} {ad : Addr} {xs news : List Value} [tu : TyU P T (.slice e)] [tb : TyB P e z sz by'] (hx : ev F x = some (.slice (some ⟨gb, go, none⟩) m0 m0)) (hy : ev F y = some (.slice (some ad) m c))
    (hold : Sc h sz (.slice (some ⟨gb, go, none⟩) m0 m0) m0 xs) (hnews : Cells h L ad news) (hl : news.length = m * sz) (hm : 0 < m) (hzs : z.cells.size = sz) (hsz : 0 < sz) (h63 : m0 + m ≤ maxLen) (hbytes : (m0 + m) * by' ≤ 140737488355328)
    (hw : wantedF g.ops F ⟨dst, .call ⟨.builtin .append, #[x, y], #[T, T]⟩, ty, pos, af, gd⟩ = some true) (hd : okd n dst = true) (hlo : g.lo i = true) (o1 : Owe g i h L)
    (o2 : ∀ v', Owe g i h (Res.row e sz v' (m0 + m) (xs ++ news) :: L))
    (hn : ∀ v', RX P n K g r (putF dst v' F) h (Res.row e sz v' (m0 + m) (xs ++ news) :: L) Q) :
    RX P n K g ((i, ⟨dst, .call ⟨.builtin .append, #[x, y], #[T, T]⟩, ty, pos, af, gd⟩) :: r) F h L Q := by
  unfold RX at *
  intro a w f s
  obtain ⟨ii, hi, hz, hsize, hby⟩ := tb.ex
  subst hsize
  subst hby
  have hlen : (xs ++ news).length = (m0 + m) * ii.size := by rw [List.length_append, hold.1, hl, Nat.add_mul]
  have hsmall : m0 + m ≤ 9223372036854775807 := by simp only [maxLen] at h63; omega
  have hr := run_append_grow (P := P) w T ty e ii z tu.u hi hz ⟨gb, go, none⟩ m0 m0 xs hold.1 (fun j u hj => hold.cells w s.hd j u hj) ad m c news hl (hnews w s.hd) (by omega) (by omega) (growslice_fits (by omega) hbytes)
  have hge := grownCap_ge w (m0 + m) m0 e
  have hcm := grownCap_le_maxLen w (m0 + m) m0 e h63
  generalize grownCap w (m0 + m) m0 e = cap at hr hge hcm
  have s1 := s.drew.alloc (.cells (xs.toArray ++ news.toArray ++ Builtin.zeroCells z.cells (cap - (m0 + m))) e)
  have s2 := s1.rowOf (k := ii.size) (m := m0 + m) (cap := cap) hge hcm (by
    simp only [Array.size_append, List.size_toArray, size_zeroCells, hzs, hold.1, hl, ← Nat.add_mul]
    congr 1
    omega)
  have ht : ((xs.toArray ++ news.toArray ++ Builtin.zeroCells z.cells (cap - (m0 + m))).toList.take ((m0 + m) * ii.size)) = xs ++ news := by
    simp only [Array.toList_append, List.append_assoc]
    rw [← List.append_assoc, ← hlen]
    exact List.take_left
  rw [ht] at s2
  refine .inr (.inr ⟨wantedF_ok f hw, hlo, o1.out s, ?_⟩)
  unfold Oper.wp
  have : (execOp a.eval ⟨dst, .call ⟨.builtin .append, #[x, y], #[T, T]⟩, ty, pos, af, gd⟩).run P w = .ok (.value (.slice (some ⟨w.heap.size, 0, none⟩) (m0 + m) cap)) (w.drew.alloc (.cells (xs.toArray ++ news.toArray ++ Builtin.zeroCells z.cells (cap - (m0 + m))) e)) := by
    simp [execOp, resolve, invoke, builtin, f.ev hx, f.ev hy, hr]
  rw [this]
  exact ⟨(o2 _).out s2, hn _ _ _ (f.put hd _) s2⟩
end
end Go.Ck
end

section
namespace Go.Proofs.YtgeepceieckooaaDoor
open Go Go.Ck
set_option maxRecDepth 100000
set_option maxHeartbeats 4000000
set_option linter.unusedVariables false
def tab1 (ek : List Int) (q : Hdr) (se : List Int) (tv : Value) (pd : List Int) : Tab := [((q.cl, q.ct, q.ep, bstr (boundF ek q), bstr se), tv, pd)]
def shut : List Int × Bool × Int := ([], false, 6)
theorem forged_name {K nm nm' se : List Int} {q : Hdr} {T : Tab} (h : nm' ≠ nm) : openF K [nm] T nm' (blindF K [] nm) q se = shut := by
  unfold openF
  rw [if_neg]
  · rfl
  · refine blindF_ne K ?_ (by simp) ?_
    · have := List.idxOf_le_length (a := nm') (l := [nm])
      simp at this
      omega
    · have hb : (nm == nm') = false := by simpa using fun e => h (Eq.symm e)
      rw [List.idxOf_cons, hb]
      simp
theorem forged_key {K nm ek se : List Int} {q : Hdr} {T : Tab} (h : ek ≠ blindF K [] nm) : openF K [nm] T nm ek q se = shut := by
  unfold openF
  rw [if_neg]
  · rfl
  · have e : blindF K [nm] nm = blindF K [] nm := by unfold blindF; rw [List.idxOf_cons_self]; rfl
    rw [e]
    exact fun e => h e.symm
theorem forged_miss {K nm se se' pd : List Int} {q q' : Hdr} {tv : Value} (h : ¬ (q'.cl = q.cl ∧ q'.ct = q.ct ∧ q'.ep = q.ep ∧ bstr (boundF (blindF K [] nm) q') = bstr (boundF (blindF K [] nm) q) ∧ bstr se' = bstr se)) :
    openF K [nm] (tab1 (blindF K [] nm) q se tv pd) nm (blindF K [] nm) q' se' = shut := by
  have e : blindF K [nm] nm = blindF K [] nm := by unfold blindF; rw [List.idxOf_cons_self]; rfl
  have hm : mget (tab1 (blindF K [] nm) q se tv pd) (q'.cl, q'.ct, q'.ep, bstr (boundF (blindF K [] nm) q'), bstr se') = none := by
    show (if _ = _ then _ else _) = _
    rw [if_neg]
    · rfl
    · intro e2
      simp only [Prod.mk.injEq] at e2
      exact h e2
  unfold openF
  rw [if_pos e, hm]
  rfl
theorem boundF_by {ek : List Int} {q : Hdr} (h1 : Bytes ek) (h2 : Bytes q.past) : Bytes (boundF ek q) :=
  cbytes_app (cbytes_app (cbytes_app (cbytes_app (cbytes_app (cbytes_app h1 (putLow_bytes' 8 _)) (putLow_bytes' 8 _)) (putLow_bytes' 8 _)) (putLow_bytes' 8 _)) (putLow_bytes' 4 _)) h2
theorem num8_inj {x y : Int} (hx : 0 ≤ x ∧ x < 18446744073709551616) (hy : 0 ≤ y ∧ y < 18446744073709551616) (h : num8 x = num8 y) : x = y := by
  have h2 := congrArg valB h
  unfold num8 at h2
  rw [val_putLow 8 x hx.1 (by have := hx.2; omega), val_putLow 8 y hy.1 (by have := hy.2; omega)] at h2
  exact h2
theorem bound_nu {ek : List Int} {q : Hdr} {n : Int} (hx : 0 ≤ n ∧ n < 18446744073709551616) (hy : 0 ≤ q.nu ∧ q.nu < 18446744073709551616) (h : boundF ek { q with nu := n } = boundF ek q) : n = q.nu := by
  unfold boundF at h
  dsimp only at h
  exact num8_inj hx hy (List.append_cancel_left (List.append_cancel_right (List.append_cancel_right h)))
theorem bound_past {ek : List Int} {q : Hdr} {p : List Int} (hl : p.length = q.past.length) (h : boundF ek { q with past := p } = boundF ek q) : p = q.past := by
  unfold boundF at h
  dsimp only at h
  rw [hl] at h
  exact List.append_cancel_left h
theorem set_ne {l : List Int} {i : Nat} {x : Int} (hi : i < l.length) (hx : x ≠ l.getD i 0) : l.set i x ≠ l := fun e => by
  have := congrArg (fun m => m.getD i 0) e
  simp only [List.getD_eq_getElem?_getD] at this hx
  rw [List.getElem?_set_self hi] at this
  exact hx this
theorem set_by {l : List Int} {i : Nat} {x : Int} (hl : Bytes l) (hx : 0 ≤ x ∧ x < 256) : Bytes (l.set i x) := fun y hy => by
  rcases List.mem_or_eq_of_mem_set hy with hy | rfl
  · exact hl y hy
  · exact hx
theorem bx_ne {a n : Int} (ha : 0 ≤ a ∧ a < 256) (hn : 0 < n ∧ n < 256) : bx a n ≠ a := fun e => by
  unfold bx at e
  have e2 : (BitVec.ofInt 8 a ^^^ BitVec.ofInt 8 n) = BitVec.ofInt 8 a := by
    apply BitVec.eq_of_toNat_eq
    rw [BitVec.toNat_ofInt]
    omega
  have e3 : BitVec.ofInt 8 n = 0#8 := by
    have := congrArg (fun z => BitVec.ofInt 8 a ^^^ z) e2
    simp only [BitVec.xor_self] at this
    rw [← BitVec.xor_assoc, BitVec.xor_self, BitVec.zero_xor] at this
    exact this
  have := congrArg BitVec.toNat e3
  rw [BitVec.toNat_ofInt] at this
  simp at this
  omega
section
variable {ek : List Int} {q : Hdr} {pv sv : Value}
theorem spl_app {l m vs : List Value} {k j : Nat} (hk : l.length = k) : spl (l ++ m) (k + j) vs = l ++ spl m j vs := by
  subst hk
  simp only [spl, List.take_append, List.drop_append, Nat.add_sub_cancel_left, List.append_assoc]
  rw [List.take_of_length_le (by omega), List.drop_eq_nil_of_le (by omega), List.nil_append, Nat.add_assoc, Nat.add_sub_cancel_left]
theorem spl_hd {j : Nat} {x : Value} (hk : ek.length = 32) (hj : j < 4) : spl (envc ek q pv sv) (0 + 32 + j) [x] = bcs ek ++ ((hdc q pv).set j x ++ [sv]) := by
  have hb : (bcs ek).length = 32 := by rw [bcs_len, hk]
  unfold envc
  rw [Nat.zero_add, spl_app hb]
  congr 1
  rcases (by omega : j = 0 ∨ j = 1 ∨ j = 2 ∨ j = 3) with rfl | rfl | rfl | rfl<;>rfl
theorem spl_key {i o : Nat} {x : Int} (ho : o = 0 + i) (hi : i < ek.length) : spl (envc ek q pv sv) o [.int .u8 x] = envc (ek.set i x) q pv sv := by
  subst ho
  have h1 := spl_byte (l := ek) (o := 0 + i) (x := x) (by omega)
  have hl := bcs_len ek
  have h2 : spl (bcs ek ++ (hdc q pv ++ [sv])) (0 + i) [.int .u8 x] = spl (bcs ek) (0 + i) [.int .u8 x] ++ (hdc q pv ++ [sv]) := by
    simp only [spl, List.length_singleton]
    rw [List.take_append_of_le_length (by omega), List.drop_append_of_le_length (by omega)]
    simp only [List.append_assoc]
  unfold envc
  rw [h2]
  have h1 : spl (bcs ek) (0 + i) [.int .u8 x] = bcs (ek.set (0 + i) x) := h1
  rw [h1, Nat.zero_add]
end
end Go.Proofs.YtgeepceieckooaaDoor
end

section
namespace Go.Proofs.YtgeepceieckooaaDoor
open Go Go.Ck
set_option maxRecDepth 100000
set_option maxHeartbeats 4000000
set_option linter.unusedVariables false
def nm4 : List Int := [110, 97, 109, 101]
def hd4 : Hdr := ⟨2, 3, 4, 5, [112, 97, 115, 116]⟩
structure Fg where
  hh : View
  vn : Value
  nm : List Int
  ek : List Int
  q : Hdr
  pv : Value
  sv : Value
  se : List Int
theorem EnvelopeForged_sp (vv : Value) (l : List Int) (what by' : Int) (h : View) (hb : Bytes l) (hs : Bs8 h vv l) (hl : l.length ≤ 9223372036854775807) (w : World) (s : St ⟨w, h, []⟩ h [] w) :
    Calls Tryd.prog 3 [vv, .int .i64 what, .int .i64 by'].toArray w fun e w' => ∃ h', e = .returned (.bool true) ∧ St ⟨w, h, []⟩ h' [] w' := by
  obtain ⟨_, adl, capl, rfl, hcapl, _⟩ := id hs
  refine calls_enter Tryd.func3 rfl Tryd.ntmps3 rfl s ?_
  have hk : Bytes (key1 4) := key1_by (by omega)
  have hbn : Bytes nm4 := by
    intro x hx
    simp only [nm4, List.mem_cons, List.not_mem_nil, or_false] at hx
    omega
  have hbp : Bytes hd4.past := by
    intro x hx
    simp only [hd4, List.mem_cons, List.not_mem_nil, or_false] at hx
    omega
  have hok4 : hd4.ok := by decide
  have hnil : Names [] := fun x hx => by cases hx
  have hS : ∀ (h : View) (w : World), St ⟨w, h, []⟩ h [] w → Calls Tryd.prog 7 [].toArray w fun e w' => ∃ h' : View, e = .returned (.bool true) ∧ St ⟨w, h, []⟩ h' [] w' ∧ True := fun h w s =>
    (seals_sp h w s).mono fun e w' ⟨h', h1, h2⟩ => ⟨h', h1, h2, trivial⟩
  repeat' (first|(refine ycf ?_;apply ybk;(·first|(exact qv_build_arr (cs := bcs (key1 4)) rfl rfl));(·rfl);(·rfl))|refine t1_ ?_|(refine ta_ ?_;intro _)|((fail_if_success (refine ybi rfl ?_));refine ybj rfl ?_ ?_<;>(intro ht;rw [ht];first|replace ht := oet_ ht|replace ht := oef_ ht|skip))|(refine ych ?_;first|(refine ybw rfl ?_ ?_<;>intro ht)|(refine ybx rfl ?_ ?_<;>intro ht)))
  (refine yco (ycp Tryd.func5 rfl (by kernel_rfl) rfl) (Ideal_sp (key1 4) rfl h) rfl rfl rfl ?_ ?_ ?_; (· (exact to_)); (· intro _ _ hle; (exact to_)); intro x px hle)
  obtain ⟨h1, bv, bn, bu, bt⟩ := x
  dsimp only at px hle ⊢
  have hv1 : Vb h1 bv true (key1 4) bn bu bt := px
  have hle1 : Le h h1 := hle
  clear px hle
  repeat' (first|refine tw_ ?_|(refine ta_ ?_;intro _)|((fail_if_success (refine ybi rfl ?_));refine ybj rfl ?_ ?_<;>(intro ht;rw [ht];first|replace ht := oet_ ht|replace ht := oef_ ht|skip))|(refine ych ?_;first|(refine ybw rfl ?_ ?_<;>intro ht)|(refine ybx rfl ?_ ?_<;>intro ht)))
  refine rx_mark 0 rfl rfl rfl (by unfold maxLen; omega) rfl rfl rfl ybf ybf ?_
  refine rx_persist_s rfl fun h2 hle2 hn2 => ?_
  have hn2 : Bs8 h2 (.slice (some ⟨_, 0, none⟩) nm4.length 4) nm4 := hn2
  repeat' (first|refine tw_ ?_|(refine ta_ ?_;intro _)|((fail_if_success (refine ybi rfl ?_));refine ybj rfl ?_ ?_<;>(intro ht;rw [ht];first|replace ht := oet_ ht|replace ht := oef_ ht|skip))|(refine ych ?_;first|(refine ybw rfl ?_ ?_<;>intro ht)|(refine ybx rfl ?_ ?_<;>intro ht)))
  refine rx_mark 0 rfl rfl rfl (by unfold maxLen; omega) rfl rfl rfl ybf ybf ?_
  refine rx_persist_s rfl fun h3 hle3 hp3 => ?_
  have hp3 : Bs8 h3 (.slice (some ⟨_, 0, none⟩) hd4.past.length 4) hd4.past := hp3
  have hj : (if (300 : Int) < (l.length : Int) then (300 : Int) else (l.length : Int)) = ((min l.length 300 : Nat) : Int) := by split<;>omega
  have hjl : min l.length 300 ≤ l.length := by omega
  have hst : Bs8 h (.slice adl (l.take (min l.length 300)).length capl) (l.take (min l.length 300)) := by
    have htl : (l.take (min l.length 300)).length = min l.length 300 := by simp
    have := sc_take hs hjl
    unfold Bs8
    rw [htl]
    simpa [bcs, List.map_take] using this
  have hbm : Bytes (l.take (min l.length 300)) := fun b hb' => hb b (List.mem_of_mem_take hb')
  have hml : (l.take (min l.length 300)).length ≤ 300 := by simp; omega
  have hjm : (l.take (min l.length 300)).length = min l.length 300 := by simp
  generalize hjj : min l.length 300 = j at *
  generalize l.take j = val at hst hbm hml hjm
  subst hjm
  clear hs hb
  have hst3 := ((hst.mono hle1).mono hle2).mono hle3
  have hn3 := hn2.mono hle3
  have hv3 := (hv1.mono hle2).mono hle3
  repeat' (first|(refine ycf ?_;apply ybk;(·first|(first|(refine qv_min' rfl rfl hj)|(apply qv_slice_to;(·rfl);(·rfl);(·omega);(·omega))));(·rfl);(·rfl))|refine t1_ ?_|(refine ta_ ?_;intro _)|((fail_if_success (refine ybi rfl ?_));refine ybj rfl ?_ ?_<;>(intro ht;rw [ht];first|replace ht := oet_ ht|replace ht := oef_ ht|skip))|(refine ych ?_;first|(refine ybw rfl ?_ ?_<;>intro ht)|(refine ybx rfl ?_ ?_<;>intro ht)))
  refine rx_call_l (ycp Tryd.func6 rfl (by kernel_rfl) rfl) (pick3 0 0 0 rfl rfl rfl) (ESeal_sp bv (key1 4) bn bu bt [] [] [] nm4 val _ _ _ hd4 false hk rfl hnil (by simp) (by simp) (fun x hx => (by cases hx)) hbn (by decide) hok4 (by simp) hbm (by omega) h3 hv3 hn3 hst3 hp3) rfl rfl rfl ybf (fun _ _ _ => ybf) ?_
  rintro ⟨h4, pv, sv, tv⟩ htv hle4
  dsimp only at htv hle4 ⊢
  have hil : (inF false val).length ≤ 301 := by simp [inF]; omega
  have hpb : Bytes (padF (inF false val)) := padF_by (inF_by hbm)
  have hpl : (padF (inF false val)).length ≤ 4096 := by
    have := sizeF_bd (n := ((inF false val).length : Nat)) (by omega) (by omega)
    rw [padF_len (by omega)]
    omega
  have hsl : (sealF (key1 4) [] (padF (inF false val))).length = (padF (inF false val)).length + 16 := drawF_len _ _ _ _ (by omega)
  have hsb : Bytes (sealF (key1 4) [] (padF (inF false val))) := drawF_by _ _ _ _
  generalize sealF (key1 4) [] (padF (inF false val)) = se at hsl hsb htv ⊢
  generalize padF (inF false val) = pd at hpl hpb hsl htv ⊢
  have F0 : ∀ {nm' se' : List Int} {q : Hdr} {T : Tab}, nm' ≠ nm4 → openF (key1 4) [nm4] T nm' (blindF (key1 4) [] nm4) q se' = shut := fun h => forged_name h
  have F1 : ∀ {ek' se' : List Int} {q : Hdr} {T : Tab}, ek' ≠ blindF (key1 4) [] nm4 → openF (key1 4) [nm4] T nm4 ek' q se' = shut := fun h => forged_key h
  have F2 : ∀ {q' : Hdr} {se' : List Int}, ¬ (q'.cl = hd4.cl ∧ q'.ct = hd4.ct ∧ q'.ep = hd4.ep ∧ bstr (boundF (blindF (key1 4) [] nm4) q') = bstr (boundF (blindF (key1 4) [] nm4) hd4) ∧ bstr se' = bstr se) → openF (key1 4) [nm4] (tab1 (blindF (key1 4) [] nm4) hd4 se tv pd) nm4 (blindF (key1 4) [] nm4) q' se' = shut := fun h => forged_miss h
  have hek : (blindF (key1 4) [] nm4).length = 32 := drawF_len _ _ _ _ (by omega)
  have heb : Bytes (blindF (key1 4) [] nm4) := drawF_by _ _ _ _
  have hT : ([] ++ [((hd4.cl, hd4.ct, hd4.ep, bstr (boundF (blindF (key1 4) [] nm4) hd4), bstr se), tv, pd)] : Tab) = tab1 (blindF (key1 4) [] nm4) hd4 se tv pd := rfl
  have hN : addN [] nm4 = [nm4] := rfl
  rw [hT, hN]
  generalize blindF (key1 4) [] nm4 = ek at hek heb F0 F1 F2 ⊢
  have htok : TbOk h4 (tab1 ek hd4 se tv pd) := fun x hx => by rw [List.mem_singleton.1 hx]; exact htv
  have htl : ∀ x ∈ tab1 ek hd4 se tv pd, x.2.2.length ≤ 900000 ∧ Bytes x.2.2 := fun x hx => by
    rw [List.mem_singleton.1 hx]
    exact ⟨by show pd.length ≤ _; omega, hpb⟩
  generalize tab1 ek hd4 se tv pd = T at htok htl F2 ⊢
  have hv4 := hv3.mono hle4
  have hn4 := hn3.mono hle4
  refine rx_rowsl 0 rfl fun adp capp hpv => ?_
  subst hpv
  refine rx_rowsl 1 rfl fun ads caps hsv => ?_
  subst hsv
  repeat' (first|(refine ycf ?_;apply ybk;(·first|(first|(refine qv_min' rfl rfl hj)|(apply qv_slice_to;(·rfl);(·rfl);(·omega);(·omega))));(·rfl);(·rfl))|(refine ybg 0 rfl rfl rfl (by show (envc ek hd4 _ _).toArray.size = 38;simpa using envc_len hek) (by show 0 + (envc ek hd4 _ _).toArray.size ≤ _;rw [List.size_toArray, envc_len hek];exact nble rfl) (List.all_eq_true.2 (envc_one rfl rfl)) (ybh (by show (envc ek hd4 _ _).length = _;rw [envc_len hek];rfl)) rfl rfl ?_ ?_ ?_;(·(exact to_));(·(exact to_)))|refine t1_ ?_|(refine ta_ ?_;intro _)|((fail_if_success (refine ybi rfl ?_));refine ybj rfl ?_ ?_<;>(intro ht;rw [ht];first|replace ht := oet_ ht|replace ht := oef_ ht|skip))|(refine ych ?_;first|(refine ybw rfl ?_ ?_<;>intro ht)|(refine ybx rfl ?_ ?_<;>intro ht)))
  (refine yco (ycp Tryd.func7 rfl (by kernel_rfl) rfl) (hS h4) rfl rfl rfl ?_ ?_ ?_; (· (exact to_)); (· intro _ _ hle; (exact to_)); intro x px hle)
  obtain ⟨h5, rfl⟩ : ∃ y, y = x := ⟨x, rfl⟩
  have hle5 : Le h4 h5 := hle
  clear px hle
  rename_i be
  have htok5 := htok.mono hle5
  have hv5 := hv4.mono hle5
  have hn5 := hn4.mono hle5
  clear hS htok hv4 hn4 htv hp3 hn3 hv3 hst3 hst hn2 hv1
  refine rx_picks [0, 0, 0, 0, 1] ?_
  have hU : ∀ z : Int, 0 ≤ IntKind.u64.wrap z ∧ IntKind.u64.wrap z < 18446744073709551616 := fun z => by simp [IntKind.wrap, IntKind.bits, IntKind.signed]; omega
  obtain ⟨n, hn9, hn9'⟩ : ∃ n : Nat, (IntKind.u64.wrap by').tmod 9 = (n : Int) ∧ n < 9 := ⟨((IntKind.u64.wrap by') % 9).toNat, by have := hU by'; rw [Int.tmod_eq_emod_of_nonneg this.1]; omega, by omega⟩
  obtain ⟨k, hk8, hk8'⟩ : ∃ n : Nat, (IntKind.u64.wrap what).tmod 8 = (n : Int) ∧ n < 8 := ⟨((IntKind.u64.wrap what) % 8).toNat, by have := hU what; rw [Int.tmod_eq_emod_of_nonneg this.1]; omega, by omega⟩
  have wn : IntKind.i64.wrap (n : Int) = (n : Int) := by rw [IntKind.wrap_i64]; omega
  have wk : IntKind.i64.wrap (k : Int) = (k : Int) := by rw [IntKind.wrap_i64]; omega
  iterate 34 (first|(refine ycf ?_;apply ybk;(·first|(first|exact tk_|(refine qv_remr rfl rfl (by decide) hn9)|(refine qv_remr rfl rfl (by decide) hk8)|(refine qv_convert_int' rfl wn)|(refine qv_convert_int' rfl wk)|(refine qv_convert_int' rfl rfl))|(apply yae;(·rfl);(·(first|exact env_seal hek (yaz 0 rfl)|exact (env_head hek (yaz 0 rfl)).cell (j := 4) rfl))));(·rfl);(·rfl))|refine t1_ ?_|(refine ta_ ?_;intro _)|((fail_if_success (refine ybi rfl ?_));refine ybj rfl ?_ ?_<;>(intro ht;rw [ht];first|replace ht := oet_ ht|replace ht := oef_ ht|skip))|(refine ych ?_;first|(refine ybw rfl ?_ ?_<;>intro ht)|(refine ybx rfl ?_ ?_<;>intro ht)))
  have hsx : 16 ≤ se.length ∧ se.length ≤ 8192 := ⟨by omega, by omega⟩
  have hnmk : Bytes nm4 ∧ 1 ≤ nm4.length ∧ nm4.length ≤ 64 := ⟨hbn, by decide, by decide⟩
  have hpl4 : hd4.past.length ≤ 4096 := by decide
  have h4e : hd4.ep = 2 := rfl
  have h4t : hd4.ct = 3 := rfl
  have h4c : hd4.cl = 4 := rfl
  have h4n : hd4.nu = 5 := rfl
  refine cx_perm (L' := [Res.blk be (.cells (envc ek hd4 (.slice adp hd4.past.length capp) (.slice ads se.length caps)).toArray 32 (0, 0)), rowB (.slice adp hd4.past.length capp) hd4.past, rowB (.slice ads se.length caps) se, nmR bn [nm4], tbR bt T]) (.refl _) ?_
  refine cx_cut (X := Fg) (fun y => [(7, .pointer (some ⟨bv, 0, none⟩)), (8, y.vn), (9, .pointer (some ⟨be, 0, none⟩))]) (fun y => y.hh) (fun y => [Res.blk be (.cells (envc y.ek y.q y.pv y.sv).toArray 32 (0, 0)), rowB y.pv y.q.past, rowB y.sv y.se, nmR bn [nm4], tbR bt T])
    (fun y => Le h5 y.hh ∧ Bs8 y.hh y.vn y.nm ∧ (Bytes y.nm ∧ 1 ≤ y.nm.length ∧ y.nm.length ≤ 64) ∧ y.ek.length = 32 ∧ y.q.ok ∧ (16 ≤ y.se.length ∧ y.se.length ≤ 8192) ∧ openF (key1 4) [nm4] T y.nm y.ek y.q y.se = shut) ?_ ?_
  · rcases (by omega : k = 0 ∨ k = 1 ∨ k = 2 ∨ k = 3 ∨ k = 4 ∨ k = 5 ∨ k = 6 ∨ k = 7) with rfl | rfl | rfl | rfl | rfl | rfl | rfl | rfl
    · repeat' (first|(refine ycf ?_;apply ybk;(·first|(first|exact tk_|(refine qv_remr rfl rfl (by decide) hn9)|(refine qv_remr rfl rfl (by decide) hk8)|(refine qv_convert_int' rfl wn)|(refine qv_convert_int' rfl wk)|(refine qv_convert_int' rfl rfl))|(apply yae;(·rfl);(·(first|exact env_seal hek (yaz 0 rfl)|exact (env_head hek (yaz 0 rfl)).cell (j := 4) rfl))));(·rfl);(·rfl))|refine t1_ ?_|(refine ta_ ?_;intro _)|((fail_if_success (refine ybi rfl ?_));refine ybj rfl ?_ ?_<;>(intro ht;rw [ht];first|replace ht := oet_ ht|replace ht := oef_ ht|skip))|(refine ych ?_;first|(refine ybw rfl ?_ ?_<;>intro ht)|(refine ybx rfl ?_ ?_<;>intro ht)))
      have hby : ∀ z : Int, 0 ≤ IntKind.u8.wrap z ∧ IntKind.u8.wrap z < 256 := fun z => by simp [IntKind.wrap, IntKind.bits, IntKind.signed]; omega
      refine rx_append_full (sz := 1) rfl rfl hn5 (yaz 0 rfl) rfl (by omega) rfl (by omega) (by unfold maxLen; decide) (by decide) rfl rfl rfl ybf (fun _ => ybf) ?_
      intro v'
      refine rx_persist rfl fun h6 hle6 hnn => ?_
      have hnn : Bs8 h6 v' (nm4 ++ [IntKind.u8.wrap by']) := hnn
      repeat' (first|(refine ycf ?_;apply ybk;(·first|(first|exact tk_|(refine qv_remr rfl rfl (by decide) hn9)|(refine qv_remr rfl rfl (by decide) hk8)|(refine qv_convert_int' rfl wn)|(refine qv_convert_int' rfl wk)|(refine qv_convert_int' rfl rfl))|(apply yae;(·rfl);(·(first|exact env_seal hek (yaz 0 rfl)|exact (env_head hek (yaz 0 rfl)).cell (j := 4) rfl))));(·rfl);(·rfl))|refine t1_ ?_|(refine ta_ ?_;intro _)|((fail_if_success (refine ybi rfl ?_));refine ybj rfl ?_ ?_<;>(intro ht;rw [ht];first|replace ht := oet_ ht|replace ht := oef_ ht|skip))|(refine ych ?_;first|(refine ybw rfl ?_ ?_<;>intro ht)|(refine ybx rfl ?_ ?_<;>intro ht)))
      refine nx_cut ⟨h6, v', nm4 ++ [IntKind.u8.wrap by'], ek, hd4, _, _, se⟩ ⟨hle6, hnn, ⟨?_, by simp [nm4], by simp [nm4]⟩, hek, hok4, hsx, F0 (by simp [nm4])⟩ ts_ (fun _ s => s.tl)
      intro z hz
      rcases List.mem_append.1 hz with hz | hz
      · exact hbn z hz
      · rw [List.mem_singleton.1 hz]; exact hby by'
    · have hspl : spl (envc ek hd4 (.slice adp hd4.past.length capp) (.slice ads se.length caps)) (0 + 32 + 0) [.int .i64 (hd4.ep + (1 + n))] = envc ek { hd4 with ep := hd4.ep + (1 + n) } (.slice adp hd4.past.length capp) (.slice ads se.length caps) := (spl_hd hek (by omega)).trans rfl
      repeat' (first|(refine ycf ?_;apply ybk;(·first|(first|exact tk_|(refine qv_remr rfl rfl (by decide) hn9)|(refine qv_remr rfl rfl (by decide) hk8)|(refine qv_convert_int' rfl wn)|(refine qv_convert_int' rfl wk)|(refine qv_convert_int' rfl rfl))|(apply yae;(·rfl);(·(exact (env_head hek (yaz 0 rfl)).cell (j := 0) rfl))));(·rfl);(·rfl))|(refine ybg 0 rfl rfl rfl rfl (by show 0 + 32 + 0 + 1 ≤ (envc ek hd4 _ _).toArray.size;rw [List.size_toArray, envc_len hek];omega) rfl hspl rfl rfl ?_ ?_ ?_;(·(exact to_));(·(exact to_)))|refine t1_ ?_|(refine ta_ ?_;intro _)|((fail_if_success (refine ybi rfl ?_));refine ybj rfl ?_ ?_<;>(intro ht;rw [ht];first|replace ht := oet_ ht|replace ht := oef_ ht|skip))|(refine ych ?_;first|(refine ybw rfl ?_ ?_<;>intro ht)|(refine ybx rfl ?_ ?_<;>intro ht)))
      refine nx_cut ⟨h5, _, nm4, ek, { hd4 with ep := hd4.ep + (1 + n) }, _, _, se⟩ ⟨Le.refl h5, hn5, hnmk, hek, ?_, hsx, F2 ?_⟩ ts_ (fun _ s => s)
      · refine ⟨?_, ?_, ?_, ?_, hpl4⟩ <;> dsimp only <;> omega
      · dsimp only; omega
    · have hspl : spl (envc ek hd4 (.slice adp hd4.past.length capp) (.slice ads se.length caps)) (0 + 32 + 1) [.int .i64 (hd4.ct + (1 + n))] = envc ek { hd4 with ct := hd4.ct + (1 + n) } (.slice adp hd4.past.length capp) (.slice ads se.length caps) := (spl_hd hek (by omega)).trans rfl
      repeat' (first|(refine ycf ?_;apply ybk;(·first|(first|exact tk_|(refine qv_remr rfl rfl (by decide) hn9)|(refine qv_remr rfl rfl (by decide) hk8)|(refine qv_convert_int' rfl wn)|(refine qv_convert_int' rfl wk)|(refine qv_convert_int' rfl rfl))|(apply yae;(·rfl);(·(exact (env_head hek (yaz 0 rfl)).cell (j := 1) rfl))));(·rfl);(·rfl))|(refine ybg 0 rfl rfl rfl rfl (by show 0 + 32 + 1 + 1 ≤ (envc ek hd4 _ _).toArray.size;rw [List.size_toArray, envc_len hek];omega) rfl hspl rfl rfl ?_ ?_ ?_;(·(exact to_));(·(exact to_)))|refine t1_ ?_|(refine ta_ ?_;intro _)|((fail_if_success (refine ybi rfl ?_));refine ybj rfl ?_ ?_<;>(intro ht;rw [ht];first|replace ht := oet_ ht|replace ht := oef_ ht|skip))|(refine ych ?_;first|(refine ybw rfl ?_ ?_<;>intro ht)|(refine ybx rfl ?_ ?_<;>intro ht)))
      refine nx_cut ⟨h5, _, nm4, ek, { hd4 with ct := hd4.ct + (1 + n) }, _, _, se⟩ ⟨Le.refl h5, hn5, hnmk, hek, ?_, hsx, F2 ?_⟩ ts_ (fun _ s => s)
      · refine ⟨?_, ?_, ?_, ?_, hpl4⟩ <;> dsimp only <;> omega
      · dsimp only; omega
    · have hspl : spl (envc ek hd4 (.slice adp hd4.past.length capp) (.slice ads se.length caps)) (0 + 32 + 2) [.int .i64 (hd4.cl + (1 + n))] = envc ek { hd4 with cl := hd4.cl + (1 + n) } (.slice adp hd4.past.length capp) (.slice ads se.length caps) := (spl_hd hek (by omega)).trans rfl
      repeat' (first|(refine ycf ?_;apply ybk;(·first|(first|exact tk_|(refine qv_remr rfl rfl (by decide) hn9)|(refine qv_remr rfl rfl (by decide) hk8)|(refine qv_convert_int' rfl wn)|(refine qv_convert_int' rfl wk)|(refine qv_convert_int' rfl rfl))|(apply yae;(·rfl);(·(exact (env_head hek (yaz 0 rfl)).cell (j := 2) rfl))));(·rfl);(·rfl))|(refine ybg 0 rfl rfl rfl rfl (by show 0 + 32 + 2 + 1 ≤ (envc ek hd4 _ _).toArray.size;rw [List.size_toArray, envc_len hek];omega) rfl hspl rfl rfl ?_ ?_ ?_;(·(exact to_));(·(exact to_)))|refine t1_ ?_|(refine ta_ ?_;intro _)|((fail_if_success (refine ybi rfl ?_));refine ybj rfl ?_ ?_<;>(intro ht;rw [ht];first|replace ht := oet_ ht|replace ht := oef_ ht|skip))|(refine ych ?_;first|(refine ybw rfl ?_ ?_<;>intro ht)|(refine ybx rfl ?_ ?_<;>intro ht)))
      refine nx_cut ⟨h5, _, nm4, ek, { hd4 with cl := hd4.cl + (1 + n) }, _, _, se⟩ ⟨Le.refl h5, hn5, hnmk, hek, ?_, hsx, F2 ?_⟩ ts_ (fun _ s => s)
      · refine ⟨?_, ?_, ?_, ?_, hpl4⟩ <;> dsimp only <;> omega
      · dsimp only; omega
    · have hspl : spl (envc ek hd4 (.slice adp hd4.past.length capp) (.slice ads se.length caps)) (0 + 32 + 3) [.int .i64 (hd4.nu + (1 + n))] = envc ek { hd4 with nu := hd4.nu + (1 + n) } (.slice adp hd4.past.length capp) (.slice ads se.length caps) := (spl_hd hek (by omega)).trans rfl
      repeat' (first|(refine ycf ?_;apply ybk;(·first|(first|exact tk_|(refine qv_remr rfl rfl (by decide) hn9)|(refine qv_remr rfl rfl (by decide) hk8)|(refine qv_convert_int' rfl wn)|(refine qv_convert_int' rfl wk)|(refine qv_convert_int' rfl rfl))|(apply yae;(·rfl);(·(exact (env_head hek (yaz 0 rfl)).cell (j := 3) rfl))));(·rfl);(·rfl))|(refine ybg 0 rfl rfl rfl rfl (by show 0 + 32 + 3 + 1 ≤ (envc ek hd4 _ _).toArray.size;rw [List.size_toArray, envc_len hek];omega) rfl hspl rfl rfl ?_ ?_ ?_;(·(exact to_));(·(exact to_)))|refine t1_ ?_|(refine ta_ ?_;intro _)|((fail_if_success (refine ybi rfl ?_));refine ybj rfl ?_ ?_<;>(intro ht;rw [ht];first|replace ht := oet_ ht|replace ht := oef_ ht|skip))|(refine ych ?_;first|(refine ybw rfl ?_ ?_<;>intro ht)|(refine ybx rfl ?_ ?_<;>intro ht)))
      refine nx_cut ⟨h5, _, nm4, ek, { hd4 with nu := hd4.nu + (1 + n) }, _, _, se⟩ ⟨Le.refl h5, hn5, hnmk, hek, ?_, hsx, F2 ?_⟩ ts_ (fun _ s => s)
      · refine ⟨?_, ?_, ?_, ?_, hpl4⟩ <;> dsimp only <;> omega
      · intro hh
        have hb : boundF ek { hd4 with nu := hd4.nu + (1 + (n : Int)) } = boundF ek hd4 := bstr_inj (boundF_by (q := { hd4 with nu := hd4.nu + (1 + (n : Int)) }) heb hbp) (boundF_by heb hbp) hh.2.2.2.1
        have hb := bound_nu (q := hd4) (by omega) (by omega) hb
        omega
    · have hi4 : (1 + (n : Int)).tmod 4 = (((1 + n) % 4 : Nat) : Int) := by rw [Int.tmod_eq_emod_of_nonneg (by omega)]; omega
      have hl4 : hd4.past.length = 4 := rfl
      have hlt : (1 + n) % 4 < 4 := Nat.mod_lt _ (by omega)
      generalize (1 + n) % 4 = i at hi4 hlt
      have w8 : IntKind.u8.wrap (1 + (n : Int)) = 1 + (n : Int) := by simp [IntKind.wrap, IntKind.bits, IntKind.signed]; omega
      have ha : 0 ≤ hd4.past.getD i 0 ∧ hd4.past.getD i 0 < 256 := by
        have := hbp (hd4.past[i]'(by omega)) (List.getElem_mem _)
        simpa [List.getD_eq_getElem?_getD, (show i < hd4.past.length by omega)] using this
      have hne := bx_ne ha (n := 1 + (n : Int)) (by omega)
      have hrg := bx_by (hd4.past.getD i 0) (1 + (n : Int))
      have hset : hd4.past.set i (bx (hd4.past.getD i 0) (1 + (n : Int))) ≠ hd4.past := set_ne (by omega) hne
      have hsb : Bytes (hd4.past.set i (bx (hd4.past.getD i 0) (1 + (n : Int)))) := set_by hbp hrg
      generalize hxx : bx (hd4.past.getD i 0) (1 + (n : Int)) = xx at hne hrg hset hsb
      refine cx_rowform 1 rfl (fun _ h1 _ => by omega) ?_
      rintro gp cap2 hgp
      cases hgp
      have hbx : ∀ {n' : Nat} {F : List (Nat × Value)} {h : View} {L : List Res} {dst : Option Nat} {ty T T' : Nat} {pos : String} {af : Array Edge} {gd : Option (Nat × Bool)} {x y : Operand}, ev F x = some (.int .u8 (hd4.past.getD i 0)) → ev F y = some (.int .u8 (1 + (n : Int))) → QV Tryd.prog n' F h L ⟨dst, .binOp .xor T x y T', ty, pos, af, gd⟩ (.int .u8 xx) := fun hx hy => by rw [← hxx]; exact qv_bx hx hy ha (by omega)
      repeat' (first|(refine ycf ?_;apply ybk;(·first|(first|exact tk_|(refine qv_remr rfl rfl (by decide) hi4)|(refine qv_remr rfl rfl (by decide) hk8)|(refine qv_convert_int' rfl w8)|(refine qv_convert_int' rfl wk)|(refine qv_convert_int' rfl rfl)|(refine hbx rfl rfl))|(apply yae;(·rfl);(·(first|exact (env_head hek (yaz 0 rfl)).cell (j := 4) rfl|exact byte_cellx rfl (row_cells 1 rfl) (i := i) (by omega) (by omega)))));(·rfl);(·rfl))|(refine rx_rowstore 1 rfl rfl rfl rfl (by show 0 + (i : Int).toNat * 1 + 1 ≤ _;omega) rfl (spl_byte' (t := i) (by omega) (by omega)) rfl rfl ?_ ?_ ?_;(·(exact to_));(·(exact to_)))|refine t1_ ?_|(refine ta_ ?_;intro _)|((fail_if_success (refine ybi rfl ?_));refine ybj rfl ?_ ?_<;>(intro ht;rw [ht];first|replace ht := oet_ ht|replace ht := oef_ ht|skip))|(refine ych ?_;first|(refine ybw rfl ?_ ?_<;>intro ht)|(refine ybx rfl ?_ ?_<;>intro ht)))
      refine nx_cut ⟨h5, _, nm4, ek, { hd4 with past := hd4.past.set i xx }, .slice (some ⟨gp, 0, none⟩) hd4.past.length capp, .slice ads se.length caps, se⟩ ⟨Le.refl h5, hn5, hnmk, hek, ⟨hok4.1, hok4.2.1, hok4.2.2.1, hok4.2.2.2.1, ?_⟩, hsx, F2 ?_⟩ ts_ (fun _ s => ?_)
      · show (hd4.past.set i xx).length ≤ 4096
        rw [List.length_set]; omega
      · intro hh
        have hb : boundF ek { hd4 with past := hd4.past.set i xx } = boundF ek hd4 := bstr_inj (boundF_by (q := { hd4 with past := hd4.past.set i xx }) heb hsb) (boundF_by heb hbp) hh.2.2.2.1
        exact hset (bound_past (q := hd4) (List.length_set ..) hb)
      · dsimp only
        unfold rowB
        rw [List.length_set]
        exact s
    · obtain ⟨i, hi6, hil⟩ : ∃ i : Nat, (IntKind.u64.wrap by').tmod (se.length : Nat) = (i : Int) ∧ i < se.length := ⟨((IntKind.u64.wrap by') % (se.length : Nat)).toNat, by have := hU by'; have := Int.emod_nonneg (IntKind.u64.wrap by') (b := (se.length : Nat)) (by omega); rw [Int.tmod_eq_emod_of_nonneg (hU by').1]; omega, by have := Int.emod_nonneg (IntKind.u64.wrap by') (b := (se.length : Nat)) (by omega); have := Int.emod_lt_of_pos (IntKind.u64.wrap by') (b := (se.length : Nat)) (by omega); omega⟩
      have wi : IntKind.i64.wrap (i : Int) = (i : Int) := by rw [IntKind.wrap_i64]; omega
      have wl : IntKind.u64.wrap (se.length : Nat) = ((se.length : Nat) : Int) := wrap_u64 (by omega) (by omega)
      have w8 : IntKind.u8.wrap (1 + (n : Int)) = 1 + (n : Int) := by simp [IntKind.wrap, IntKind.bits, IntKind.signed]; omega
      have ha : 0 ≤ se.getD i 0 ∧ se.getD i 0 < 256 := by
        have := hsb se[i] (List.getElem_mem _)
        simpa [List.getD_eq_getElem?_getD, hil] using this
      have hne := bx_ne ha (n := 1 + (n : Int)) (by omega)
      have hrg := bx_by (se.getD i 0) (1 + (n : Int))
      have hset : se.set i (bx (se.getD i 0) (1 + (n : Int))) ≠ se := set_ne hil hne
      have hsb2 : Bytes (se.set i (bx (se.getD i 0) (1 + (n : Int)))) := set_by hsb hrg
      generalize hxx : bx (se.getD i 0) (1 + (n : Int)) = xx at hne hrg hset hsb2
      refine cx_rowform 2 rfl (fun _ h1 _ => by omega) ?_
      rintro gs cap2 hgs
      cases hgs
      have hbx : ∀ {n' : Nat} {F : List (Nat × Value)} {h : View} {L : List Res} {dst : Option Nat} {ty T T' : Nat} {pos : String} {af : Array Edge} {gd : Option (Nat × Bool)} {x y : Operand}, ev F x = some (.int .u8 (se.getD i 0)) → ev F y = some (.int .u8 (1 + (n : Int))) → QV Tryd.prog n' F h L ⟨dst, .binOp .xor T x y T', ty, pos, af, gd⟩ (.int .u8 xx) := fun hx hy => by rw [← hxx]; exact qv_bx hx hy ha (by omega)
      repeat' (first|(refine ycf ?_;apply ybk;(·first|(first|exact tk_|(refine qv_remr rfl rfl (by omega) hi6)|(refine qv_remr rfl rfl (by decide) hk8)|(refine qv_convert_int' rfl w8)|(refine qv_convert_int' rfl wl)|(refine qv_convert_int' rfl wi)|(refine qv_convert_int' rfl wk)|(refine qv_convert_int' rfl rfl)|(refine hbx rfl rfl))|(apply yae;(·rfl);(·(first|exact env_seal hek (yaz 0 rfl)|exact byte_cellx rfl (row_cells 2 rfl) (i := i) (by omega) (by omega)))));(·rfl);(·rfl))|(refine rx_rowstore 2 rfl rfl rfl rfl (by show 0 + (i : Int).toNat * 1 + 1 ≤ _;omega) rfl (spl_byte' (t := i) (by omega) (by omega)) rfl rfl ?_ ?_ ?_;(·(exact to_));(·(exact to_)))|refine t1_ ?_|(refine ta_ ?_;intro _)|((fail_if_success (refine ybi rfl ?_));refine ybj rfl ?_ ?_<;>(intro ht;rw [ht];first|replace ht := oet_ ht|replace ht := oef_ ht|skip))|(refine ych ?_;first|(refine ybw rfl ?_ ?_<;>intro ht)|(refine ybx rfl ?_ ?_<;>intro ht)))
      refine cx_region_draw' rfl (by kernel_rfl) ?_
      repeat' (refine ycf ?_;(first|(first|(apply ybm;(·(first|(first|exact tk_|(refine qv_remr rfl rfl (by omega) hi6)|(refine qv_remr rfl rfl (by decide) hk8)|(refine qv_convert_int' rfl w8)|(refine qv_convert_int' rfl wl)|(refine qv_convert_int' rfl wi)|(refine qv_convert_int' rfl wk)|(refine qv_convert_int' rfl rfl)|(refine hbx rfl rfl))|(apply yae;(·rfl);(·(first|exact env_seal hek (yaz 0 rfl)|exact byte_cellx rfl (row_cells 2 rfl) (i := i) (by omega) (by omega))))|exact tq_));(·rfl);(·rfl);(·(exact th_)))|refine ybl rfl rfl ?_|((fail_if_success (refine ybi rfl ?_));refine ybj rfl ?_ ?_<;>(intro ht;rw [ht];first|replace ht := oet_ ht|replace ht := oef_ ht|skip))|(refine tb_ ?_ ?_ ?_;(·(exact to_));(·intro _;(exact to_));intro _)|(first|(refine rx_rowstore 2 rfl rfl rfl rfl (by show 0 + (i : Int).toNat * 1 + 1 ≤ _;omega) rfl (spl_byte' (t := i) (by omega) (by omega)) rfl rfl ?_ ?_ ?_;(·(exact to_));(·(exact to_)))|(refine tqs_ ?_ ?_ ?_;(·(exact to_));(·(exact to_))))|(apply ybn;(·(first|(first|exact tk_|(refine qv_remr rfl rfl (by omega) hi6)|(refine qv_remr rfl rfl (by decide) hk8)|(refine qv_convert_int' rfl w8)|(refine qv_convert_int' rfl wl)|(refine qv_convert_int' rfl wi)|(refine qv_convert_int' rfl wk)|(refine qv_convert_int' rfl rfl)|(refine hbx rfl rfl))|(apply yae;(·rfl);(·(first|exact env_seal hek (yaz 0 rfl)|exact byte_cellx rfl (row_cells 2 rfl) (i := i) (by omega) (by omega))))|exact tq_));(·rfl);(·rfl);(·rfl);(·(exact to_))))|refine ycg ?_))
      repeat' (first|(refine ycf ?_;apply ybk;(·first|(first|exact tk_|(refine qv_remr rfl rfl (by omega) hi6)|(refine qv_remr rfl rfl (by decide) hk8)|(refine qv_convert_int' rfl w8)|(refine qv_convert_int' rfl wl)|(refine qv_convert_int' rfl wi)|(refine qv_convert_int' rfl wk)|(refine qv_convert_int' rfl rfl)|(refine hbx rfl rfl))|(apply yae;(·rfl);(·(first|exact env_seal hek (yaz 0 rfl)|exact byte_cellx rfl (row_cells 2 rfl) (i := i) (by omega) (by omega)))));(·rfl);(·rfl))|(refine rx_rowstore 2 rfl rfl rfl rfl (by show 0 + (i : Int).toNat * 1 + 1 ≤ _;omega) rfl (spl_byte' (t := i) (by omega) (by omega)) rfl rfl ?_ ?_ ?_;(·(exact to_));(·(exact to_)))|refine t1_ ?_|(refine ta_ ?_;intro _)|((fail_if_success (refine ybi rfl ?_));refine ybj rfl ?_ ?_<;>(intro ht;rw [ht];first|replace ht := oet_ ht|replace ht := oef_ ht|skip))|(refine ych ?_;first|(refine ybw rfl ?_ ?_<;>intro ht)|(refine ybx rfl ?_ ?_<;>intro ht)))
      refine nx_cut ⟨h5, _, nm4, ek, hd4, .slice adp hd4.past.length capp, .slice (some ⟨gs, 0, none⟩) se.length caps, se.set i xx⟩ ⟨Le.refl h5, hn5, hnmk, hek, hok4, ?_, F2 ?_⟩ ts_ (fun _ s => ?_)
      · show 16 ≤ (se.set i xx).length ∧ (se.set i xx).length ≤ 8192
        rw [List.length_set]; exact hsx
      · exact fun hh => hset (bstr_inj hsb2 hsb hh.2.2.2.2)
      · dsimp only
        unfold rowB
        rw [List.length_set]
        exact s
    · have w8 : IntKind.u8.wrap (1 + (n : Int)) = 1 + (n : Int) := by simp [IntKind.wrap, IntKind.bits, IntKind.signed]; omega
      have hil : 1 + n < ek.length := by omega
      have ha : 0 ≤ ek.getD (1 + n) 0 ∧ ek.getD (1 + n) 0 < 256 := by
        have := heb ek[1 + n] (List.getElem_mem _)
        simpa [List.getD_eq_getElem?_getD, hil] using this
      have hne := bx_ne ha (n := 1 + (n : Int)) (by omega)
      have hset : ek.set (1 + n) (bx (ek.getD (1 + n) 0) (1 + (n : Int))) ≠ ek := set_ne hil hne
      generalize hxx : bx (ek.getD (1 + n) 0) (1 + (n : Int)) = xx at hne hset
      have hbx : ∀ {n' : Nat} {F : List (Nat × Value)} {h : View} {L : List Res} {dst : Option Nat} {ty T T' : Nat} {pos : String} {af : Array Edge} {gd : Option (Nat × Bool)} {x y : Operand}, ev F x = some (.int .u8 (ek.getD (1 + n) 0)) → ev F y = some (.int .u8 (1 + (n : Int))) → QV Tryd.prog n' F h L ⟨dst, .binOp .xor T x y T', ty, pos, af, gd⟩ (.int .u8 xx) := fun hx hy => by rw [← hxx]; exact qv_bx hx hy ha (by omega)
      repeat' (first|(refine ycf ?_;apply ybk;(·first|(first|exact tk_|(refine qv_remr rfl rfl (by decide) hk8)|(refine qv_convert_int' rfl w8)|(refine qv_convert_int' rfl wk)|(refine qv_convert_int' rfl rfl)|(refine hbx rfl rfl))|(apply yae;(·rfl);(·(exact byte_cellx rfl (env_key (yaz 0 rfl)) (i := 1 + n) (by omega) hil))));(·rfl);(·rfl))|(refine ybg 0 rfl rfl rfl rfl (by show 0 + 0 + (1 + (n : Int)).toNat * 1 + 1 ≤ (envc ek hd4 _ _).toArray.size;rw [List.size_toArray, envc_len hek];omega) rfl (spl_key (i := 1 + n) (by omega) hil) rfl rfl ?_ ?_ ?_;(·(exact to_));(·(exact to_)))|refine t1_ ?_|(refine ta_ ?_;intro _)|((fail_if_success (refine ybi rfl ?_));refine ybj rfl ?_ ?_<;>(intro ht;rw [ht];first|replace ht := oet_ ht|replace ht := oef_ ht|skip))|(refine ych ?_;first|(refine ybw rfl ?_ ?_<;>intro ht)|(refine ybx rfl ?_ ?_<;>intro ht)))
      refine nx_cut ⟨h5, _, nm4, ek.set (1 + n) xx, hd4, _, _, se⟩ ⟨Le.refl h5, hn5, hnmk, by rw [List.length_set]; exact hek, hok4, hsx, F1 hset⟩ ts_ (fun _ s => s)
  rintro ⟨h6, vn, nm, ek2, q, pv, sv, se2⟩ ⟨hle6, hn6, ⟨hnb, hn1, hn64⟩, hek2, hok, hse2, hop⟩
  dsimp only at hle6 hn6 hnb hn1 hn64 hek2 hok hse2 hop ⊢
  refine yby ?_
  repeat' (first|(refine ycf ?_;apply ybk;(·first|(apply yad;(·rfl);(·exact yaz 0 rfl);(·exact envc_len hek2)));(·rfl);(·rfl))|refine t1_ ?_|(refine ta_ ?_;intro _)|((fail_if_success (refine ybi rfl ?_));refine ybj rfl ?_ ?_<;>(intro ht;rw [ht];first|replace ht := oet_ ht|replace ht := oef_ ht|skip))|(refine ych ?_;first|(refine ybw rfl ?_ ?_<;>intro ht)|(refine ybx rfl ?_ ?_<;>intro ht)))
  refine rx_perm (perm_at (k := 1) rfl) ?_
  refine rx_persist rfl fun h7 hle7 hp7 => ?_
  have hp7 : Bs8 h7 pv q.past := hp7
  refine rx_perm (perm_at (k := 1) rfl) ?_
  refine rx_persist rfl fun h8 hle8 hs8 => ?_
  have hs8 : Bs8 h8 sv se2 := hs8
  have hle58 := (hle6.trans hle7).trans hle8
  have O1 := EOpen_sp bv (key1 4) bn bu bt [nm4] T nm ek2 se2 _ _ _ q hk rfl hek2 (fun x hx => by rw [List.mem_singleton.1 hx]; exact hbn) (by simp) htl hnb ⟨hn1, hn64⟩ hok hse2 h8 (htok5.mono hle58) (hv5.mono hle58) ((hn6.mono hle7).mono hle8) (hp7.mono hle8) hs8
  rw [hop] at O1
  refine rx_call_l (ycp Tryd.func8 rfl (by kernel_rfl) rfl) (pick2 1 1 rfl rfl) O1 rfl rfl rfl ybf (fun _ _ _ => ybf) ?_
  rintro ⟨h9, v1⟩ hv1r hle9
  dsimp only at hv1r hle9 ⊢
  obtain ⟨_, ad1, cap1, rfl, hcap1, _⟩ := id hv1r
  repeat' (first|(refine ycf ?_;apply ybk;(·first|(exact tk_));(·rfl);(·rfl))|refine t1_ ?_|(refine ta_ ?_;intro _)|((fail_if_success (refine ybi rfl ?_));refine ybj rfl ?_ ?_<;>(intro ht;rw [ht];first|replace ht := oet_ ht|replace ht := oef_ ht|skip))|(refine ych ?_;first|(refine ybw rfl ?_ ?_<;>intro ht)|(refine ybx rfl ?_ ?_<;>intro ht)))
  exact nx_ret1 rfl (rv_tmp rfl) (fun w' s' => ⟨h9, rfl, s'.nil⟩)
end Go.Proofs.YtgeepceieckooaaDoor
end

section
namespace Go.Ck
open Go Go.ChangeShapes
set_option linter.unusedVariables false
set_option maxHeartbeats 1000000
section
variable {H : Type} {enc : TypeId × Value → H} {P : Program} {w : World} {base : Nat} {spare : Nat → Bool} {held : Bool}
theorem cells_get' {a : Addr} {n : Nat} {cs : List Value} (h : w.cells? base a n = some cs) {j : Nat} {u : Value} (hj : cs[j]? = some u) : w.cell? (a.add j) = some u := by
  unfold World.cells? at h
  split at h
  · have hl := mapM_some_length h
    have hjl : j < cs.length := (List.getElem?_eq_some_iff.1 hj).1
    have := mapM_some_get h j j (by rw [List.length_range] at hl; exact List.getElem?_range (by omega))
    rw [this, hj]
  · cases h
theorem trod_slice_of {T e k : Nat} {α : Type} {en : α → List Value} {R : α → Prop} (tu : P.underlying T = some (.slice e)) (hc : P.cellsOf e = k) (hk0 : 0 < k) (hlen : ∀ x, (en x).length = k)
    (hel : ∀ (m : Nat) (cs : List Value) (y : DataW H × List MemPlace), DataW.trod enc P w base spare held m e cs = some y → ∃ x : α, R x ∧ cs = en x)
    {m : Nat} {cs : List Value} {y : DataW H × List MemPlace} (h : DataW.trod enc P w base spare held m T cs = some y) :
    ∃ (v : Value) (l : List α), cs = [v] ∧ Sc (fun b => w.heap[b]?) k v l.length (l.flatMap en) ∧ l.length ≤ maxLen ∧ ∀ x ∈ l, R x := by
  subst hc
  rcases Go.Deep.open_slice tu h with ⟨rfl, _⟩ | ⟨a, len, cap, q, n, D, Pl, rfl, _, h1, h2, hk, _, hall⟩
  · exact ⟨_, [], rfl, Sc.nil _ _ none 0, Nat.zero_le _, fun x hx => by cases hx⟩
  · have hkl : len ≤ q := by rw [hk]; split <;> omega
    have hex : ∀ i, i < len → ∃ d : α, R d ∧ w.cells? base (a.add (i * P.cellsOf e)) (P.cellsOf e) = some (en d) := fun i hi => by
      obtain ⟨cs', e1, e2⟩ := hall i (by omega)
      obtain ⟨d, hr, rfl⟩ := hel _ _ _ e2
      exact ⟨d, hr, e1⟩
    generalize P.cellsOf e = k at hex hk0 hlen ⊢
    by_cases h0 : len = 0
    · subst h0
      exact ⟨_, [], rfl, ⟨by simp, some a, cap, rfl, Nat.zero_le _, .inl rfl⟩, Nat.zero_le _, fun x hx => by cases hx⟩
    obtain ⟨d0, _⟩ := hex 0 (by omega)
    obtain ⟨f, hf'⟩ : ∃ f : Nat → α, ∀ i, i < len → R (f i) ∧ w.cells? base (a.add (i * k)) k = some (en (f i)) := by
      classical
      exact ⟨fun i => if hi : i < len then (hex i hi).choose else d0, fun i hi => by
        dsimp only
        rw [dif_pos hi]
        exact (hex i hi).choose_spec⟩
    have hf := fun i hi => (hf' i hi).2
    refine ⟨_, (List.range len).map f, rfl, ⟨?_, some a, cap, by simp, by simpa using h1, ?_⟩, by simp; omega, fun x hx => ?_⟩
    · rw [flat_len hlen]
    · refine .inr ?_
      have hc00 : 0 < (en (f 0)).length := by rw [hlen]; exact hk0
      have hc0 := cells_get' (hf 0 (by omega)) (j := 0) (List.getElem?_eq_getElem hc00)
      obtain ⟨b, o, sp⟩ := a
      have hadd : ∀ i j, ((⟨b, o, sp⟩ : Addr).add i).add j = (⟨b, o, sp⟩ : Addr).add (i + j) := fun i j => Go.Deep.add_add _ i j
      rw [hadd] at hc0
      have hblk : ((⟨b, o, sp⟩ : Addr).add (0 * k + 0)) = ⟨b, o, sp⟩ := by simp [Addr.add]
      rw [hblk] at hc0
      unfold World.cell? at hc0
      split at hc0
      · rename_i c e fz hb
        split at hc0
        · cases hc0
        · rename_i hsp
          have hsp' : sp = none := by simpa using hsp
          subst hsp'
          refine ⟨b, o, c, e, fz, rfl, hb, fun j u hj => ?_⟩
          have hjl : j < len * k := by
            have := (List.getElem?_eq_some_iff.1 hj).1
            rw [flat_len hlen] at this
            simpa using this
          have hjk : j / k < len := Nat.div_lt_of_lt_mul (by rw [Nat.mul_comm]; exact hjl)
          have hd : j / k < ((List.range len).map f).length := by simpa using hjk
          have e1 : (((List.range len).map f).flatMap en)[j]? = (en (f (j / k)))[j % k]? := by
            have := flat_at hlen ((List.range len).map f) (j / k) hd
            have e3 : ((List.range len).map f)[j / k] = f (j / k) := by simp
            rw [e3] at this
            rw [← this, List.getElem?_take_of_lt (Nat.mod_lt _ hk0), List.getElem?_drop]
            congr 1
            rw [Nat.mul_comm]
            exact (Nat.div_add_mod j k).symm
          rw [e1] at hj
          have := cells_get' (hf (j / k) hjk) hj
          rw [hadd, Addr.add_off] at this
          unfold World.cell? at this
          simp only [hb] at this
          simp only [Option.isSome_none, Bool.false_eq_true, if_false] at this
          have ej : j / k * k + j % k = j := by rw [Nat.mul_comm]; exact Nat.div_add_mod j k
          rw [ej] at this
          exact this
      · cases hc0
    · obtain ⟨i, hi, rfl⟩ := List.mem_map.1 hx
      exact (hf' i (by simpa using hi)).1
end
end Go.Ck
end

section
namespace Go.Proofs.YtgeepceieckooaaDoor
open Go Go.Ck Go.ChangeShapes
set_option maxRecDepth 100000
set_option maxHeartbeats 1000000
set_option linter.unusedVariables false
theorem cellsByte : Tryd.prog.cellsOf 5 = 1 := by kernel_rfl
theorem bcs_flat (l : List Int) : l.flatMap (fun n => [Value.int .u8 n]) = bcs l := by
  induction l with
  | nil => rfl
  | cons x l ih => rw [List.flatMap_cons, ih]; rfl
theorem trod_bs {H : Type} {enc : TypeId × Value → H} {w : World} {base : Nat} {spare : Nat → Bool} {held : Bool} {m : Nat} {cs : List Value} {y : DataW H × List MemPlace} (h : DataW.trod enc Tryd.prog w base spare held m 22 cs = some y) :
    ∃ (v : Value) (l : List Int), cs = [v] ∧ Bs8 (fun b => w.heap[b]?) v l ∧ Bytes l ∧ l.length ≤ maxLen := by
  obtain ⟨v, l, h1, h2, h3, h4⟩ := trod_slice_of (en := fun n : Int => [Value.int .u8 n]) (R := fun n => 0 ≤ n ∧ n < 256) Tryd.underlying22 cellsByte (by decide) (fun _ => rfl) (fun m cs y hy => by
    obtain ⟨n, e1, _, e3⟩ := DataW.trod_int Tryd.underlying5 hy
    obtain ⟨q1, q2⟩ := (Lit.wf_int_iff .u8 n).1 e3
    have m1 : IntKind.u8.min = 0 := by decide
    have m2 : IntKind.u8.max = 255 := by decide
    exact ⟨n, ⟨by omega, by omega⟩, e1⟩) h
  rw [bcs_flat] at h2
  exact ⟨v, l, h1, h2, h4, h3⟩
end Go.Proofs.YtgeepceieckooaaDoor
end

section
namespace Go.Proofs.YtgeepceieckooaaDoor.envelopeForged
open Go Go.Ck Go.ChangeShapes Go.WideShapes Go.ChangeAt Go.RowKit
set_option maxRecDepth 100000
set_option maxHeartbeats 1000000
set_option linter.unusedVariables false
theorem laidOut : laidOutB Tryd.prog = true := by kernel_rfl
theorem own : ownKnob Tryd.prog.godebug = none := by kernel_rfl
theorem door_met (os : Os) (args : Array Value) : laidMetH Tryd.prog Rows.envelopeForgedRow.laid ((World.doorLaid Tryd.prog 400 os).forCall (fun _ _ => 0) ⟨#[], args, []⟩).memory :=
  laidMetH_of_parts3 (fuel := 8) (laidMet_of_run' 8 (by kernel_rfl) (by kernel_rfl)) (by kernel_rfl) (by kernel_rfl)
theorem contract (H : Type) (enc : TypeId × Value → H) (W : World) (base : Nat) (args : Array Value) (ds gs : List (DataW H)) (before : List MemPlace)
    (hval : ∀ (j : Nat) t v, Tryd.f3.params[j]? = some t → args[j]? = some v → Value.okWide Tryd.prog W .any base t v)
    (hW : DataW.Whole enc Tryd.prog Tryd.f3.params.toList Rows.envelopeForgedSpec.vars false W args.toList ds gs before) (hL : laidMetH Tryd.prog Rows.envelopeForgedRow.laid W) :
    Calls Tryd.prog 3 args W fun e W' => ∃ v, e = .returned v ∧ Rows.envelopeForgedSpec.post enc Tryd.prog Tryd.f3 false true false false W args v W' := by
  have hW' := hW
  obtain ⟨p, q, hA0, hV, rfl, hfz, hnd⟩ := hW
  have hA : DataW.TrodAll enc Tryd.prog W 0 (fun _ => true) true Tryd.f3.params.toList args.toList ds p := hA0
  rw [Tryd.params3] at hA hval
  obtain ⟨v0, vs0, d0, ds0, p0, q0, hargs0, rfl, rfl, h0, r0⟩ := trodAll_cons hA
  obtain ⟨v1, vs1, d1, ds1, p1, q1, hargs1, rfl, rfl, h1, r1⟩ := trodAll_cons r0
  obtain ⟨v2, vs2, d2, ds2, p2, q2, hargs2, rfl, rfl, h2, r2⟩ := trodAll_cons r1
  obtain ⟨rfl, rfl, rfl⟩ := trodAll_nil r2
  obtain rfl : args = #[v0, v1, v2] := by cases args; simp_all
  obtain ⟨rfl, rfl⟩ := trodVars_none hV
  obtain ⟨a0, len0, cap0, rfl⟩ := okWide_slice Tryd.underlying22 (hval 0 22 v0 rfl rfl)
  obtain ⟨fu0, g0⟩ := id h0
  obtain ⟨sv0, l0, hsv0, hd0, hb0, hl0⟩ := trod_bs g0
  obtain rfl : Value.slice a0 len0 cap0 = sv0 := by
    have e : (Value.slice a0 len0 cap0).cells.toList = [Value.slice a0 len0 cap0] := rfl
    rw [e] at hsv0
    exact (List.cons.inj hsv0).1
  have hl0 : l0.length ≤ 9223372036854775807 := by unfold maxLen at hl0; omega
  obtain ⟨n1, rfl, rfl, rfl, w1⟩ := open_int Tryd.underlying3 (hval 1 3 v1 rfl rfl) h1
  obtain ⟨n2, rfl, rfl, rfl, w2⟩ := open_int Tryd.underlying3 (hval 2 3 v2 rfl rfl) h2
  have hst : St ⟨W, fun b => W.heap[b]?, []⟩ (fun b => W.heap[b]?) [] W := St.start (L := []) ⟨fun b o hb => hb, fun r hr => (by cases hr)⟩ (by simp [doms]) (fun b hb => (by simp [doms] at hb))
  refine (EnvelopeForged_sp _ l0 n1 n2 _ hb0 hd0 hl0 W hst).mono fun e W' ⟨h', he, s'⟩ => ?_
  subst he
  have hb : Below W.heap.size W W' := ⟨s'.os, s'.tape, s'.output, s'.size, fun k hk => s'.keep k hk (by simp)⟩
  simp only [List.append_nil] at hW'
  have hlt0 : ∀ x ∈ p0, x.block < W.heap.size := fun x hx => by simpa using hW'.lt x (by simp [hx])
  exact ⟨_, rfl, _, _, _, [], p0, [], hW', trodAll_cons_mk (shut_bool Tryd.underlying4 _) trodAll_mk0,
    by
      have h := (trodAll_cons_mk (Below.trod laidOut (by kernel_rfl) (oet_ (by kernel_rfl)) h0 hb hlt0) (trodAll_cons_mk (shut_int Tryd.underlying3 w1) (trodAll_cons_mk (shut_int Tryd.underlying3 w2) trodAll_mk0)))
      simp only [List.append_nil] at h
      exact h,
    rfl, hb.frame _, fun h => by cases h⟩
set_option maxRecDepth 100000 in
theorem lifted (os : Os) (started : os.Started) (H : Type) (enc : TypeId × Value → H) :
    ReturnsInHanded {} Tryd.checked os 3 .any (fun w args => (Rows.envelopeForgedSpec.pre enc Tryd.prog Tryd.f3 Rows.envelopeForgedRow.domain false w args ∧ laidMetH Tryd.prog Rows.envelopeForgedRow.laid w) ∧ sizedMet enc Tryd.prog Tryd.f3 (OpenSpec.ofChange Rows.envelopeForgedSpec) false w args) (Rows.envelopeForgedSpec.post enc Tryd.prog Tryd.f3 false true false false) := by
  refine returnsInHanded_of_change_and (C := Tryd.checked) (X := fun w _ => laidMetH Tryd.prog Rows.envelopeForgedRow.laid w) (fun _ _ _ hh h => h.of_heap hh) own started (by kernel_rfl) Tryd.func3
    (ChangeSpec.witness_shaped (enc := enc) (C := Tryd.checked) (os := os) (X := fun w _ => laidMetH Tryd.prog Rows.envelopeForgedRow.laid w) false (World.doorLaid Tryd.prog 400 os) #[.slice none 0 0, .int .i64 0, .int .i64 0] 8 rfl (World.shaped_of_RefB (by kernel_rfl) (by kernel_rfl)) (by kernel_rfl) (by kernel_rfl) (by kernel_rfl) (door_met os _)) ?_
  intro W base args ds gs before hval hW _ _ hL _
  exact contract H enc W base args ds gs before hval hW hL
theorem over : Rows.EnvelopeForgedSaid :=
  OpenClaim.holds_of_wide 3 Tryd.f3 rfl rfl rfl rfl rfl rfl rfl ⟨rfl, rfl, rfl, rfl, rfl⟩ rfl rfl rfl rfl rfl (by kernel_rfl) Tryd.func3 (by kernel_rfl)
    (oet_ (by kernel_rfl)) (by unfold Func.isWrapper;first|(rw [if_pos (by decide +kernel)];kernel_rfl)|(rw [if_neg (by decide +kernel)];exact ⟨rfl, rfl⟩))
    (fun os started H enc _ => lifted os started H enc)
theorem proved : Rows.EnvelopeForgedCardSaid :=
  Claim7.holds_tied_plain_at .later [] Rows.envelopeForgedCard.laidKinds true Rows.envelopeForgedCard.stood.harness false
    over (fun _ h => by cases h) (by kernel_rfl) (fun _ h => by cases h) envelopeForged_row_tie rfl ⟨rfl, rfl⟩ (by kernel_rfl) rfl
    (fun f fn hf hfn => by
      obtain rfl : f = 3 := Option.some.inj ((show Tryd.prog.funcNamed "casket/casketlaw13.EnvelopeForged" = some 3 by kernel_rfl).symm.trans hf) |>.symm
      obtain rfl : fn = Tryd.f3 := (Option.some.inj (Tryd.func3.symm.trans hfn)).symm
      exact ⟨by kernel_rfl, fun j t ht => by
        rw [Tryd.params3] at ht
        have hm : t ∈ [22, 3, 3] := by simpa using Array.mem_of_getElem? ht
        have hall : ([22, 3, 3].all fun u => !Tryd.prog.wantsStandIn u) = true := by kernel_rfl
        exact (show Tryd.prog.wantsStandIn t = false by simpa using List.all_eq_true.1 hall t hm)⟩)
    (by kernel_rfl)
end Go.Proofs.YtgeepceieckooaaDoor.envelopeForged
end
