/-
  The law EnvelopeSizes holds of every input: walks, plain laws and the lift.
  Conditions: none.
-/
import Derived.Deep.Slices
import Derived.Carry
import Derived.DataReads
import Derived.DataShut
import Derived.RowKit
import Derived.Test.YtgeepceieckooaaDoorRows
import Derived.WalkKit
import Derived.ProofKit
import Derived.OpenShut
import Derived.LaidMore
import Derived.Stop.Joined
import Derived.SevenTiedAt
import Derived.Test.YtgeepceieckooaaDoorCards
import Derived.Test.YtgeepceieckooaaDoorTie
import Derived.Test.YtgeepceieckooaaDoorVrDPM14
section
namespace Go.Proofs.YtgeepceieckooaaDoor
open Go Go.Ck
set_option maxRecDepth 100000
set_option maxHeartbeats 4000000
set_option linter.unusedVariables false
theorem names_nil : Names [] := fun x hx => by cases hx
theorem addX_names {idl : Bool} {N : List (List Int)} (hN : Names N) {x : List Int} (hx : Bytes x) : Names (addX idl N x) := by
  cases idl
  · exact hN
  · exact addN_names hN hx
theorem addX_len (idl : Bool) (N : List (List Int)) (x : List Int) : (addX idl N x).length ≤ N.length + 1 := by
  cases idl
  · show N.length ≤ _; omega
  · show (addN N x).length ≤ _
    unfold addN
    split
    · omega
    · simp
theorem heldX {idl : Bool} {U : List UseK} {T : Tab} (hh : Held U T) (k : SeaK) (v : Value) (b : List Int) : Held (U ++ [(k.1, k.2.1)]) (tabX idl T (k, v, b)) := by
  cases idl
  · exact fun x hx => List.mem_append_left _ (hh x hx)
  · exact hh.add k v b
theorem bytes_nil : Bytes [] := fun x hx => by cases hx
theorem held_nil : Held [] [] := fun x hx => by cases hx
def otherB : List Int := [111, 116, 104, 101, 114]
theorem otherB_by : Bytes otherB := by
  intro x hx
  simp only [otherB, List.mem_cons, List.not_mem_nil, or_false] at hx
  omega
structure AskD where
  nm : List Int
  ep : Int
  ct : Int
  cl : Int
  nu : Int
  past : List Int
  val : List Int
  del : Bool
def askc (a : AskD) (vn vp vv : Value) : List Value := [vn, .int .i64 a.ep, .int .i64 a.ct, .int .i64 a.cl, .int .i64 a.nu, vp, vv, .bool a.del]
def AskD.by' (a : AskD) : Prop := Bytes a.nm ∧ Bytes a.past ∧ Bytes a.val ∧ a.nm.length ≤ 9223372036854775807 ∧ a.past.length ≤ 9223372036854775807 ∧ a.val.length ≤ 9223372036854775807
theorem EnvelopeSizes_sp (idl : Bool) (a : AskD) (vn vp vv vo : Value) (o : List Int) (h : View) (ha : a.by') (yo : Bytes o) (hol : o.length ≤ 9223372036854775807) (hn : Bs8 h vn a.nm) (hp : Bs8 h vp a.past) (hv : Bs8 h vv a.val) (ho : Bs8 h vo o) (hg : ShG h) (w : World) (s : St ⟨w, h, []⟩ h [] w) :
    Calls Tryd.prog 4 [.bool idl, .agg (askc a vn vp vv).toArray, vo].toArray w fun e w' => ∃ h', e = .returned (.bool true) ∧ St ⟨w, h, []⟩ h' [] w' := by
  obtain ⟨yn, yp, yv, ln, lp, lv⟩ := ha
  have hb107 : Bytes [107] := by intro x hx; rw [List.mem_singleton.1 hx]; omega
  have pad64 : ∀ {b : List Int}, b.length ≤ 60 → (padW b).length = 64 := fun {b} hb => by
    rw [padW_len (by omega)]
    unfold sizeF classK
    rw [if_pos (by omega)]
    rfl
  have hokk : ∀ {k : Int} {past : List Int}, 1 ≤ k ∧ k ≤ 3 → past.length ≤ 50 → (Hdr.mk 1 k 1 1 past).ok := fun {k past} hk hp => by
    unfold Hdr.ok
    dsimp only
    omega
  have hk : Bytes (key1 9) := key1_by (by omega)
  have hS : ∀ (h : View) (w : World), St ⟨w, h, []⟩ h [] w → Calls Tryd.prog 7 [].toArray w fun e w' => ∃ h' : View, e = .returned (.bool true) ∧ St ⟨w, h, []⟩ h' [] w' ∧ True := fun h w s =>
    (seals_sp h w s).mono fun e w' ⟨h', h1, h2⟩ => ⟨h', h1, h2, trivial⟩
  refine calls_enter Tryd.func4 rfl Tryd.ntmps4 rfl s ?_
  repeat' (first|(refine ycf ?_;apply ybk;(·first|(first|exact (qv_build_arr (cs := bcs (key1 9)) rfl rfl)));(·rfl);(·rfl))|refine t1_ ?_|(refine ta_ ?_;intro _)|((fail_if_success (refine ybi rfl ?_));refine ybj rfl ?_ ?_<;>(intro ht;rw [ht];first|replace ht := oet_ ht|replace ht := oef_ ht|skip))|(refine ych ?_;first|(refine ybw rfl ?_ ?_<;>intro ht)|(refine ybx rfl ?_ ?_<;>intro ht)))
  (refine yco (ycp Tryd.func9 rfl (by kernel_rfl) rfl) (vaults_sp idl (key1 9) hk rfl h) rfl rfl rfl ?_ ?_ ?_; (· (exact to_)); (· intro _ _ hle; (exact to_)); intro x px hle)
  obtain ⟨h1, bv, bn, bu, bt, br⟩ := x
  dsimp only at px hle ⊢
  have hv1 : Vb h1 bv idl (key1 9) bn bu bt := px
  have hle1 : Le h h1 := hle
  clear px hle
  repeat' (first|(refine ycf ?_;apply ybk;(·first|(first|exact (qv_build_arr (cs := bcs (key1 9)) rfl rfl)));(·rfl);(·rfl))|refine t1_ ?_|(refine ta_ ?_;intro _)|((fail_if_success (refine ybi rfl ?_));refine ybj rfl ?_ ?_<;>(intro ht;rw [ht];first|replace ht := oet_ ht|replace ht := oef_ ht|skip))|(refine ych ?_;first|(refine ybw rfl ?_ ?_<;>intro ht)|(refine ybx rfl ?_ ?_<;>intro ht)))
  have hd1 := hp.mono hle1
  (refine yco (ycp Tryd.func10 rfl (by kernel_rfl) rfl) (cut_sp vp a.past 50 (by omega) lp h1 hd1) rfl rfl rfl ?_ ?_ ?_; (· (exact to_)); (· intro _ _ hle; (exact to_)); intro x px hle)
  refine rx_persist rfl fun h2 hle2 hp2 => ?_
  have hp2 : Bs8 h2 x (a.past.take 50) := hp2
  have hpb : Bytes (a.past.take 50) := bytes_take yp 50
  have hpl : (a.past.take 50).length ≤ 50 := by simp; omega
  generalize a.past.take 50 = past at hp2 hpb hpl
  obtain ⟨_, adp, capp, rfl, hcapp, _⟩ := id hp2
  clear px hle
  repeat' (first|(refine ycf ?_;apply ybk;(·first|(first|exact tk_|(apply yax (cs := hdc ⟨1, 1, 1, 1, past⟩ (.slice adp past.length capp));(·rfl);(·rfl))));(·rfl);(·rfl))|refine t1_ ?_|(refine ta_ ?_;intro _)|((fail_if_success (refine ybi rfl ?_));refine ybj rfl ?_ ?_<;>(intro ht;rw [ht];first|replace ht := oet_ ht|replace ht := oef_ ht|skip))|(refine ych ?_;first|(refine ybw rfl ?_ ?_<;>intro ht)|(refine ybx rfl ?_ ?_<;>intro ht)))
  rename_i bh
  (refine yco (ycp Tryd.func10 rfl (by kernel_rfl) rfl) (cut_sp vv a.val 59 (by omega) lv h2 ((hv.mono hle1).mono hle2)) rfl rfl rfl ?_ ?_ ?_; (· (exact to_)); (· intro _ _ hle; (exact to_)); intro x px hle)
  refine rx_persist rfl fun h3 hle3 hx3 => ?_
  have hx3 : Bs8 h3 x (a.val.take 59) := hx3
  have hxb : Bytes (a.val.take 59) := bytes_take yv 59
  have hxl : (a.val.take 59).length ≤ 59 := by simp; omega
  generalize a.val.take 59 = va at hx3 hxb hxl
  clear px hle
  obtain ⟨vx, rfl⟩ : ∃ y, y = x := ⟨x, rfl⟩
  repeat' (first|(refine ycf ?_;apply ybk;(·first|exact tk_);(·rfl);(·rfl))|refine t1_ ?_|(refine ta_ ?_;intro _)|((fail_if_success (refine ybi rfl ?_));refine ybj rfl ?_ ?_<;>(intro ht;rw [ht];first|replace ht := oet_ ht|replace ht := oef_ ht|skip))|(refine ych ?_;first|(refine ybw rfl ?_ ?_<;>intro ht)|(refine ybx rfl ?_ ?_<;>intro ht)))
  (refine yco (ycp Tryd.func10 rfl (by kernel_rfl) rfl) (cut_sp vo o 59 (by omega) hol h3 (((ho.mono hle1).mono hle2).mono hle3)) rfl rfl rfl ?_ ?_ ?_; (· (exact to_)); (· intro _ _ hle; (exact to_)); intro x px hle)
  refine rx_persist rfl fun h4 hle4 hy4 => ?_
  have hy4 : Bs8 h4 x (o.take 59) := hy4
  have hyb : Bytes (o.take 59) := bytes_take yo 59
  have hyl : (o.take 59).length ≤ 59 := by simp; omega
  generalize o.take 59 = vb at hy4 hyb hyl
  clear px hle
  obtain ⟨vy, rfl⟩ : ∃ y, y = x := ⟨x, rfl⟩
  repeat' (first|(refine ycf ?_;apply ybk;(·first|exact tk_);(·rfl);(·rfl))|refine t1_ ?_|(refine ta_ ?_;intro _)|((fail_if_success (refine ybi rfl ?_));refine ybj rfl ?_ ?_<;>(intro ht;rw [ht];first|replace ht := oet_ ht|replace ht := oef_ ht|skip))|(refine ych ?_;first|(refine ybw rfl ?_ ?_<;>intro ht)|(refine ybx rfl ?_ ?_<;>intro ht)))
  refine rx_mark 0 rfl rfl rfl (by unfold maxLen; omega) rfl rfl rfl ybf ybf ?_
  refine rx_persist_s rfl fun h5 hle5 hn5 => ?_
  have hn5 : Bs8 h5 (.slice (some ⟨_, 0, none⟩) ([107] : List Int).length 1) [107] := hn5
  have hq5 := ((hp2.mono hle3).mono hle4).mono hle5
  have hx5 := (hx3.mono hle4).mono hle5
  have hy5 := hy4.mono hle5
  have hv5 := (((hv1.mono hle2).mono hle3).mono hle4).mono hle5
  have hg5 := ((((hg.mono hle1).mono hle2).mono hle3).mono hle4).mono hle5
  repeat' (first|(refine ycf ?_;apply ybk;(·first|(first|exact tk_|(apply yad;(·rfl);(·exact yaz 0 rfl);(·rfl))));(·rfl);(·rfl))|refine t1_ ?_|(refine ta_ ?_;intro _)|((fail_if_success (refine ybi rfl ?_));refine ybj rfl ?_ ?_<;>(intro ht;rw [ht];first|replace ht := oet_ ht|replace ht := oef_ ht|skip))|(refine ych ?_;first|(refine ybw rfl ?_ ?_<;>intro ht)|(refine ybx rfl ?_ ?_<;>intro ht)))
  refine rx_call_l (ycp Tryd.func6 rfl (by kernel_rfl) rfl) (pick3 2 2 2 rfl rfl rfl) (ESealX_sp idl bv (key1 9) bn bu bt [] [] [] [107] va _ _ _ ⟨1, 1, 1, 1, past⟩ false hk rfl names_nil (by simp) (by simp) held_nil hb107 (by simp) (hokk (by omega) hpl) (by simp) hxb (by omega) h5 hv5 hn5 hx5 hq5 hpb hg5) rfl rfl rfl ybf (fun _ _ _ => ybf) ?_
  rintro ⟨h6, pv1, sv1, tv1⟩ htv1 hle6
  dsimp only at htv1 hle6 ⊢
  have hl1 : (sealX idl (key1 9) [] 1 1 1 (boundF (nameX idl (key1 9) [] [107]) ⟨1, 1, 1, 1, past⟩) (padW (inF false va))).length = 80 := by rw [sealX_len, pad64 (by simp [inF]; omega)]
  have hek1 : (nameX idl (key1 9) [] [107]).length = 32 := nameX_len _ _ _ _
  have hT1 := heldX (idl := idl) (U := []) held_nil (1, 1, 1, bstr (boundF (nameX idl (key1 9) [] [107]) ⟨1, 1, 1, 1, past⟩), bstr (sealX idl (key1 9) [] 1 1 1 (boundF (nameX idl (key1 9) [] [107]) ⟨1, 1, 1, 1, past⟩) (padW (inF false va)))) tv1 (padW (inF false va))
  generalize tabX idl [] _ = T1 at hT1 ⊢
  generalize sealX idl (key1 9) [] 1 1 1 (boundF (nameX idl (key1 9) [] [107]) ⟨1, 1, 1, 1, past⟩) (padW (inF false va)) = se1 at hl1 ⊢
  generalize nameX idl (key1 9) [] [107] = ek1 at hek1 ⊢
  have hN1 : Names (addX idl [] [107]) := addX_names names_nil hb107
  have hNl1 := addX_len idl [] [107]
  generalize addX idl [] [107] = N1 at hN1 hNl1 ⊢
  refine rx_rowsl 0 rfl fun adq capq hpv => ?_
  subst hpv
  refine rx_rowsl 1 rfl fun ads1 caps1 hsv => ?_
  subst hsv
  refine rx_picks [2, 2, 2, 2] ?_
  have hv6 := hv5.mono hle6
  have hx6 := hx5.mono hle6
  have hy6 := hy5.mono hle6
  have hq6 := hq5.mono hle6
  have hg6 := hg5.mono hle6
  clear htv1 hv5 hx5 hy5 hq5 hg5 hn5 hv1 hp2 hd1 hx3 hy4
  have hf0 : ∀ {q : Hdr} {pv : Value}, (envc ek1 q pv (.slice ads1 se1.length caps1)).toArray.size = 38 := fun {q pv} => by simpa using envc_len hek1
  repeat' (first|(refine ycf ?_;apply ybk;(·first|exact tk_);(·rfl);(·rfl))|(refine ybg 0 rfl rfl rfl hf0 (by show 0 + (envc ek1 _ _ _).toArray.size ≤ _;rw [hf0];exact Nat.le_of_ble_eq_true rfl) (List.all_eq_true.2 (envc_one rfl rfl)) (ybh (by show (envc ek1 _ _ _).length = _;rw [envc_len hek1];rfl)) rfl rfl ?_ ?_ ?_;(·(exact to_));(·(exact to_)))|refine t1_ ?_|(refine ta_ ?_;intro _)|((fail_if_success (refine ybi rfl ?_));refine ybj rfl ?_ ?_<;>(intro ht;rw [ht];first|replace ht := oet_ ht|replace ht := oef_ ht|skip))|(refine ych ?_;first|(refine ybw rfl ?_ ?_<;>intro ht)|(refine ybx rfl ?_ ?_<;>intro ht)))
  rename_i bp1 _
  refine rx_mark 0 rfl rfl rfl (by unfold maxLen; omega) rfl rfl rfl ybf ybf ?_
  refine rx_persist_s rfl fun h7 hle7 hn7 => ?_
  have hn7 : Bs8 h7 (.slice (some ⟨_, 0, none⟩) otherB.length 5) otherB := hn7
  refine rx_perm (L' := [Res.blk bp1 (.cells (envc ek1 ⟨1, 1, 1, 1, past⟩ (.slice adq past.length capq) (.slice ads1 se1.length caps1)).toArray 32 (0, 0)), nmR bn N1, usR bu [(1, 1)], tbR bt T1, Res.blk bh (.cells (hdc ⟨1, 2, 1, 1, past⟩ (.slice adp past.length capp)).toArray 30 (0, 0))]) (.refl _) ?_
  have hv7 := hv6.mono hle7
  have hx7 := hx6.mono hle7
  have hy7 := hy6.mono hle7
  have hq7 := hq6.mono hle7
  have hg7 := hg6.mono hle7
  repeat' (first|(refine ycf ?_;apply ybk;(·first|(first|exact tk_|(apply yad (vs := hdc ⟨1, 2, 1, 1, past⟩ (.slice adp past.length capp));(·rfl);(·exact yaz 4 rfl);(·rfl))));(·rfl);(·rfl))|refine t1_ ?_|(refine ta_ ?_;intro _)|((fail_if_success (refine ybi rfl ?_));refine ybj rfl ?_ ?_<;>(intro ht;rw [ht];first|replace ht := oet_ ht|replace ht := oef_ ht|skip))|(refine ych ?_;first|(refine ybw rfl ?_ ?_<;>intro ht)|(refine ybx rfl ?_ ?_<;>intro ht)))
  refine rx_call_l (ycp Tryd.func6 rfl (by kernel_rfl) rfl) (pick3 1 1 1 rfl rfl rfl) (ESealX_sp idl bv (key1 9) bn bu bt N1 [(1, 1)] T1 otherB vb _ _ _ ⟨1, 2, 1, 1, past⟩ false hk rfl hN1 (by simp at hNl1; omega) (by simp) hT1 otherB_by (by decide) (hokk (by omega) hpl) (by simp) hyb (by omega) h7 hv7 hn7 hy7 hq7 hpb hg7) rfl rfl rfl ybf (fun _ _ _ => ybf) ?_
  rintro ⟨h8, pv2, sv2, tv2⟩ htv2 hle8
  dsimp only at htv2 hle8 ⊢
  have hl2 : (sealX idl (key1 9) [(1, 1)] 1 1 2 (boundF (nameX idl (key1 9) N1 otherB) ⟨1, 2, 1, 1, past⟩) (padW (inF false vb))).length = 80 := by rw [sealX_len, pad64 (by simp [inF]; omega)]
  have hek2 : (nameX idl (key1 9) N1 otherB).length = 32 := nameX_len _ _ _ _
  have hT2 := heldX (idl := idl) hT1 (1, 2, 1, bstr (boundF (nameX idl (key1 9) N1 otherB) ⟨1, 2, 1, 1, past⟩), bstr (sealX idl (key1 9) [(1, 1)] 1 1 2 (boundF (nameX idl (key1 9) N1 otherB) ⟨1, 2, 1, 1, past⟩) (padW (inF false vb)))) tv2 (padW (inF false vb))
  generalize tabX idl T1 _ = T2 at hT2 ⊢
  generalize sealX idl (key1 9) [(1, 1)] 1 1 2 (boundF (nameX idl (key1 9) N1 otherB) ⟨1, 2, 1, 1, past⟩) (padW (inF false vb)) = se2 at hl2 ⊢
  generalize nameX idl (key1 9) N1 otherB = ek2 at hek2 ⊢
  have hN2 : Names (addX idl N1 otherB) := addX_names hN1 otherB_by
  have hNl2 := addX_len idl N1 otherB
  generalize addX idl N1 otherB = N2 at hN2 hNl2 ⊢
  refine rx_rowsl 0 rfl fun adq2 capq2 hpv => ?_
  subst hpv
  refine rx_rowsl 1 rfl fun ads2 caps2 hsv => ?_
  subst hsv
  refine rx_picks [5, 2, 2, 2, 2] ?_
  have hv8 := hv7.mono hle8
  have hq8 := hq7.mono hle8
  have hg8 := hg7.mono hle8
  clear htv2 hv7 hx7 hy7 hq7 hg7 hn7 hv6 hx6 hy6 hq6 hg6
  have hf2 : ∀ {q : Hdr} {pv : Value}, (envc ek2 q pv (.slice ads2 se2.length caps2)).toArray.size = 38 := fun {q pv} => by simpa using envc_len hek2
  repeat' (first|(refine ycf ?_;apply ybk;(·first|exact tk_);(·rfl);(·rfl))|(refine ybg 0 rfl rfl rfl hf2 (by show 0 + (envc ek2 _ _ _).toArray.size ≤ _;rw [hf2];exact Nat.le_of_ble_eq_true rfl) (List.all_eq_true.2 (envc_one rfl rfl)) (ybh (by show (envc ek2 _ _ _).length = _;rw [envc_len hek2];rfl)) rfl rfl ?_ ?_ ?_;(·(exact to_));(·(exact to_)))|refine t1_ ?_|(refine ta_ ?_;intro _)|((fail_if_success (refine ybi rfl ?_));refine ybj rfl ?_ ?_<;>(intro ht;rw [ht];first|replace ht := oet_ ht|replace ht := oef_ ht|skip))|(refine ych ?_;first|(refine ybw rfl ?_ ?_<;>intro ht)|(refine ybx rfl ?_ ?_<;>intro ht)))
  rename_i bp2 _
  refine rx_mark 0 rfl rfl rfl (by unfold maxLen; omega) rfl rfl rfl ybf ybf ?_
  refine rx_persist_s rfl fun h9 hle9 hn9 => ?_
  have hn9 : Bs8 h9 (.slice (some ⟨_, 0, none⟩) ([107] : List Int).length 1) [107] := hn9
  refine rx_perm (L' := [Res.blk bp2 (.cells (envc ek2 ⟨1, 2, 1, 1, past⟩ (.slice adq2 past.length capq2) (.slice ads2 se2.length caps2)).toArray 32 (0, 0)), Res.blk bp1 (.cells (envc ek1 ⟨1, 1, 1, 1, past⟩ (.slice adq past.length capq) (.slice ads1 se1.length caps1)).toArray 32 (0, 0)), nmR bn N2, usR bu [(1, 1), (1, 2)], tbR bt T2, Res.blk bh (.cells (hdc ⟨1, 3, 1, 1, past⟩ (.slice adp past.length capp)).toArray 30 (0, 0))]) (.refl _) ?_
  have hv9 := hv8.mono hle9
  have hq9 := hq8.mono hle9
  have hg9 := hg8.mono hle9
  repeat' (first|(refine ycf ?_;apply ybk;(·first|(first|exact tk_|(apply yad (vs := hdc ⟨1, 3, 1, 1, past⟩ (.slice adp past.length capp));(·rfl);(·exact yaz 5 rfl);(·rfl))));(·rfl);(·rfl))|refine t1_ ?_|(refine ta_ ?_;intro _)|((fail_if_success (refine ybi rfl ?_));refine ybj rfl ?_ ?_<;>(intro ht;rw [ht];first|replace ht := oet_ ht|replace ht := oef_ ht|skip))|(refine ych ?_;first|(refine ybw rfl ?_ ?_<;>intro ht)|(refine ybx rfl ?_ ?_<;>intro ht)))
  refine rx_call_l (ycp Tryd.func6 rfl (by kernel_rfl) rfl) (pick3 2 2 2 rfl rfl rfl) (ESealX_sp idl bv (key1 9) bn bu bt N2 [(1, 1), (1, 2)] T2 [107] [] _ _ _ ⟨1, 3, 1, 1, past⟩ true hk rfl hN2 (by simp at hNl1 hNl2; omega) (by simp) hT2 hb107 (by decide) (hokk (by omega) hpl) (by simp) bytes_nil (fun e => by cases e) h9 hv9 hn9 (Sc.nil _ _ _ _) hq9 hpb hg9) rfl rfl rfl ybf (fun _ _ _ => ybf) ?_
  rintro ⟨h10, pv3, sv3, tv3⟩ htv3 hle10
  dsimp only at htv3 hle10 ⊢
  have hl3 : (sealX idl (key1 9) [(1, 1), (1, 2)] 1 1 3 (boundF (nameX idl (key1 9) N2 [107]) ⟨1, 3, 1, 1, past⟩) (padW (inF true []))).length = 80 := by rw [sealX_len, pad64 (by simp [inF])]
  have hek3 : (nameX idl (key1 9) N2 [107]).length = 32 := nameX_len _ _ _ _
  generalize tabX idl T2 _ = T3
  generalize sealX idl (key1 9) [(1, 1), (1, 2)] 1 1 3 (boundF (nameX idl (key1 9) N2 [107]) ⟨1, 3, 1, 1, past⟩) (padW (inF true [])) = se3 at hl3 ⊢
  generalize nameX idl (key1 9) N2 [107] = ek3 at hek3 ⊢
  generalize addX idl N2 [107] = N3
  refine rx_rowsl 0 rfl fun adq3 capq3 hpv => ?_
  subst hpv
  refine rx_rowsl 1 rfl fun ads3 caps3 hsv => ?_
  subst hsv
  refine rx_picks [5, 5] ?_
  have hf3 : ∀ {q : Hdr} {pv : Value}, (envc ek3 q pv (.slice ads3 se3.length caps3)).toArray.size = 38 := fun {q pv} => by simpa using envc_len hek3
  repeat' (first|(refine ycf ?_;apply ybk;(·first|exact tk_);(·rfl);(·rfl))|(refine ybg 0 rfl rfl rfl hf3 (by show 0 + (envc ek3 _ _ _).toArray.size ≤ _;rw [hf3];exact Nat.le_of_ble_eq_true rfl) (List.all_eq_true.2 (envc_one rfl rfl)) (ybh (by show (envc ek3 _ _ _).length = _;rw [envc_len hek3];rfl)) rfl rfl ?_ ?_ ?_;(·(exact to_));(·(exact to_)))|refine t1_ ?_|(refine ta_ ?_;intro _)|((fail_if_success (refine ybi rfl ?_));refine ybj rfl ?_ ?_<;>(intro ht;rw [ht];first|replace ht := oet_ ht|replace ht := oef_ ht|skip))|(refine ych ?_;first|(refine ybw rfl ?_ ?_<;>intro ht)|(refine ybx rfl ?_ ?_<;>intro ht)))
  (refine yco (ycp Tryd.func7 rfl (by kernel_rfl) rfl) (hS h10) rfl rfl rfl ?_ ?_ ?_; (· (exact to_)); (· intro _ _ hle; (exact to_)); intro x px hle)
  have e1 : ((se1.length : Nat) : Int) = 80 := by omega
  have e2 : ((se2.length : Nat) : Int) = 80 := by omega
  have e3 : ((se3.length : Nat) : Int) = 80 := by omega
  repeat' (first|(refine ycf ?_;apply ybk;(·first|exact tk_|(apply yae;(·rfl);(·(first|exact env_seal hek3 (yaz 0 rfl)|exact env_seal hek2 (yaz 1 rfl)|exact env_seal hek1 (yaz 2 rfl)))));(·rfl);(·rfl))|refine t1_ ?_|(refine ta_ ?_;intro _)|((fail_if_success (refine ybi rfl ?_));refine ybj rfl ?_ ?_<;>(intro ht;rw [ht];first|replace ht := oet_ ht|replace ht := oef_ ht|skip))|(refine ych ?_;first|(refine ybw rfl ?_ ?_<;>intro ht)|(refine ybx rfl ?_ ?_<;>intro ht)))
  exact nx_ret1 rfl (rv_tmp rfl) (fun w' s' => ⟨x, rfl, s'.nil⟩)
end Go.Proofs.YtgeepceieckooaaDoor
end

section
namespace Go.Ck
open Go Go.ChangeShapes
set_option linter.unusedVariables false
section
variable {H : Type} {enc : TypeId × Value → H} {P : Program} {w : World} {base : Nat} {spare : Nat → Bool} {held : Bool}
theorem trod_fields {t : TypeId} {fs : Array Field} {fuel : Nat} {cs : List Value} {x : DataW H × List MemPlace} (ht : P.underlying t = some (.struct fs)) (h : DataW.trod enc P w base spare held fuel t cs = some x) :
    cs.length = P.cellsOf t ∧ ∀ f ∈ fs.toList, ∃ m y, DataW.trod enc P w base spare held m f.type ((cs.drop f.offset).take (P.cellsOf f.type)) = some y := by
  cases fuel with
  | zero => simp [DataW.trod] at h
  | succ n =>
    unfold DataW.trod at h
    simp only [ht] at h
    split at h
    · rename_i hl
      obtain ⟨xs, hxs, _⟩ := Option.map_eq_some_iff.1 h
      refine ⟨hl, fun f hf => ?_⟩
      obtain ⟨i, hi, rfl⟩ := List.getElem_of_mem hf
      have := mapM_some_get hxs i _ (List.getElem?_eq_getElem hi)
      have hlen := mapM_some_length hxs
      rw [List.getElem?_eq_getElem (by omega)] at this
      exact ⟨n, _, this⟩
    · cases h
end
end Go.Ck
end

section
namespace Go.Ck
open Go Go.ChangeShapes
set_option linter.unusedVariables false
set_option maxHeartbeats 1000000
section
variable {H : Type} {enc : TypeId × Value → H} {P : Program} {w : World} {base : Nat} {spare : Nat → Bool} {held : Bool}
theorem cells_get' {a : Addr} {n : Nat} {cs : List Value} (h : w.cells? base a n = some cs) {j : Nat} {u : Value} (hj : cs[j]? = some u) : w.cell? (a.add j) = some u := by
  unfold World.cells? at h
  split at h
  · have hl := mapM_some_length h
    have hjl : j < cs.length := (List.getElem?_eq_some_iff.1 hj).1
    have := mapM_some_get h j j (by rw [List.length_range] at hl; exact List.getElem?_range (by omega))
    rw [this, hj]
  · cases h
theorem trod_slice_of {T e k : Nat} {α : Type} {en : α → List Value} {R : α → Prop} (tu : P.underlying T = some (.slice e)) (hc : P.cellsOf e = k) (hk0 : 0 < k) (hlen : ∀ x, (en x).length = k)
    (hel : ∀ (m : Nat) (cs : List Value) (y : DataW H × List MemPlace), DataW.trod enc P w base spare held m e cs = some y → ∃ x : α, R x ∧ cs = en x)
    {m : Nat} {cs : List Value} {y : DataW H × List MemPlace} (h : DataW.trod enc P w base spare held m T cs = some y) :
    ∃ (v : Value) (l : List α), cs = [v] ∧ Sc (fun b => w.heap[b]?) k v l.length (l.flatMap en) ∧ l.length ≤ maxLen ∧ ∀ x ∈ l, R x := by
  subst hc
  rcases Go.Deep.open_slice tu h with ⟨rfl, _⟩ | ⟨a, len, cap, q, n, D, Pl, rfl, _, h1, h2, hk, _, hall⟩
  · exact ⟨_, [], rfl, Sc.nil _ _ none 0, Nat.zero_le _, fun x hx => by cases hx⟩
  · have hkl : len ≤ q := by rw [hk]; split <;> omega
    have hex : ∀ i, i < len → ∃ d : α, R d ∧ w.cells? base (a.add (i * P.cellsOf e)) (P.cellsOf e) = some (en d) := fun i hi => by
      obtain ⟨cs', e1, e2⟩ := hall i (by omega)
      obtain ⟨d, hr, rfl⟩ := hel _ _ _ e2
      exact ⟨d, hr, e1⟩
    generalize P.cellsOf e = k at hex hk0 hlen ⊢
    by_cases h0 : len = 0
    · subst h0
      exact ⟨_, [], rfl, ⟨by simp, some a, cap, rfl, Nat.zero_le _, .inl rfl⟩, Nat.zero_le _, fun x hx => by cases hx⟩
    obtain ⟨d0, _⟩ := hex 0 (by omega)
    obtain ⟨f, hf'⟩ : ∃ f : Nat → α, ∀ i, i < len → R (f i) ∧ w.cells? base (a.add (i * k)) k = some (en (f i)) := by
      classical
      exact ⟨fun i => if hi : i < len then (hex i hi).choose else d0, fun i hi => by
        dsimp only
        rw [dif_pos hi]
        exact (hex i hi).choose_spec⟩
    have hf := fun i hi => (hf' i hi).2
    refine ⟨_, (List.range len).map f, rfl, ⟨?_, some a, cap, by simp, by simpa using h1, ?_⟩, by simp; omega, fun x hx => ?_⟩
    · rw [flat_len hlen]
    · refine .inr ?_
      have hc00 : 0 < (en (f 0)).length := by rw [hlen]; exact hk0
      have hc0 := cells_get' (hf 0 (by omega)) (j := 0) (List.getElem?_eq_getElem hc00)
      obtain ⟨b, o, sp⟩ := a
      have hadd : ∀ i j, ((⟨b, o, sp⟩ : Addr).add i).add j = (⟨b, o, sp⟩ : Addr).add (i + j) := fun i j => Go.Deep.add_add _ i j
      rw [hadd] at hc0
      have hblk : ((⟨b, o, sp⟩ : Addr).add (0 * k + 0)) = ⟨b, o, sp⟩ := by simp [Addr.add]
      rw [hblk] at hc0
      unfold World.cell? at hc0
      split at hc0
      · rename_i c e fz hb
        split at hc0
        · cases hc0
        · rename_i hsp
          have hsp' : sp = none := by simpa using hsp
          subst hsp'
          refine ⟨b, o, c, e, fz, rfl, hb, fun j u hj => ?_⟩
          have hjl : j < len * k := by
            have := (List.getElem?_eq_some_iff.1 hj).1
            rw [flat_len hlen] at this
            simpa using this
          have hjk : j / k < len := Nat.div_lt_of_lt_mul (by rw [Nat.mul_comm]; exact hjl)
          have hd : j / k < ((List.range len).map f).length := by simpa using hjk
          have e1 : (((List.range len).map f).flatMap en)[j]? = (en (f (j / k)))[j % k]? := by
            have := flat_at hlen ((List.range len).map f) (j / k) hd
            have e3 : ((List.range len).map f)[j / k] = f (j / k) := by simp
            rw [e3] at this
            rw [← this, List.getElem?_take_of_lt (Nat.mod_lt _ hk0), List.getElem?_drop]
            congr 1
            rw [Nat.mul_comm]
            exact (Nat.div_add_mod j k).symm
          rw [e1] at hj
          have := cells_get' (hf (j / k) hjk) hj
          rw [hadd, Addr.add_off] at this
          unfold World.cell? at this
          simp only [hb] at this
          simp only [Option.isSome_none, Bool.false_eq_true, if_false] at this
          have ej : j / k * k + j % k = j := by rw [Nat.mul_comm]; exact Nat.div_add_mod j k
          rw [ej] at this
          exact this
      · cases hc0
    · obtain ⟨i, hi, rfl⟩ := List.mem_map.1 hx
      exact (hf' i (by simpa using hi)).1
end
end Go.Ck
end

section
namespace Go.Proofs.YtgeepceieckooaaDoor
open Go Go.Ck Go.ChangeShapes
set_option maxRecDepth 100000
set_option maxHeartbeats 1000000
set_option linter.unusedVariables false
theorem cellsByte : Tryd.prog.cellsOf 5 = 1 := by kernel_rfl
theorem bcs_flat (l : List Int) : l.flatMap (fun n => [Value.int .u8 n]) = bcs l := by
  induction l with
  | nil => rfl
  | cons x l ih => rw [List.flatMap_cons, ih]; rfl
theorem trod_bs {H : Type} {enc : TypeId × Value → H} {w : World} {base : Nat} {spare : Nat → Bool} {held : Bool} {m : Nat} {cs : List Value} {y : DataW H × List MemPlace} (h : DataW.trod enc Tryd.prog w base spare held m 22 cs = some y) :
    ∃ (v : Value) (l : List Int), cs = [v] ∧ Bs8 (fun b => w.heap[b]?) v l ∧ Bytes l ∧ l.length ≤ maxLen := by
  obtain ⟨v, l, h1, h2, h3, h4⟩ := trod_slice_of (en := fun n : Int => [Value.int .u8 n]) (R := fun n => 0 ≤ n ∧ n < 256) Tryd.underlying22 cellsByte (by decide) (fun _ => rfl) (fun m cs y hy => by
    obtain ⟨n, e1, _, e3⟩ := DataW.trod_int Tryd.underlying5 hy
    obtain ⟨q1, q2⟩ := (Lit.wf_int_iff .u8 n).1 e3
    have m1 : IntKind.u8.min = 0 := by decide
    have m2 : IntKind.u8.max = 255 := by decide
    exact ⟨n, ⟨by omega, by omega⟩, e1⟩) h
  rw [bcs_flat] at h2
  exact ⟨v, l, h1, h2, h4, h3⟩
end Go.Proofs.YtgeepceieckooaaDoor
end

section
namespace Go.Proofs.YtgeepceieckooaaDoor
open Go Go.Ck Go.ChangeShapes
set_option maxRecDepth 100000
set_option maxHeartbeats 1000000
set_option linter.unusedVariables false
theorem cellsAsk : Tryd.prog.cellsOf 42 = 8 := by kernel_rfl
theorem cellsBs : Tryd.prog.cellsOf 22 = 1 := by kernel_rfl
theorem cellsBool : Tryd.prog.cellsOf 4 = 1 := by kernel_rfl
theorem cellsInt1 : Tryd.prog.cellsOf 3 = 1 := by kernel_rfl
theorem cellsDot2 : Tryd.prog.cellsOf 28 = 2 := by kernel_rfl
section
variable {H : Type} {enc : TypeId × Value → H} {w : World} {base : Nat} {spare : Nat → Bool} {held : Bool}
theorem trod_ask {m : Nat} {cs : List Value} {y : DataW H × List MemPlace} (h : DataW.trod enc Tryd.prog w base spare held m 42 cs = some y) :
    ∃ (a : AskD) (vn vp vv : Value), cs = askc a vn vp vv ∧ a.by' ∧ Bs8 (fun b => w.heap[b]?) vn a.nm ∧ Bs8 (fun b => w.heap[b]?) vp a.past ∧ Bs8 (fun b => w.heap[b]?) vv a.val := by
  obtain ⟨hl, hf⟩ := trod_fields Tryd.underlying42 h
  rw [cellsAsk] at hl
  match cs, hl with
  | [c0, c1, c2, c3, c4, c5, c6, c7], _ =>
    obtain ⟨m1, y1, h1⟩ := hf _ (List.mem_cons_self ..)
    obtain ⟨m2, y2, h2⟩ := hf _ (List.mem_cons_of_mem _ (List.mem_cons_self ..))
    obtain ⟨m3, y3, h3⟩ := hf _ (List.mem_cons_of_mem _ (List.mem_cons_of_mem _ (List.mem_cons_self ..)))
    obtain ⟨m4, y4, h4⟩ := hf _ (List.mem_cons_of_mem _ (List.mem_cons_of_mem _ (List.mem_cons_of_mem _ (List.mem_cons_self ..))))
    obtain ⟨m5, y5, h5⟩ := hf _ (List.mem_cons_of_mem _ (List.mem_cons_of_mem _ (List.mem_cons_of_mem _ (List.mem_cons_of_mem _ (List.mem_cons_self ..)))))
    obtain ⟨m6, y6, h6⟩ := hf _ (List.mem_cons_of_mem _ (List.mem_cons_of_mem _ (List.mem_cons_of_mem _ (List.mem_cons_of_mem _ (List.mem_cons_of_mem _ (List.mem_cons_self ..))))))
    obtain ⟨m7, y7, h7⟩ := hf _ (List.mem_cons_of_mem _ (List.mem_cons_of_mem _ (List.mem_cons_of_mem _ (List.mem_cons_of_mem _ (List.mem_cons_of_mem _ (List.mem_cons_of_mem _ (List.mem_cons_self ..)))))))
    rw [cellsBs] at h1 h5 h6
    rw [cellsInt1] at h2 h3
    rw [cellsDot2] at h4
    rw [cellsBool] at h7
    obtain ⟨vn, ln, e1, s1, b1, l1⟩ := trod_bs h1
    obtain ⟨n2, e2, _⟩ := DataW.trod_int Tryd.underlying3 h2
    obtain ⟨n3, e3, _⟩ := DataW.trod_int Tryd.underlying3 h3
    obtain ⟨vp, lp, e5, s5, b5, l5⟩ := trod_bs h5
    obtain ⟨vv, lv, e6, s6, b6, l6⟩ := trod_bs h6
    obtain ⟨bd, e7, _⟩ := DataW.trod_bool Tryd.underlying4 h7
    obtain ⟨hl4, hf4⟩ := trod_fields Tryd.underlying28 h4
    obtain ⟨m8, y8, h8⟩ := hf4 _ (List.mem_cons_self ..)
    obtain ⟨m9, y9, h9⟩ := hf4 _ (List.mem_cons_of_mem _ (List.mem_cons_self ..))
    rw [cellsInt1] at h8 h9
    obtain ⟨n8, e8, _⟩ := DataW.trod_int Tryd.underlying3 h8
    obtain ⟨n9, e9, _⟩ := DataW.trod_int Tryd.underlying3 h9
    simp at e1 e2 e3 e5 e6 e7 e8 e9
    unfold maxLen at l1 l5 l6
    refine ⟨⟨ln, n2, n3, n8, n9, lp, lv, bd⟩, vn, vp, vv, ?_, ⟨b1, b5, b6, by omega, by omega, by omega⟩, s1, s5, s6⟩
    rw [e1, e2, e3, e5, e6, e7, e8, e9]
    rfl
end
end Go.Proofs.YtgeepceieckooaaDoor
end

section
namespace Go.Proofs.YtgeepceieckooaaDoor.envelopeSizes
open Go Go.Ck Go.ChangeShapes Go.WideShapes Go.ChangeAt Go.RowKit
set_option maxRecDepth 100000
set_option maxHeartbeats 1000000
set_option linter.unusedVariables false
theorem laidOut : laidOutB Tryd.prog = true := by kernel_rfl
theorem own : ownKnob Tryd.prog.godebug = none := by kernel_rfl
theorem laid_eq : Rows.envelopeSizesRow.laid = [("casket/sha2.keys", .agg ((shK.map fun a => (a.toNat : Int)).map fun x => .lit (.int .u32 x))), ("casket/sha2.start", .agg ((shH.map fun a => (a.toNat : Int)).map fun x => .lit (.int .u32 x)))] := by kernel_rfl
theorem upK : (shK.map fun a => (a.toNat : Int)).map (Value.int .u32) = up32 shK := by kernel_rfl
theorem upH : (shH.map fun a => (a.toNat : Int)).map (Value.int .u32) = up32 shH := by kernel_rfl
theorem of_laid {W : World} (h : laidMetH Tryd.prog Rows.envelopeSizesRow.laid W) : ShG (fun b => W.heap[b]?) := by
  rw [MakeChecks.laidMetH_plain _ _ _ (by kernel_rfl)] at h
  obtain ⟨ps, h, _⟩ := h
  rw [laid_eq] at h
  obtain ⟨h1, qs, h⟩ := laid_ints (g := 1) (t := 135) (e := 95) (by kernel_rfl) (by kernel_rfl) Tryd.underlying135 Tryd.underlying95 (by kernel_rfl) (by kernel_rfl) h
  obtain ⟨h2, _⟩ := laid_ints (g := 0) (t := 119) (e := 95) (by kernel_rfl) (by kernel_rfl) Tryd.underlying119 Tryd.underlying95 (by kernel_rfl) (by kernel_rfl) h
  rw [upK] at h1
  rw [upH] at h2
  exact ⟨h1, h2⟩
theorem door_met (os : Os) (args : Array Value) : laidMetH Tryd.prog Rows.envelopeSizesRow.laid ((World.doorLaid Tryd.prog 400 os).forCall (fun _ _ => 0) ⟨#[], args, []⟩).memory :=
  laidMetH_of_parts3 (fuel := 8) (laidMet_of_run' 8 (by kernel_rfl) (by kernel_rfl)) (by kernel_rfl) (by kernel_rfl)
theorem contract (H : Type) (enc : TypeId × Value → H) (W : World) (base : Nat) (args : Array Value) (ds gs : List (DataW H)) (before : List MemPlace)
    (hval : ∀ (j : Nat) t v, Tryd.f4.params[j]? = some t → args[j]? = some v → Value.okWide Tryd.prog W .any base t v)
    (hW : DataW.Whole enc Tryd.prog Tryd.f4.params.toList Rows.envelopeSizesSpec.vars false W args.toList ds gs before) (hL : laidMetH Tryd.prog Rows.envelopeSizesRow.laid W) :
    Calls Tryd.prog 4 args W fun e W' => ∃ v, e = .returned v ∧ Rows.envelopeSizesSpec.post enc Tryd.prog Tryd.f4 false true false false W args v W' := by
  have hW' := hW
  obtain ⟨p, q, hA0, hV, rfl, hfz, hnd⟩ := hW
  have hA : DataW.TrodAll enc Tryd.prog W 0 (fun _ => true) true Tryd.f4.params.toList args.toList ds p := hA0
  rw [Tryd.params4] at hA hval
  obtain ⟨v0, vs0, d0, ds0, p0, q0, hargs0, rfl, rfl, h0, r0⟩ := trodAll_cons hA
  obtain ⟨v1, vs1, d1, ds1, p1, q1, hargs1, rfl, rfl, h1, r1⟩ := trodAll_cons r0
  obtain ⟨v2, vs2, d2, ds2, p2, q2, hargs2, rfl, rfl, h2, r2⟩ := trodAll_cons r1
  obtain ⟨rfl, rfl, rfl⟩ := trodAll_nil r2
  obtain rfl : args = #[v0, v1, v2] := by cases args; simp_all
  obtain ⟨rfl, rfl⟩ := trodVars_none hV
  obtain ⟨n0, rfl, rfl, rfl⟩ := open_bool Tryd.underlying4 (hval 0 4 v0 rfl rfl) h0
  obtain ⟨cs1, rfl, _⟩ := okWide_struct Tryd.underlying42 (hval 1 42 v1 rfl rfl)
  obtain ⟨fu1, g1⟩ := id h1
  obtain ⟨a1, vn1, vp1, vv1, hc1, hy1, hn1, hp1, hv1⟩ := trod_ask g1
  obtain rfl : cs1 = (askc a1 vn1 vp1 vv1).toArray := by
    have e : (Value.agg cs1).cells.toList = cs1.toList := rfl
    rw [e] at hc1
    rw [← hc1]
  obtain ⟨a2, len2, cap2, rfl⟩ := okWide_slice Tryd.underlying22 (hval 2 22 v2 rfl rfl)
  obtain ⟨fu2, g2⟩ := id h2
  obtain ⟨sv2, l2, hsv2, hd2, hb2, hl2⟩ := trod_bs g2
  obtain rfl : Value.slice a2 len2 cap2 = sv2 := by
    have e : (Value.slice a2 len2 cap2).cells.toList = [Value.slice a2 len2 cap2] := rfl
    rw [e] at hsv2
    exact (List.cons.inj hsv2).1
  have hl2 : l2.length ≤ 9223372036854775807 := by unfold maxLen at hl2; omega
  have hst : St ⟨W, fun b => W.heap[b]?, []⟩ (fun b => W.heap[b]?) [] W := St.start (L := []) ⟨fun b o hb => hb, fun r hr => (by cases hr)⟩ (by simp [doms]) (fun b hb => (by simp [doms] at hb))
  refine (EnvelopeSizes_sp n0 a1 vn1 vp1 vv1 _ l2 _ hy1 hb2 hl2 hn1 hp1 hv1 hd2 (of_laid hL) W hst).mono fun e W' ⟨h', he, s'⟩ => ?_
  subst he
  have hb : Below W.heap.size W W' := ⟨s'.os, s'.tape, s'.output, s'.size, fun k hk => s'.keep k hk (by simp)⟩
  simp only [List.append_nil] at hW'
  have hlt1 : ∀ x ∈ p1, x.block < W.heap.size := fun x hx => by simpa using hW'.lt x (by simp [hx])
  have hlt2 : ∀ x ∈ p2, x.block < W.heap.size := fun x hx => by simpa using hW'.lt x (by simp [hx])
  exact ⟨_, rfl, _, _, _, [], p1 ++ p2, [], hW', trodAll_cons_mk (shut_bool Tryd.underlying4 _) trodAll_mk0,
    by
      have h := (trodAll_cons_mk (shut_bool Tryd.underlying4 n0) (trodAll_cons_mk (Below.trod laidOut (by kernel_rfl) (oet_ (by kernel_rfl)) h1 hb hlt1) (trodAll_cons_mk (Below.trod laidOut (by kernel_rfl) (oet_ (by kernel_rfl)) h2 hb hlt2) trodAll_mk0)))
      simp only [List.append_nil] at h
      exact h,
    rfl, hb.frame _, fun h => by cases h⟩
set_option maxRecDepth 100000 in
theorem lifted (os : Os) (started : os.Started) (H : Type) (enc : TypeId × Value → H) :
    ReturnsInHanded {} Tryd.checked os 4 .any (fun w args => (Rows.envelopeSizesSpec.pre enc Tryd.prog Tryd.f4 Rows.envelopeSizesRow.domain false w args ∧ laidMetH Tryd.prog Rows.envelopeSizesRow.laid w) ∧ sizedMet enc Tryd.prog Tryd.f4 (OpenSpec.ofChange Rows.envelopeSizesSpec) false w args) (Rows.envelopeSizesSpec.post enc Tryd.prog Tryd.f4 false true false false) := by
  refine returnsInHanded_of_change_and (C := Tryd.checked) (X := fun w _ => laidMetH Tryd.prog Rows.envelopeSizesRow.laid w) (fun _ _ _ hh h => h.of_heap hh) own started (by kernel_rfl) Tryd.func4
    (ChangeSpec.witness_shaped (enc := enc) (C := Tryd.checked) (os := os) (X := fun w _ => laidMetH Tryd.prog Rows.envelopeSizesRow.laid w) false (World.doorLaid Tryd.prog 400 os) #[.bool false, .agg #[.slice none 0 0, .int .i64 0, .int .i64 0, .int .i64 0, .int .i64 0, .slice none 0 0, .slice none 0 0, .bool false], .slice none 0 0] 8 rfl (World.shaped_of_RefB (by kernel_rfl) (by kernel_rfl)) (by kernel_rfl) (by kernel_rfl) (by kernel_rfl) (door_met os _)) ?_
  intro W base args ds gs before hval hW _ _ hL _
  exact contract H enc W base args ds gs before hval hW hL
theorem over : Rows.EnvelopeSizesSaid :=
  OpenClaim.holds_of_wide 4 Tryd.f4 rfl rfl rfl rfl rfl rfl rfl ⟨rfl, rfl, rfl, rfl, rfl⟩ rfl rfl rfl rfl rfl (by kernel_rfl) Tryd.func4 (by kernel_rfl)
    (oet_ (by kernel_rfl)) (by unfold Func.isWrapper;first|(rw [if_pos (by decide +kernel)];kernel_rfl)|(rw [if_neg (by decide +kernel)];exact ⟨rfl, rfl⟩))
    (fun os started H enc _ => lifted os started H enc)
theorem proved : Rows.EnvelopeSizesCardSaid :=
  Claim7.holds_tied_plain_at .later [] Rows.envelopeSizesCard.laidKinds true Rows.envelopeSizesCard.stood.harness false
    over (fun _ h => by cases h) (by kernel_rfl) (fun _ h => by cases h) envelopeSizes_row_tie rfl ⟨rfl, rfl⟩ (by kernel_rfl) rfl
    (fun f fn hf hfn => by
      obtain rfl : f = 4 := Option.some.inj ((show Tryd.prog.funcNamed "casket/casketlaw13.EnvelopeSizes" = some 4 by kernel_rfl).symm.trans hf) |>.symm
      obtain rfl : fn = Tryd.f4 := (Option.some.inj (Tryd.func4.symm.trans hfn)).symm
      exact ⟨by kernel_rfl, fun j t ht => by
        rw [Tryd.params4] at ht
        have hm : t ∈ [4, 42, 22] := by simpa using Array.mem_of_getElem? ht
        have hall : ([4, 42, 22].all fun u => !Tryd.prog.wantsStandIn u) = true := by kernel_rfl
        exact (show Tryd.prog.wantsStandIn t = false by simpa using List.all_eq_true.1 hall t hm)⟩)
    (by kernel_rfl)
end Go.Proofs.YtgeepceieckooaaDoor.envelopeSizes
end
