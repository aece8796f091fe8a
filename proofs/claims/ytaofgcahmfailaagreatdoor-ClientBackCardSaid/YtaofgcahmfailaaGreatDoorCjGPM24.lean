/-
  Part 24 of a proof: CjG CkTrod CkTrodS DotO BitN SbV.
  Conditions: each theorem states its own.
-/
import Derived.Deep.Slices
import Derived.Carry
import Derived.DataReads
import Derived.DataShut
import Derived.Test.YtaofgcahmfailaaGreatDoorCjGPM23
set_option maxRecDepth 100000
set_option linter.unusedVariables false
section
namespace Go.Proofs.YtaofgcahmfailaaGreatDoor
open Go Go.Ck
set_option maxHeartbeats 4000000
instance ckuWl : TyU Tryz.prog 52 (.pointer 58) := ⟨Tryz.underlying52⟩
theorem acc_one {h : View} {x : ActD} (a : Av h x) : (Value.agg (acc x).toArray).cells.toList.all Value.oneCell' = true := by
  show (acc x).all Value.oneCell' = true
  obtain ⟨_, _, _, e1, _⟩ := a.vs
  obtain ⟨_, _, _, e2, _⟩ := a.ds
  obtain ⟨_, _, _, e3, _⟩ := a.is
  obtain ⟨_, _, _, e4, _⟩ := a.rs.1
  have h1 : x.vv.oneCell' = true := by rw [e1]; rfl
  have h2 : x.mv.oneCell' = true := by rw [e2]; rfl
  have h3 : x.wv.oneCell' = true := by rw [e3]; rfl
  have h4 : x.rv.oneCell' = true := by rw [e4]; rfl
  have h5 : (cxc x.u x.mv).all Value.oneCell' = true := cxc_one h2
  simp only [acc, List.all_append, h1, h3, h4, h5, List.all_cons, List.all_nil, Bool.and_true]
  rfl
theorem ac_past {h : View} {L : List Res} {b : Nat} {x : ActD} (c : Cells h L ⟨b, 0, none⟩ (acc x)) : Cells h L ⟨b, 0 + 5, none⟩ (cxc x.u x.mv) := by
  have h1 := (c.drop 5).take 17
  have hc := ycj (mv := x.mv) x.hu
  have h2 : ((acc x).drop 5).take 17 = cxc x.u x.mv := by
    show (cxc x.u x.mv ++ [x.wv, .int .i64 x.by', x.rv]).take 17 = _
    rw [List.take_left' hc]
  rw [h2] at h1
  exact h1
theorem ac_more {h : View} {L : List Res} {b : Nat} {x : ActD} {v : Value} (c : Cells h L ⟨b, 0, none⟩ (acc x)) (e : x.mv = v) : CellAt h L b (0 + 5 + 16) v := by
  subst e
  refine c.cell (j := 21) ?_
  have hu := up_len x.u
  show (cxc x.u x.mv ++ [x.wv, .int .i64 x.by', x.rv])[16]? = _
  rw [cxc, List.append_assoc, List.getElem?_append_right (by rw [hu, x.hu]; exact Nat.le_refl _), hu, x.hu]
  rfl
theorem tm3 {A B C r : Res} {L : List Res} (h : r ∈ [A, B, C]) : r ∈ A :: B :: C :: L := by
  simp only [List.mem_cons, List.not_mem_nil, or_false] at h ⊢
  rcases h with h | h | h
  · exact .inl h
  · exact .inr (.inl h)
  · exact .inr (.inr (.inl h))
theorem spl_vl (v : Vl) (x : Value) (b : List Int) (hx : x.cells.toList = [x]) : spl (vlc v).toArray.toList (0 + 21) x.cells.toList = vlc ⟨v.d, v.ep, v.u, v.hu, v.l, v.mv, v.gone, b, x⟩ := by
  rw [hx]
  obtain ⟨a0, a1, a2, a3, a4, a5, a6, a7, a8, a9, a10, a11, a12, a13, a14, a15, hu⟩ := list16 v.u v.hu
  show spl (dcs v.d ++ (.int .i64 v.ep :: (cxc v.u v.mv ++ [.bool v.gone, v.bv]))) 21 [x] = dcs v.d ++ (.int .i64 v.ep :: (cxc v.u v.mv ++ [.bool v.gone, x]))
  rw [hu]
  rfl
theorem ClientBack_sp (idl : Bool) (ac : ActD) (rot : Int) (h : View) (hx : Av h ac) (hlv : ac.val.length ≤ 9223372036854775807) (hll : ac.l.length ≤ 9223372036854775807) (hg : ShG h) (w : World) (s : St ⟨w, h, []⟩ h [] w) :
    Calls Tryz.prog 4 [.bool idl, .agg (acc ac).toArray, .int .i64 rot].toArray w fun e w' => ∃ h', e = .returned (.bool true) ∧ St ⟨w, h, []⟩ h' [] w' := by
  have hk : Bytes (key1 5) := key1_by (by omega)
  have hal := acc_len ac
  have hone := acc_one hx
  have hu64 := u64_bd rot
  refine calls_enter Tryz.func4 rfl Tryz.ntmps4 rfl s ?_
  repeat' (first|(refine ybg 0 rfl rfl rfl (by show (acc ac).toArray.size = 25;rw [List.size_toArray, hal]) (by show 0 + (acc ac).toArray.size ≤ 25;rw [List.size_toArray, hal];omega) hone (ybh (by show (acc ac).length = 25;rw [hal])) rfl rfl ?_ ?_ ?_;(·(exact to_));(·(exact to_)))|refine t1_ ?_|(refine ta_ ?_;intro _)|((fail_if_success (refine ybi rfl ?_));refine ybj rfl ?_ ?_<;>(intro ht;rw [ht];first|replace ht := oet_ ht|replace ht := oef_ ht|skip))|(refine ych ?_;first|(refine ybw rfl ?_ ?_<;>intro ht)|(refine ybx rfl ?_ ?_<;>intro ht)))
  rename_i b4
  (refine yco (ycp Tryz.func12 rfl (by kernel_rfl) rfl) (begin7_sp idl h) rfl rfl rfl ?_ ?_ ?_; (· (exact to_)); (· intro _ _ hle; (exact to_)); intro x px hle)
  obtain ⟨h1, ⟨bv, bn, bu, bt⟩, ⟨c1, m1, c2, m2⟩, bW, d1, d2⟩ := x
  dsimp only at px hle ⊢
  have hv1 : Vb h1 bv idl (key1 5) bn bu bt := px
  have hle1 : Le h h1 := hle
  clear px hle
  repeat' (first|refine tw_ ?_|(refine ta_ ?_;intro _)|((fail_if_success (refine ybi rfl ?_));refine ybj rfl ?_ ?_<;>(intro ht;rw [ht];first|replace ht := oet_ ht|replace ht := oef_ ht|skip))|(refine ych ?_;first|(refine ybw rfl ?_ ?_<;>intro ht)|(refine ybx rfl ?_ ?_<;>intro ht)))
  (refine yco (ycp Tryz.func8 rfl (by kernel_rfl) rfl) (clients_sp h1) rfl rfl rfl ?_ ?_ ?_; (· (exact to_)); (· intro _ _ hle; (exact to_)); intro x px hle)
  obtain ⟨h2, rfl⟩ : ∃ y, y = x := ⟨x, rfl⟩
  have hle2 : Le h1 h2 := hle
  clear px hle
  obtain ⟨n, hn, hn4⟩ : ∃ n : Nat, (IntKind.u64.wrap rot).tmod 4 = (n : Int) ∧ n < 4 := ⟨((IntKind.u64.wrap rot) % 4).toNat, by rw [Int.tmod_eq_emod_of_nonneg hu64.1]; omega, by omega⟩
  have wn : IntKind.i64.wrap (n : Int) = (n : Int) := by rw [IntKind.wrap_i64]; omega
  repeat' (first|(refine ycf ?_;apply ybk;(·first|(first|(refine qv_convert_int' rfl wn)|exact tk_|(apply qv_eql_pnil<;>rfl)|(refine qv_convert_int' rfl rfl)|(refine qv_remr rfl rfl (by decide) hn)));(·rfl);(·rfl))|refine t1_ ?_|(refine ta_ ?_;intro _)|((fail_if_success (refine ybi rfl ?_));refine ybj rfl ?_ ?_<;>(intro ht;rw [ht];first|replace ht := oet_ ht|replace ht := oef_ ht|skip))|(refine ych ?_;first|(refine ybw rfl ?_ ?_<;>intro ht)|(refine ybx rfl ?_ ?_<;>intro ht)))
  refine cx_loop (X := Nat) (fun y => [(4, .pointer (some ⟨b4, 0, none⟩)), (7, .pointer (some ⟨bW, 0, none⟩)), (8, .int .i64 (n : Nat)), (9, .int .i64 (y : Nat))]) (fun _ => h2) (fun y => [wlR bW bv c1 c2 d1 d2 (.slice none 0 0), clR c1 1 bv (1 + (y : Int)) 0 m1, cmR m1 [], clR c2 3 bv 1 0 m2, cmR m2 [], nmR bn [], usR bu [], tbR bt [], Res.blk b4 (.cells (acc ac).toArray 41 (0, 0))]) (fun y => y ≤ n) (fun y => n - y) 0 (Nat.zero_le _) ts_ (fun _ s => s) ?_
  intro i hi
  replace hi : i ≤ n := hi
  by_cases hin : i < n
  · repeat' (first|(refine ycf ?_;apply ybk;(·first|(first|exact tk_|(apply qv_nilCheck;rfl)));(·rfl);(·rfl))|refine t1_ ?_|(refine ta_ ?_;intro _)|((fail_if_success (refine ybi rfl ?_));refine ybj rfl ?_ ?_<;>(intro ht;rw [ht];first|replace ht := oet_ ht|replace ht := oef_ ht|skip))|(refine ych ?_;first|(refine ybw rfl ?_ ?_<;>intro ht)|(refine ybx rfl ?_ ?_<;>intro ht)))
    (refine rx_call_m (ycp Tryz.func13 rfl (by kernel_rfl) rfl) (perm_at (k := 1) rfl) (Rotate_sp c1 1 bv (1 + (i : Int)) 0 m1 ⟨by omega, by omega⟩ h2) rfl rfl rfl ?_ ?_ ?_; (· (exact to_)); (· intro _ _ hle; (exact to_)); intro x px hle)
    repeat' (first|(refine ycf ?_;apply ybk;(·first|(first|exact tk_|(apply qv_nilCheck;rfl)));(·rfl);(·rfl))|refine t1_ ?_|(refine ta_ ?_;intro _)|((fail_if_success (refine ybi rfl ?_));refine ybj rfl ?_ ?_<;>(intro ht;rw [ht];first|replace ht := oet_ ht|replace ht := oef_ ht|skip))|(refine ych ?_;first|(refine ybw rfl ?_ ?_<;>intro ht)|(refine ybx rfl ?_ ?_<;>intro ht)))
    refine nx_round (i + 1) (by show i + 1 ≤ n; omega) (by show n - (i + 1) < n - i; omega) ts_ (fun _ s => ?_)
    have e : (1 : Int) + ((i + 1 : Nat) : Int) = 1 + (i : Int) + 1 := by omega
    rw [e]
    exact s.picks [1, 0, 0, 0, 0, 0, 0, 0, 0]
  obtain rfl : i = n := by omega
  clear hin hi
  obtain ⟨ep, hep⟩ : ∃ ep : Int, ep = 1 + (i : Int) := ⟨_, rfl⟩
  rw [← hep]
  obtain ⟨adv, capv, hvv, hcv⟩ : ∃ a c, ac.vv = .slice a ac.val.length c ∧ ac.val.length ≤ c := by
    obtain ⟨_, a, c, e, e', _⟩ := hx.vs
    exact ⟨a, c, e, e'⟩
  obtain ⟨adm, capm, hmv, hcm⟩ : ∃ a c, ac.mv = .slice a ac.l.length c ∧ ac.l.length ≤ c := by
    obtain ⟨_, a, c, e, e', _⟩ := hx.ds
    exact ⟨a, c, e, e'⟩
  obtain ⟨m, hm⟩ : ∃ m, m = min ac.val.length 300 := ⟨_, rfl⟩
  have hj : (if (300 : Int) < (ac.val.length : Int) then (300 : Int) else (ac.val.length : Int)) = (m : Int) := by rw [hm];split<;>omega
  obtain ⟨k, hkk⟩ : ∃ k, k = min ac.l.length 34 := ⟨_, rfl⟩
  have hj2 : (if (34 : Int) < (ac.l.length : Int) then (34 : Int) else (ac.l.length : Int)) = (k : Int) := by rw [hkk];split<;>omega
  have hle12 : Le h h2 := Le.trans hle1 hle2
  have hsv : Bs8 h2 (.slice adv m capv) (ac.val.take m) := bs_pre (by rw [← hvv]; exact hx.vs.mono hle12) (by omega)
  have htl : (ac.l.take k).length = k := by simp; omega
  have hds : Ds h2 (.slice adm k capm) (ac.l.take k) := by
    have hd0 : Ds h2 (.slice adm ac.l.length capm) ac.l := by rw [← hmv]; exact hx.ds.mono hle12
    unfold Ds
    rw [htl, ← flat_take]
    exact sc_take hd0 (by omega)
  have hv2 := hv1.mono hle2
  repeat' (first|(refine ycf ?_;apply ybk;(·first|(first|exact tk_|(refine qv_min' rfl rfl hj)|(apply qv_slice_to;(·rfl);(·rfl);(·omega);(·omega)))|(apply yae;(·rfl);(·(exact ac_val (yaz 8 rfl) hvv))));(·rfl);(·rfl))|refine t1_ ?_|(refine ta_ ?_;intro _)|((fail_if_success (refine ybi rfl ?_));refine ybj rfl ?_ ?_<;>(intro ht;rw [ht];first|replace ht := oet_ ht|replace ht := oef_ ht|skip))|(refine ych ?_;first|(refine ybw rfl ?_ ?_<;>intro ht)|(refine ybx rfl ?_ ?_<;>intro ht)))
  have hcl := ycj (mv := Value.slice adm k capm) ac.hu
  have hfu := fill2 (ad := adm) (m := k) (c := capm) ac.hu
  refine cx_region_drawW [Res.blk b4 (.cells (acc ac).toArray 41 (0, 0))] [13, 14] rfl (by kernel_rfl) ?_
  repeat' (refine ycf ?_;(first|(first|(apply ybm;(·(first|(first|(refine qv_min' rfl rfl hj2)|(apply qv_slice_to;(·rfl);(·rfl);(·omega);(·omega))|(apply yad (vs := up ac.u);(·rfl);(·exact cells_up2 (ac_past (yaz 0 rfl)));(·simp [up, ac.hu]))|(apply yax (cs := cxc ac.u (.slice adm k capm));(·rfl);(·exact hfu)))|(apply yae;(·rfl);(·(exact ac_more (yaz 0 rfl) hmv)))|exact tq_));(·rfl);(·rfl);(·(exact hd_one' (Le.refl h2) tmm_)))|refine ybl rfl rfl ?_|((fail_if_success (refine ybi rfl ?_));refine ybj rfl ?_ ?_<;>(intro ht;rw [ht];first|replace ht := oet_ ht|replace ht := oef_ ht|skip))|(refine tb_ ?_ ?_ ?_;(·(first|exact ybf|(refine .inl ?_;(exact hd_one' (Le.refl h2) tmm_))|exact to_));(·intro _;(first|exact ybf|(refine .inl ?_;(exact hd_one' (Le.refl h2) tmm_))|exact to_));intro _)|(first|(refine ybg 0 rfl rfl rfl (cxc_sz ac.hu) (cxc_fit ac.hu) (cxc_one rfl) (ybh (cxc_all ac.hu)) rfl rfl ?_ ?_ ?_;(·(first|exact ybf|(refine .inl ?_;(exact hd_one' (Le.refl h2) tmm_))|exact to_));(·(first|exact ybf|(refine .inl ?_;(exact hd_one' (Le.refl h2) tmm_))|exact to_)))|(refine tqs_ ?_ ?_ ?_;(·(first|exact ybf|(refine .inl ?_;(exact hd_one' (Le.refl h2) tmm_))|exact to_));(·(first|exact ybf|(refine .inl ?_;(exact hd_one' (Le.refl h2) tmm_))|exact to_))))|(apply ybn;(·(first|(first|(refine qv_min' rfl rfl hj2)|(apply qv_slice_to;(·rfl);(·rfl);(·omega);(·omega))|(apply yad (vs := up ac.u);(·rfl);(·exact cells_up2 (ac_past (yaz 0 rfl)));(·simp [up, ac.hu]))|(apply yax (cs := cxc ac.u (.slice adm k capm));(·rfl);(·exact hfu)))|(apply yae;(·rfl);(·(exact ac_more (yaz 0 rfl) hmv)))|exact tq_));(·rfl);(·rfl);(·rfl);(·(first|exact ybf|(refine .inl ?_;(exact hd_one' (Le.refl h2) tmm_))|exact to_))))|refine ycg ?_))
  rename_i b11
  repeat' (first|(refine ycf ?_;apply ybk;(·first|(exact tk_));(·rfl);(·rfl))|refine t1_ ?_|(refine ta_ ?_;intro _)|((fail_if_success (refine ybi rfl ?_));refine ybj rfl ?_ ?_<;>(intro ht;rw [ht];first|replace ht := oet_ ht|replace ht := oef_ ht|skip))|(refine ych ?_;first|(refine ybw rfl ?_ ?_<;>intro ht)|(refine ybx rfl ?_ ?_<;>intro ht)))
  refine cx_less [(4, .pointer (some ⟨b4, 0, none⟩)), (7, .pointer (some ⟨bW, 0, none⟩)), (8, .int .i64 (i : Nat)), (10, .slice adv m capv), (11, .pointer (some ⟨b11, 0, none⟩))] ts_ ?_
  refine cx_picks [0, 0, 7, 0, 0, 2, 2, 2, 0, 0] ?_
  refine cx_perm (L' := [Res.blk b11 (.cells (cxc ac.u (.slice adm k capm)).toArray 37 (0, 0)), wlR bW bv c1 c2 d1 d2 (.slice none 0 0), Res.blk b4 (.cells (acc ac).toArray 41 (0, 0)), clR c1 1 bv ep 0 m1, cmR m1 [], nmR bn [], usR bu [], tbR bt [], clR c2 3 bv 1 0 m2, cmR m2 []]) (.refl _) ?_
  refine cx_region_floatV [Res.blk b11 (.cells (cxc ac.u (.slice adm k capm)).toArray 37 (0, 0)), wlR bW bv c1 c2 d1 d2 (.slice none 0 0), Res.blk b4 (.cells (acc ac).toArray 41 (0, 0))] [7, 12, 13, 18, 19, 20, 21, 22] [0, 1, 2, 3, 4, 5, 6, 7, 8, 9, 10, 11, 12, 13, 14, 15, 16, 17] [(18, 12, fun b => .pointer (some ⟨b, 0, none⟩), .cells (bcs (List.replicate 32 0)).toArray 43 (0, 0)), (19, 13, fun b => .pointer (some ⟨b, 0, none⟩), .cells (sbc zSb).toArray 47 (0, 0))] [20, 21, 22] rfl (by kernel_rfl) ?_
  intro D ys hD
  refine gx_with (List.forall_mem_cons.2 ⟨⟨rfl, rfl, rfl, by kernel_rfl, fun _ _ _ => MA.cast (ybc (T := 43)) rfl⟩, List.forall_mem_cons.2 ⟨⟨rfl, rfl, rfl, by kernel_rfl, fun _ _ _ => MA.cast (ybc (T := 47)) rfl⟩, fun y hy => (by cases hy)⟩⟩) (by decide) (fun hok hnd => ?_)
  iterate 7
    refine gx_q rfl ?_
    repeat' (refine ycf ?_;(first|(first|(apply ybm;(·(first|(first|exact tk_|(apply qv_nilCheck;rfl))|(apply yae;(·rfl);(·(first|exact yay 1 rfl rfl|exact ac_name (yaz 2 rfl))))|exact tq_));(·rfl);(·rfl);(·(exact hd_l (Le.refl h2) (fun r hr => List.mem_append_left _ (tm3 hr)))))|refine ybl rfl rfl ?_|((fail_if_success (refine ybi rfl ?_));refine ybj rfl ?_ ?_<;>(intro ht;rw [ht];first|replace ht := oet_ ht|replace ht := oef_ ht|skip))|(refine tb_ ?_ ?_ ?_;(·(first|exact ybf|(refine .inl ?_;(exact hd_l (Le.refl h2) (fun r hr => List.mem_append_left _ (tm3 hr))))|exact to_));(·intro _;(first|exact ybf|(refine .inl ?_;(exact hd_l (Le.refl h2) (fun r hr => List.mem_append_left _ (tm3 hr))))|exact to_));intro _)|(first|(refine tqs_ ?_ ?_ ?_;(·(first|exact ybf|(refine .inl ?_;(exact hd_l (Le.refl h2) (fun r hr => List.mem_append_left _ (tm3 hr))))|exact to_));(·(first|exact ybf|(refine .inl ?_;(exact hd_l (Le.refl h2) (fun r hr => List.mem_append_left _ (tm3 hr))))|exact to_))))|(apply ybn;(·(first|(first|exact tk_|(apply qv_nilCheck;rfl))|(apply yae;(·rfl);(·(first|exact yay 1 rfl rfl|exact ac_name (yaz 2 rfl))))|exact tq_));(·rfl);(·rfl);(·rfl);(·(first|exact ybf|(refine .inl ?_;(exact hd_l (Le.refl h2) (fun r hr => List.mem_append_left _ (tm3 hr))))|exact to_))))|refine ycg ?_))
    refine gx_putn ?_
  refine gx_step hok hnd rfl rfl (fun D w s => hd_l (Le.refl h2) (fun r hr => List.mem_append_left _ (tm3 hr)) w s) (fun D ys hD => ?_) _ _ hD
  (refine yco (ycp Tryz.func14 rfl (by kernel_rfl) rfl) (name7_sp ac.name h2) rfl rfl rfl ?_ ?_ ?_;(·(first|exact ybf|(refine .inl ?_;(first|exact hd_l (Le.refl h2) (fun r hr => List.mem_append_left _ (tm3 hr))|exact hd_l hle (fun r hr => List.mem_append_right [] (List.mem_append_left _ (tm3 hr)))))|exact to_));(·intro _ _ hle;(first|exact ybf|(refine .inl ?_;(first|exact hd_l (Le.refl h2) (fun r hr => List.mem_append_left _ (tm3 hr))|exact hd_l hle (fun r hr => List.mem_append_right [] (List.mem_append_left _ (tm3 hr)))))|exact to_));intro x px hle)
  obtain ⟨h3, vn⟩ := x
  dsimp only at px hle ⊢
  have hle3 : Le h2 h3 := hle
  have hn3 : Bs8 h3 vn (nmB ac.name) := px
  clear px hle
  obtain ⟨adn, capn, rfl⟩ : ∃ a c, vn = .slice a (nmB ac.name).length c := by obtain ⟨_, a, c, e, _⟩ := hn3; exact ⟨a, c, e⟩
  refine ycg ?_
  refine gx_putcn ?_
  iterate 4
    refine gx_q rfl ?_
    repeat' (refine ycf ?_;(first|(first|(apply ybm;(·(first|(first|exact tk_|(apply yad;(·rfl);(·exact yaz 0 rfl);(·exact ycj ac.hu)))|(apply yae;(·rfl);(·(first|exact ac_del (yaz 2 rfl))))|exact tq_));(·rfl);(·rfl);(·(exact hd_l hle3 (fun r hr => List.mem_append_left _ (tm3 hr)))))|refine ybl rfl rfl ?_|((fail_if_success (refine ybi rfl ?_));refine ybj rfl ?_ ?_<;>(intro ht;rw [ht];first|replace ht := oet_ ht|replace ht := oef_ ht|skip))|(refine tb_ ?_ ?_ ?_;(·(first|exact ybf|(refine .inl ?_;(exact hd_l hle3 (fun r hr => List.mem_append_left _ (tm3 hr))))|exact to_));(·intro _;(first|exact ybf|(refine .inl ?_;(exact hd_l hle3 (fun r hr => List.mem_append_left _ (tm3 hr))))|exact to_));intro _)|(first|(refine tqs_ ?_ ?_ ?_;(·(first|exact ybf|(refine .inl ?_;(exact hd_l hle3 (fun r hr => List.mem_append_left _ (tm3 hr))))|exact to_));(·(first|exact ybf|(refine .inl ?_;(exact hd_l hle3 (fun r hr => List.mem_append_left _ (tm3 hr))))|exact to_))))|(apply ybn;(·(first|(first|exact tk_|(apply yad;(·rfl);(·exact yaz 0 rfl);(·exact ycj ac.hu)))|(apply yae;(·rfl);(·(first|exact ac_del (yaz 2 rfl))))|exact tq_));(·rfl);(·rfl);(·rfl);(·(first|exact ybf|(refine .inl ?_;(exact hd_l hle3 (fun r hr => List.mem_append_left _ (tm3 hr))))|exact to_))))|refine ycg ?_))
    refine gx_putn ?_
  refine gx_step hok hnd rfl rfl (fun D w s => hd_l hle3 (fun r hr => List.mem_append_left _ (tm3 hr)) w s) (fun D ys hD => ?_) _ _ hD
  (refine yco (ycp Tryz.func15 rfl (by kernel_rfl) rfl) (ctx7_sp (cxv ac.u (.slice adm k capm)) ac.u (ac.l.take k) h3 ⟨ac.hu, _, rfl, hds.mono hle3⟩ (by omega)) rfl rfl rfl ?_ ?_ ?_;(·(first|exact ybf|(refine .inl ?_;(first|exact hd_l hle3 (fun r hr => List.mem_append_left _ (tm3 hr))|exact hd_l (hle3.trans hle) (fun r hr => List.mem_append_right [] (List.mem_append_left _ (tm3 hr)))))|exact to_));(·intro _ _ hle;(first|exact ybf|(refine .inl ?_;(first|exact hd_l hle3 (fun r hr => List.mem_append_left _ (tm3 hr))|exact hd_l (hle3.trans hle) (fun r hr => List.mem_append_right [] (List.mem_append_left _ (tm3 hr)))))|exact to_));intro x px hle)
  obtain ⟨h4, v4⟩ := x
  dsimp only at px hle ⊢
  have hle4 : Le h3 h4 := hle
  have hc4 : Cx h4 v4 ac.u (ac.l.take k) := px
  clear px hle
  obtain ⟨hu4, mv4, rfl, hd4⟩ := id hc4
  refine ycg ?_
  refine gx_putcn ?_
  have hle24 : Le h2 h4 := hle3.trans hle4
  refine gx_step hok hnd rfl rfl (fun D w s => hd_l hle24 (fun r hr => List.mem_append_left _ (tm3 hr)) w s) (fun D ys hD => ?_) _ _ hD
  have W := CWrite1_sp idl c1 bv ep m1 (key1 5) bn bu bt (nmB ac.name) (ac.val.take m) ac.del ac.u (ac.l.take k) _ (.slice adv m capv) _ ⟨by omega, by omega⟩ hk rfl (nmB_by _) (nmB_len _).1 (fun y hy => hx.yv y (List.mem_of_mem_take hy)) (by rw [List.length_take]; omega) (by omega) h4 (hv2.mono hle24) (hn3.mono hle4) (hsv.mono hle24) hc4 (hg.mono (hle12.trans hle24))
  refine rx_call_l (ycp Tryz.func9 rfl (by kernel_rfl) rfl) (pick5 3 3 3 3 3 rfl rfl rfl rfl rfl) W rfl rfl rfl (.inl (hd_l hle24 (fun r hr => List.mem_append_left _ (tm3 hr)))) (fun _ _ hl => .inl (hd_l (hle24.trans hl) (fun r hr => List.mem_append_right _ (List.mem_append_left _ (tm3 hr))))) ?_
  rintro ⟨h5, bl, g, er, ct, K, N, U, T⟩ hW hle5
  dsimp only at hW hle5 ⊢
  clear W
  obtain ⟨hbl, hgv, hcase⟩ : bl.length = 32 ∧ Sv h5 g ∧ _ := hW
  dsimp only at hbl hgv hcase
  have hob : (bcs bl).length = 32 := by rw [bcs_len, hbl]
  have hgl := sbc_len g
  have hgo := hgv.one
  have hle25 : Le h2 h5 := hle24.trans hle5
  refine rx_perm (L' := [Res.blk b11 (.cells (cxc ac.u (.slice adm k capm)).toArray 37 (0, 0)), wlR bW bv c1 c2 d1 d2 (.slice none 0 0), Res.blk b4 (.cells (acc ac).toArray 41 (0, 0)), clR c1 1 bv ep ct m1, cmR m1 K, nmR bn N, usR bu U, tbR bt T, clR c2 3 bv 1 0 m2, cmR m2 []] ++ LDy D) (List.perm_append_comm_assoc [clR c1 1 bv ep ct m1, cmR m1 K, nmR bn N, usR bu U, tbR bt T] [Res.blk b11 (.cells (cxc ac.u (.slice adm k capm)).toArray 37 (0, 0)), wlR bW bv c1 c2 d1 d2 (.slice none 0 0), Res.blk b4 (.cells (acc ac).toArray 41 (0, 0))] ([clR c2 3 bv 1 0 m2, cmR m2 []] ++ LDy D)) ?_
  refine ycg ?_
  refine gx_putn ?_
  iterate 4
    refine gx_q rfl ?_
    repeat' (refine ycf ?_;(first|(first|(apply ybm;(·(first|(exact tk_)|exact tq_));(·rfl);(·rfl);(·(exact hd_l hle25 (fun r hr => List.mem_append_left _ (tm3 hr)))))|refine ybl rfl rfl ?_|((fail_if_success (refine ybi rfl ?_));refine ybj rfl ?_ ?_<;>(intro ht;rw [ht];first|replace ht := oet_ ht|replace ht := oef_ ht|skip))|(refine tb_ ?_ ?_ ?_;(·(first|exact ybf|(refine .inl ?_;(exact hd_l hle25 (fun r hr => List.mem_append_left _ (tm3 hr))))|exact to_));(·intro _;(first|exact ybf|(refine .inl ?_;(exact hd_l hle25 (fun r hr => List.mem_append_left _ (tm3 hr))))|exact to_));intro _)|(first|(refine tqs_ ?_ ?_ ?_;(·(first|exact ybf|(refine .inl ?_;(exact hd_l hle25 (fun r hr => List.mem_append_left _ (tm3 hr))))|exact to_));(·(first|exact ybf|(refine .inl ?_;(exact hd_l hle25 (fun r hr => List.mem_append_left _ (tm3 hr))))|exact to_))))|(apply ybn;(·(first|(exact tk_)|exact tq_));(·rfl);(·rfl);(·rfl);(·(first|exact ybf|(refine .inl ?_;(exact hd_l hle25 (fun r hr => List.mem_append_left _ (tm3 hr))))|exact to_))))|refine ycg ?_))
    refine gx_putn ?_
  refine gx_end hok hnd rfl rfl (fun D w s => hd_l hle25 (fun r hr => List.mem_append_left _ (tm3 hr)) w s) (fun D hD => ?_) _ _ hD
  obtain ⟨b12, b13, rfl⟩ := two hD
  refine rx_to (F' := [(77, .agg (bcs bl).toArray), (78, sbv g), (79, .int .i64 er), (4, .pointer (some ⟨b4, 0, none⟩)), (7, .pointer (some ⟨bW, 0, none⟩)), (8, .int .i64 (i : Nat)), (10, .slice adv m capv), (11, .pointer (some ⟨b11, 0, none⟩)), (12, .pointer (some ⟨b12, 0, none⟩)), (13, .pointer (some ⟨b13, 0, none⟩))]) (L' := [Res.blk b11 (.cells (cxc ac.u (.slice adm k capm)).toArray 37 (0, 0)), wlR bW bv c1 c2 d1 d2 (.slice none 0 0), Res.blk b4 (.cells (acc ac).toArray 41 (0, 0)), clR c1 1 bv ep ct m1, cmR m1 K, nmR bn N, usR bu U, tbR bt T, clR c2 3 bv 1 0 m2, cmR m2 [], Res.blk b12 (.cells (bcs (List.replicate 32 0)).toArray 43 (0, 0)), Res.blk b13 (.cells (sbc zSb).toArray 47 (0, 0))]) ts_ rfl ?_
  repeat' (refine ycf ?_;(first|(first|(apply ybm;(·exact tq_);(·rfl);(·rfl);(·(exact hd_l hle25 (fun r hr => tm3 hr))))|refine ybl rfl rfl ?_|((fail_if_success (refine ybi rfl ?_));refine ybj rfl ?_ ?_<;>(intro ht;rw [ht];first|replace ht := oet_ ht|replace ht := oef_ ht|skip))|(refine tb_ ?_ ?_ ?_;(·(first|exact ybf|(refine .inl ?_;(exact hd_l hle25 (fun r hr => tm3 hr)))|exact to_));(·intro _;(first|exact ybf|(refine .inl ?_;(exact hd_l hle25 (fun r hr => tm3 hr)))|exact to_));intro _)|(first|(first|(refine ybg 10 rfl rfl rfl (by show (bcs bl).toArray.size = 32;simpa using hob) (by show 0 + (bcs bl).toArray.size ≤ 32;rw [List.size_toArray, hob];omega) (List.all_eq_true.2 (bcs_one bl)) (ybh (by show (bcs bl).length = 32;rw [hob])) rfl rfl ?_ ?_ ?_;(·(first|exact ybf|(refine .inl ?_;(exact hd_l hle25 (fun r hr => tm3 hr)))|exact to_));(·(first|exact ybf|(refine .inl ?_;(exact hd_l hle25 (fun r hr => tm3 hr)))|exact to_)))|(refine ybg 11 rfl rfl rfl (sbc_sz g) (sbc_fit rfl) (sbc_one hgo.1 hgo.2) (ybh (sbc_all rfl)) rfl rfl ?_ ?_ ?_;(·(first|exact ybf|(refine .inl ?_;(exact hd_l hle25 (fun r hr => tm3 hr)))|exact to_));(·(first|exact ybf|(refine .inl ?_;(exact hd_l hle25 (fun r hr => tm3 hr)))|exact to_))))|(refine tqs_ ?_ ?_ ?_;(·(first|exact ybf|(refine .inl ?_;(exact hd_l hle25 (fun r hr => tm3 hr)))|exact to_));(·(first|exact ybf|(refine .inl ?_;(exact hd_l hle25 (fun r hr => tm3 hr)))|exact to_))))|(apply ybn;(·exact tq_);(·rfl);(·rfl);(·rfl);(·(first|exact ybf|(refine .inl ?_;(exact hd_l hle25 (fun r hr => tm3 hr)))|exact to_))))|refine ycg ?_))
  rcases hcase with ⟨her, hgb⟩ | ⟨her, hn6, hck, hq, hN, tv, se, hse, hT, htv, hga⟩
  · obtain ⟨adb, capb, hbv⟩ : ∃ a c, g.bv = .slice a 0 c := by
      obtain ⟨_, a, c, e, _⟩ := hgv.bs
      rw [hgb] at e
      exact ⟨a, c, e⟩
    have hce : ∀ L, Cells h5 L ⟨b13, 0, none⟩ (sbc g) → CellAt h5 L b13 (0 + 19) (.slice adb 0 capb) := fun L c => by
      have := sb_body c
      rwa [hbv] at this
    repeat' (first|(refine ycf ?_;apply ybk;(·first|(exact tk_)|(apply yae;(·rfl);(·(exact hce _ (yaz 11 rfl)))));(·rfl);(·rfl))|refine t1_ ?_|(refine ta_ ?_;intro _)|((fail_if_success (refine ybi rfl ?_));refine ybj rfl ?_ ?_<;>(intro ht;rw [ht];first|replace ht := oet_ ht|replace ht := oef_ ht|skip))|(refine ych ?_;first|(refine ybw rfl ?_ ?_<;>intro ht)|(refine ybx rfl ?_ ?_<;>intro ht)))
    exact nx_ret1 rfl (rv_tmp rfl) (fun w' s' => ⟨h5, rfl, s'.nil⟩)
  · subst her
    repeat' (first|(refine ycf ?_;apply ybk;(·first|(exact tk_));(·rfl);(·rfl))|refine t1_ ?_|(refine ta_ ?_;intro _)|((fail_if_success (refine ybi rfl ?_));refine ybj rfl ?_ ?_<;>(intro ht;rw [ht];first|replace ht := oet_ ht|replace ht := oef_ ht|skip))|(refine ych ?_;first|(refine ybw rfl ?_ ?_<;>intro ht)|(refine ybx rfl ?_ ?_<;>intro ht)))
    refine cx_less [(4, .pointer (some ⟨b4, 0, none⟩)), (7, .pointer (some ⟨bW, 0, none⟩)), (8, .int .i64 (i : Nat)), (10, .slice adv m capv), (11, .pointer (some ⟨b11, 0, none⟩)), (13, .pointer (some ⟨b13, 0, none⟩))] ts_ ?_
    refine cx_picks [0, 0, 0, 8, 5, 2, 3] ?_
    refine cx_perm (L' := [Res.blk b11 (.cells (cxc ac.u (.slice adm k capm)).toArray 37 (0, 0)), wlR bW bv c1 c2 d1 d2 (.slice none 0 0), Res.blk b4 (.cells (acc ac).toArray 41 (0, 0)), Res.blk b13 (.cells (sbc g).toArray 47 (0, 0)), clR c2 3 bv 1 0 m2, nmR bn N, tbR bt T]) (.refl _) ?_
    have hNm : Names N := by rw [hN]; exact addX_names (fun x hx => by cases hx) (nmB_by _)
    have hNl : N.length < 800000 := by
      have := addX_len (idl := idl) (N := []) (nm := nmB ac.name)
      rw [hN]
      simp at this ⊢
      omega
    obtain ⟨val, hval⟩ : ∃ v, v = ac.val.take m := ⟨_, rfl⟩
    rw [← hval] at hsv hse hT htv
    have yv : Bytes val := fun y hy => hx.yv y (List.mem_of_mem_take (hval ▸ hy))
    have lv : val.length ≤ 3999 := by rw [hval, List.length_take]; omega
    have lvm : val.length = m := by rw [hval, List.length_take]; omega
    have hil := inF_len (del := ac.del) (val := val) (fun _ => lv)
    have hpw : (padW (inF ac.del val)).length ≤ 4096 := by
      have := sizeF_bd (n := ((inF ac.del val).length : Nat)) (by omega) (by omega)
      rw [padW_len (by omega)]
      omega
    have hTT : ∀ x ∈ T, x.2.1 = tv ∧ x.2.2 = padW (inF ac.del val) := fun x hx2 => by
      rw [hT] at hx2
      unfold tabX at hx2
      split at hx2
      · rw [List.nil_append] at hx2
        rw [List.mem_singleton.1 hx2]
        exact ⟨rfl, rfl⟩
      · cases hx2
    have hTl : ∀ x ∈ T, x.2.2.length ≤ 900000 ∧ Bytes x.2.2 := fun x hx2 => by
      rw [(hTT x hx2).2]
      exact ⟨by omega, padW_by (inF_by yv)⟩
    have hTk : TbOk h5 T := fun x hx2 => by
      rw [(hTT x hx2).1, (hTT x hx2).2]
      exact htv
    have hcop := back_cop idl (key := key1 5) (nm := nmB ac.name) (val := val) (ep := ep) (del := ac.del) (u := ac.u) (l := ac.l.take k) (tv := tv) (se := se) hk hq yv lv hck rfl hse
    rw [← hN, ← hT, ← hga] at hcop
    have hrV : rdV idl (key1 5) N T (nmB ac.name) ([g].map Sb.a) = [(g.a.1, g.a.2.1, g.a.2.2.1, ep, ac.del, if ac.del then [] else val)] := by
      show rdV idl (key1 5) N T (nmB ac.name) [g.a] = _
      unfold rdV
      rw [List.filterMap_cons, hcop]
      rfl
    have hrE : rdE idl (key1 5) N T (nmB ac.name) ([g].map Sb.a) = [] := by
      show rdE idl (key1 5) N T (nmB ac.name) [g.a] = _
      unfold rdE
      rw [List.filterMap_cons, hcop]
      rfl
    have hgb : g.b.length ≤ 900000 ∧ g.l.length ≤ 4611686018427387904 := by
      have e1 : g.b = g.a.2.2.2 := rfl
      have e2 : g.l = g.a.2.2.1 := rfl
      have hsl : se.length = (padW (inF ac.del val)).length + 16 := by rw [hse]; exact sealX_len _ _ _ _ _ _ _ _
      have hpl := hq.2.2.2.2
      have hnl := nameX_len idl (key1 5) [] (nmB ac.name)
      dsimp only at hpl
      rw [e1, e2, hga]
      refine ⟨?_, by show (ac.l.take k).length ≤ _; omega⟩
      show (encE _ _ se).length ≤ _
      simp only [encE, List.length_append, boundF_len hnl, num4_len]
      omega
    rw [hga] at hrV
    dsimp only at hrV
    refine cx_cut (X := View × Value × List Vl) (fun y => [(4, .pointer (some ⟨b4, 0, none⟩)), (8, .int .i64 (i : Nat)), (10, .slice adv m capv), (11, .pointer (some ⟨b11, 0, none⟩)), (15, y.2.1), (16, .int .i64 (0 : Nat)), (17, .int .i64 0)]) (fun y => y.1) (fun y => [Res.blk b11 (.cells (cxc ac.u (.slice adm k capm)).toArray 37 (0, 0)), Res.blk b4 (.cells (acc ac).toArray 41 (0, 0))])
      (fun y => Le h5 y.1 ∧ Vs y.1 y.2.1 y.2.2 ∧ y.2.2.map Vl.t = [((1, 1), ac.u, ac.l.take k, ep, ac.del, if ac.del then [] else val)]) ?_ ?_
    · refine cx_region_floX [wlR bW bv c1 c2 d1 d2 (.slice none 0 0), Res.blk b4 (.cells (acc ac).toArray 41 (0, 0)), Res.blk b13 (.cells (sbc g).toArray 47 (0, 0))] [7, 9, 10, 11, 17] [0, 1, 2, 3, 4, 5, 6, 8] [7] 9 [10, 11, 12, 13, 14, 15, 16, 17] rfl (by kernel_rfl) ?_
      repeat' (refine ycf ?_;(first|(first|(apply ybm;(·(first|(first|exact tk_|(apply qv_nilCheck;rfl)|(apply yad;(·rfl);(·exact yaz 2 rfl);(·exact hgl)))|(apply yae;(·rfl);(·(first|exact yay 0 rfl rfl|exact ac_name (yaz 1 rfl))))|exact tq_));(·rfl);(·rfl);(·(first|exact hd_l (Le.refl h5) (fun r hr => by simp only [List.mem_cons, List.not_mem_nil, or_false] at hr;rcases hr with rfl|rfl|rfl<;>exact tmm_)|exact hd_l hle (fun r hr => by simp only [List.mem_cons, List.not_mem_nil, or_false] at hr;rcases hr with rfl|rfl|rfl<;>exact tmm_))))|refine ybl rfl rfl ?_|((fail_if_success (refine ybi rfl ?_));refine ybj rfl ?_ ?_<;>(intro ht;rw [ht];first|replace ht := oet_ ht|replace ht := oef_ ht|skip))|(refine tb_ ?_ ?_ ?_;(·(first|exact ybf|(refine .inl ?_;(first|exact hd_l (Le.refl h5) (fun r hr => by simp only [List.mem_cons, List.not_mem_nil, or_false] at hr;rcases hr with rfl|rfl|rfl<;>exact tmm_)|exact hd_l hle (fun r hr => by simp only [List.mem_cons, List.not_mem_nil, or_false] at hr;rcases hr with rfl|rfl|rfl<;>exact tmm_)))|exact to_));(·intro _;(first|exact ybf|(refine .inl ?_;(first|exact hd_l (Le.refl h5) (fun r hr => by simp only [List.mem_cons, List.not_mem_nil, or_false] at hr;rcases hr with rfl|rfl|rfl<;>exact tmm_)|exact hd_l hle (fun r hr => by simp only [List.mem_cons, List.not_mem_nil, or_false] at hr;rcases hr with rfl|rfl|rfl<;>exact tmm_)))|exact to_));intro _)|(first|(refine tqs_ ?_ ?_ ?_;(·(first|exact ybf|(refine .inl ?_;(first|exact hd_l (Le.refl h5) (fun r hr => by simp only [List.mem_cons, List.not_mem_nil, or_false] at hr;rcases hr with rfl|rfl|rfl<;>exact tmm_)|exact hd_l hle (fun r hr => by simp only [List.mem_cons, List.not_mem_nil, or_false] at hr;rcases hr with rfl|rfl|rfl<;>exact tmm_)))|exact to_));(·(first|exact ybf|(refine .inl ?_;(first|exact hd_l (Le.refl h5) (fun r hr => by simp only [List.mem_cons, List.not_mem_nil, or_false] at hr;rcases hr with rfl|rfl|rfl<;>exact tmm_)|exact hd_l hle (fun r hr => by simp only [List.mem_cons, List.not_mem_nil, or_false] at hr;rcases hr with rfl|rfl|rfl<;>exact tmm_)))|exact to_))))|(apply ybn;(·(first|(first|exact tk_|(apply qv_nilCheck;rfl)|(apply yad;(·rfl);(·exact yaz 2 rfl);(·exact hgl)))|(apply yae;(·rfl);(·(first|exact yay 0 rfl rfl|exact ac_name (yaz 1 rfl))))|exact tq_));(·rfl);(·rfl);(·rfl);(·(first|exact ybf|(refine .inl ?_;(first|exact hd_l (Le.refl h5) (fun r hr => by simp only [List.mem_cons, List.not_mem_nil, or_false] at hr;rcases hr with rfl|rfl|rfl<;>exact tmm_)|exact hd_l hle (fun r hr => by simp only [List.mem_cons, List.not_mem_nil, or_false] at hr;rcases hr with rfl|rfl|rfl<;>exact tmm_)))|exact to_))))|refine ycg ?_))
      refine nx_flo 7 [] [] (by kernel_rfl) ?_ ?_
      · (refine yco (ycp Tryz.func14 rfl (by kernel_rfl) rfl) (name7_sp ac.name h5) rfl rfl rfl ?_ ?_ ?_;(·(first|exact ybf|(refine .inl ?_;(first|exact hd_l (Le.refl h5) (fun r hr => by simp only [List.mem_cons, List.not_mem_nil, or_false] at hr;rcases hr with rfl|rfl|rfl<;>exact tmm_)|exact hd_l hle (fun r hr => by simp only [List.mem_cons, List.not_mem_nil, or_false] at hr;rcases hr with rfl|rfl|rfl<;>exact tmm_)))|exact to_));(·intro _ _ hle;(first|exact ybf|(refine .inl ?_;(first|exact hd_l (Le.refl h5) (fun r hr => by simp only [List.mem_cons, List.not_mem_nil, or_false] at hr;rcases hr with rfl|rfl|rfl<;>exact tmm_)|exact hd_l hle (fun r hr => by simp only [List.mem_cons, List.not_mem_nil, or_false] at hr;rcases hr with rfl|rfl|rfl<;>exact tmm_)))|exact to_));intro x px hle)
        obtain ⟨h6, vn⟩ := x
        dsimp only at px hle ⊢
        have hle6 : Le h5 h6 := hle
        have hn6' : Bs8 h6 vn (nmB ac.name) := px
        clear px hle
        refine ycg ?_
        refine nx_flo_end ?_
        refine yba (ybd rfl rfl rfl (ybe rfl (sbc_sz g))) rfl rfl rfl (by (first|exact ybf | (refine .inl ?_;(exact hd_l hle6 (fun r hr => by simp only [List.mem_cons, List.not_mem_nil, or_false] at hr;rcases hr with rfl | rfl | rfl<;>exact tmm_))) | exact to_)) (fun _ => by (first|exact ybf | (refine .inl ?_;(exact hd_l hle6 (fun r hr => by simp only [List.mem_cons, List.not_mem_nil, or_false] at hr;rcases hr with rfl | rfl | rfl<;>exact tmm_))) | exact to_)) ?_
        intro bq
        refine rx_rowOf 20 1 1 (Nat.le_refl _) (by unfold maxLen; omega) (by show (sbc g).toArray.size = 1 * 20; rw [List.size_toArray, sbc_len]) ?_
        refine rx_persist rfl fun h9 hle9 hs9 => ?_
        rw [show (Value.agg (sbc g).toArray).cells.toList.toArray.toList = (sbc g).toArray.toList from rfl, show ((sbc g).toArray.toList).take (1 * 20) = sbc g from List.take_of_length_le (by have := sbc_len g; simp; omega)] at hs9
        have hl59 : Le h5 h9 := hle6.trans hle9
        have hn9 : Bs8 h9 vn (nmB ac.name) := hn6'.mono hle9
        have hg9 : Ss h9 (.slice (some ⟨bq, 0, none⟩) 1 1) [g] := by
          refine ⟨?_, fun y hy => by rw [List.mem_singleton.1 hy]; exact hgv.mono hl59⟩
          rw [show [g].flatMap sbc = sbc g by simp]
          exact hs9
        have R1 := CRead_sp idl (openC_any idl) c2 3 bv 1 0 m2 (key1 5) bn bu bt N T (nmB ac.name) [g] _ _ hk rfl hNm hNl hTl (nmB_by _) ⟨(nmB_len _).1, hn6⟩ (by simp) (fun z hz => by rw [List.mem_singleton.1 hz]; exact hgb) h9 (hTk.mono hl59) (hv2.mono (hle25.trans hl59)) hn9 hg9 (fun _ => hg.mono ((hle12.trans hle25).trans hl59))
        rw [hrV, hrE] at R1
        refine rx_call_l (ycp Tryz.func16 rfl (by kernel_rfl) rfl) (pick3 4 4 4 rfl rfl rfl) R1 rfl rfl rfl ?_ ?_ ?_
        · (first|exact ybf | (refine .inl ?_;(first|exact hd_l hl59 (fun r hr => by simp only [List.mem_cons, List.not_mem_nil, or_false] at hr;rcases hr with rfl | rfl | rfl<;>exact tmm_) | exact hd_l (hl59.trans hle) (fun r hr => by simp only [List.mem_cons, List.not_mem_nil, or_false] at hr;rcases hr with rfl | rfl | rfl<;>exact tmm_))) | exact to_)
        · intro _ _ hle;(first|exact ybf | (refine .inl ?_;(first|exact hd_l hl59 (fun r hr => by simp only [List.mem_cons, List.not_mem_nil, or_false] at hr;rcases hr with rfl | rfl | rfl<;>exact tmm_) | exact hd_l (hl59.trans hle) (fun r hr => by simp only [List.mem_cons, List.not_mem_nil, or_false] at hr;rcases hr with rfl | rfl | rfl<;>exact tmm_))) | exact to_)
        rintro ⟨h10, vo, O, M⟩ ⟨hO, hM, hOt⟩ hle10
        dsimp only at hO hM hOt hle10 ⊢
        repeat' (refine ycf ?_;(first|(first|(apply ybm;(·(first|(exact tk_)|exact tq_));(·rfl);(·rfl);(·(exact hd_l (hl59.trans hle10) (fun r hr => by simp only [List.mem_cons, List.not_mem_nil, or_false] at hr;rcases hr with rfl|rfl|rfl<;>exact tmm_))))|refine ybl rfl rfl ?_|((fail_if_success (refine ybi rfl ?_));refine ybj rfl ?_ ?_<;>(intro ht;rw [ht];first|replace ht := oet_ ht|replace ht := oef_ ht|skip))|(refine tb_ ?_ ?_ ?_;(·(first|exact ybf|(refine .inl ?_;(exact hd_l (hl59.trans hle10) (fun r hr => by simp only [List.mem_cons, List.not_mem_nil, or_false] at hr;rcases hr with rfl|rfl|rfl<;>exact tmm_)))|exact to_));(·intro _;(first|exact ybf|(refine .inl ?_;(exact hd_l (hl59.trans hle10) (fun r hr => by simp only [List.mem_cons, List.not_mem_nil, or_false] at hr;rcases hr with rfl|rfl|rfl<;>exact tmm_)))|exact to_));intro _)|(first|(refine tqs_ ?_ ?_ ?_;(·(first|exact ybf|(refine .inl ?_;(exact hd_l (hl59.trans hle10) (fun r hr => by simp only [List.mem_cons, List.not_mem_nil, or_false] at hr;rcases hr with rfl|rfl|rfl<;>exact tmm_)))|exact to_));(·(first|exact ybf|(refine .inl ?_;(exact hd_l (hl59.trans hle10) (fun r hr => by simp only [List.mem_cons, List.not_mem_nil, or_false] at hr;rcases hr with rfl|rfl|rfl<;>exact tmm_)))|exact to_))))|(apply ybn;(·(first|(exact tk_)|exact tq_));(·rfl);(·rfl);(·rfl);(·(first|exact ybf|(refine .inl ?_;(exact hd_l (hl59.trans hle10) (fun r hr => by simp only [List.mem_cons, List.not_mem_nil, or_false] at hr;rcases hr with rfl|rfl|rfl<;>exact tmm_)))|exact to_))))|refine ycg ?_))
        refine nx_cut (h10, vo, O) ⟨hl59.trans hle10, hO, hOt⟩ ts_ (fun _ s => ?_)
        exact s.picks [3, 4]
      · refine yba (ybd rfl rfl rfl (ybe rfl (sbc_sz g))) rfl rfl rfl (by (first|exact ybf|(refine .inl ?_;(first|exact hd_l (Le.refl h5) (fun r hr => by simp only [List.mem_cons, List.not_mem_nil, or_false] at hr;rcases hr with rfl|rfl|rfl<;>exact tmm_)|exact hd_l hle (fun r hr => by simp only [List.mem_cons, List.not_mem_nil, or_false] at hr;rcases hr with rfl|rfl|rfl<;>exact tmm_)))|exact to_)) (fun _ => by (first|exact ybf|(refine .inl ?_;(first|exact hd_l (Le.refl h5) (fun r hr => by simp only [List.mem_cons, List.not_mem_nil, or_false] at hr;rcases hr with rfl|rfl|rfl<;>exact tmm_)|exact hd_l hle (fun r hr => by simp only [List.mem_cons, List.not_mem_nil, or_false] at hr;rcases hr with rfl|rfl|rfl<;>exact tmm_)))|exact to_)) ?_
        intro bq
        refine rx_rowOf 20 1 1 (Nat.le_refl _) (by unfold maxLen; omega) (by show (sbc g).toArray.size = 1 * 20; rw [List.size_toArray, sbc_len]) ?_
        refine rx_persist rfl fun h8 hle8 hs8 => ?_
        rw [show (Value.agg (sbc g).toArray).cells.toList.toArray.toList = (sbc g).toArray.toList from rfl, show ((sbc g).toArray.toList).take (1 * 20) = sbc g from List.take_of_length_le (by have := sbc_len g; simp; omega)] at hs8
        (refine yco (ycp Tryz.func14 rfl (by kernel_rfl) rfl) (name7_sp ac.name h8) rfl rfl rfl ?_ ?_ ?_;(·(first|exact ybf|(refine .inl ?_;(first|exact hd_l hle8 (fun r hr => by simp only [List.mem_cons, List.not_mem_nil, or_false] at hr;rcases hr with rfl|rfl|rfl<;>exact tmm_)|exact hd_l (hle8.trans hle) (fun r hr => by simp only [List.mem_cons, List.not_mem_nil, or_false] at hr;rcases hr with rfl|rfl|rfl<;>exact tmm_)))|exact to_));(·intro _ _ hle;(first|exact ybf|(refine .inl ?_;(first|exact hd_l hle8 (fun r hr => by simp only [List.mem_cons, List.not_mem_nil, or_false] at hr;rcases hr with rfl|rfl|rfl<;>exact tmm_)|exact hd_l (hle8.trans hle) (fun r hr => by simp only [List.mem_cons, List.not_mem_nil, or_false] at hr;rcases hr with rfl|rfl|rfl<;>exact tmm_)))|exact to_));intro x px hle)
        obtain ⟨h9, vn⟩ := x
        dsimp only at px hle ⊢
        have hle9 : Le h8 h9 := hle
        have hn9 : Bs8 h9 vn (nmB ac.name) := px
        clear px hle
        have hs9 := hs8.mono hle9
        have hl59 : Le h5 h9 := hle8.trans hle9
        have hg9 : Ss h9 (.slice (some ⟨bq, 0, none⟩) 1 1) [g] := by
          refine ⟨?_, fun y hy => by rw [List.mem_singleton.1 hy]; exact hgv.mono hl59⟩
          rw [show [g].flatMap sbc = sbc g by simp]
          exact hs9
        have R1 := CRead_sp idl (openC_any idl) c2 3 bv 1 0 m2 (key1 5) bn bu bt N T (nmB ac.name) [g] _ _ hk rfl hNm hNl hTl (nmB_by _) ⟨(nmB_len _).1, hn6⟩ (by simp) (fun z hz => by rw [List.mem_singleton.1 hz]; exact hgb) h9 (hTk.mono hl59) (hv2.mono (hle25.trans hl59)) hn9 hg9 (fun _ => hg.mono ((hle12.trans hle25).trans hl59))
        rw [hrV, hrE] at R1
        refine rx_call_l (ycp Tryz.func16 rfl (by kernel_rfl) rfl) (pick3 4 4 4 rfl rfl rfl) R1 rfl rfl rfl ?_ ?_ ?_
        · (first|exact ybf | (refine .inl ?_;(first|exact hd_l hl59 (fun r hr => by simp only [List.mem_cons, List.not_mem_nil, or_false] at hr;rcases hr with rfl | rfl | rfl<;>exact tmm_) | exact hd_l (hl59.trans hle) (fun r hr => by simp only [List.mem_cons, List.not_mem_nil, or_false] at hr;rcases hr with rfl | rfl | rfl<;>exact tmm_))) | exact to_)
        · intro _ _ hle;(first|exact ybf | (refine .inl ?_;(first|exact hd_l hl59 (fun r hr => by simp only [List.mem_cons, List.not_mem_nil, or_false] at hr;rcases hr with rfl | rfl | rfl<;>exact tmm_) | exact hd_l (hl59.trans hle) (fun r hr => by simp only [List.mem_cons, List.not_mem_nil, or_false] at hr;rcases hr with rfl | rfl | rfl<;>exact tmm_))) | exact to_)
        rintro ⟨h10, vo, O, M⟩ ⟨hO, hM, hOt⟩ hle10
        dsimp only at hO hM hOt hle10 ⊢
        repeat' (refine ycf ?_;(first|(first|(apply ybm;(·(first|(exact tk_)|exact tq_));(·rfl);(·rfl);(·(exact hd_l (hl59.trans hle10) (fun r hr => by simp only [List.mem_cons, List.not_mem_nil, or_false] at hr;rcases hr with rfl|rfl|rfl<;>exact tmm_))))|refine ybl rfl rfl ?_|((fail_if_success (refine ybi rfl ?_));refine ybj rfl ?_ ?_<;>(intro ht;rw [ht];first|replace ht := oet_ ht|replace ht := oef_ ht|skip))|(refine tb_ ?_ ?_ ?_;(·(first|exact ybf|(refine .inl ?_;(exact hd_l (hl59.trans hle10) (fun r hr => by simp only [List.mem_cons, List.not_mem_nil, or_false] at hr;rcases hr with rfl|rfl|rfl<;>exact tmm_)))|exact to_));(·intro _;(first|exact ybf|(refine .inl ?_;(exact hd_l (hl59.trans hle10) (fun r hr => by simp only [List.mem_cons, List.not_mem_nil, or_false] at hr;rcases hr with rfl|rfl|rfl<;>exact tmm_)))|exact to_));intro _)|(first|(refine tqs_ ?_ ?_ ?_;(·(first|exact ybf|(refine .inl ?_;(exact hd_l (hl59.trans hle10) (fun r hr => by simp only [List.mem_cons, List.not_mem_nil, or_false] at hr;rcases hr with rfl|rfl|rfl<;>exact tmm_)))|exact to_));(·(first|exact ybf|(refine .inl ?_;(exact hd_l (hl59.trans hle10) (fun r hr => by simp only [List.mem_cons, List.not_mem_nil, or_false] at hr;rcases hr with rfl|rfl|rfl<;>exact tmm_)))|exact to_))))|(apply ybn;(·(first|(exact tk_)|exact tq_));(·rfl);(·rfl);(·rfl);(·(first|exact ybf|(refine .inl ?_;(exact hd_l (hl59.trans hle10) (fun r hr => by simp only [List.mem_cons, List.not_mem_nil, or_false] at hr;rcases hr with rfl|rfl|rfl<;>exact tmm_)))|exact to_))))|refine ycg ?_))
        refine nx_cut (h10, vo, O) ⟨hl59.trans hle10, hO, hOt⟩ ts_ (fun _ s => ?_)
        exact s.picks [3, 4]
    rintro ⟨h10, vo, O⟩ ⟨hle10, hO, hOt⟩
    dsimp only at hle10 hO hOt ⊢
    refine yby ?_
    have hO1 : O.length = 1 := by have := congrArg List.length hOt; simpa using this
    obtain ⟨z, rfl⟩ := List.length_eq_one_iff.1 hO1
    have hzt : z.t = ((1, 1), ac.u, ac.l.take k, ep, ac.del, if ac.del then [] else val) := (List.cons.inj hOt).1
    obtain ⟨adO, capO, rfl⟩ : ∃ a c, vo = .slice a 1 c := by obtain ⟨_, a, c, e, _⟩ := hO.1; exact ⟨a, c, e⟩
    obtain ⟨bO, oO, rfl⟩ := hO.1.ad (by simp) (by decide)
    have hzc : ∀ L, Cells h10 L ⟨bO, oO + 0 * 22, none⟩ (vlc z) := fun L => hO.1.elem vlc_len 0 (by simp)
    have hzv : Vv h10 z := hO.2 z (List.mem_singleton.2 rfl)
    have hsv10 : Bs8 h10 (.slice adv m capv) val := hsv.mono (hle25.trans hle10)
    have hds10 : Ds h10 (.slice adm k capm) (ac.l.take k) := hds.mono (hle25.trans hle10)
    obtain ⟨wv, ewv⟩ : ∃ wv : Vl, wv = ⟨(1, 1), ep, ac.u, ac.hu, ac.l.take k, .slice adm k capm, ac.del, val, .string (bstr val)⟩ := ⟨_, rfl⟩
    have hwr : Vr h10 wv := by rw [ewv]; exact ⟨hds10, rfl⟩
    have hwl := vlc_len wv
    have hwo := hwr.one
    have e1i : (1 : Int) + (i : Int) = ep := hep.symm
    have hfw : fillL (fun i : Nat => ([(0, 2), (2, 1), (3, 17), (20, 1), (21, 1)] : List (Nat × Nat))[i]?) ([.int .i64 0, .int .i64 0, .int .i64 0] ++ (up zeroU ++ [.slice none 0 0, .bool false, .string ⟨#[]⟩])) [(0, .agg (dcs (1, 1)).toArray), (1, .int .i64 ep), (2, .agg (cxc ac.u (.slice adm k capm)).toArray), (3, .bool ac.del), (4, .string (bstr val))] = some (vlc wv) := by rw [ewv]; exact fill_rv ac.hu
    repeat' (first|(refine ycf ?_;apply ybk;(·first|(first|(apply yax (cs := dcs (1, 1));(·rfl);(·rfl))|(apply yad;(·rfl);(·exact yaz 0 rfl);(·exact ycj ac.hu))|(refine qv_str_bs rfl hsv10)|exact tk_)|(apply yae;(·rfl);(·(first|exact ac_del (yaz 1 rfl)))));(·rfl);(·rfl))|refine t1_ ?_|(refine ta_ ?_;intro _)|((fail_if_success (refine ybi rfl ?_));refine ybj rfl ?_ ?_<;>(intro ht;rw [ht];first|replace ht := oet_ ht|replace ht := oef_ ht|skip))|(refine ych ?_;first|(refine ybw rfl ?_ ?_<;>intro ht)|(refine ybx rfl ?_ ?_<;>intro ht)))
    rw [e1i]
    refine ybk (yax (cs := vlc wv) rfl hfw) rfl rfl ?_
    iterate 2 (first|(refine ybg 0 rfl rfl rfl (by show (vlc wv).toArray.size = 22;rw [List.size_toArray, hwl]) (by show 0 + (vlc wv).toArray.size ≤ 22;rw [List.size_toArray, hwl];omega) hwo (ybh (by show (vlc wv).length = 22;rw [hwl])) rfl rfl ?_ ?_ ?_;(·(exact to_));(·(exact to_)))|refine t1_ ?_|(refine ta_ ?_;intro _)|((fail_if_success (refine ybi rfl ?_));refine ybj rfl ?_ ?_<;>(intro ht;rw [ht];first|replace ht := oet_ ht|replace ht := oef_ ht|skip))|(refine ych ?_;first|(refine ybw rfl ?_ ?_<;>intro ht)|(refine ybx rfl ?_ ?_<;>intro ht)))
    rename_i b18
    obtain ⟨wv2, ew2⟩ : ∃ wv2 : Vl, wv2 = ⟨(1, 1), ep, ac.u, ac.hu, ac.l.take k, .slice adm k capm, ac.del, if ac.del then [] else val, .string (bstr (if ac.del then [] else val))⟩ := ⟨_, rfl⟩
    have hw2r : Vr h10 wv2 := by rw [ew2]; exact ⟨hds10, rfl⟩
    have hw2l := vlc_len wv2
    refine ycg ?_
    refine yby ?_
    refine ybo ?_
    refine cx_cut (X := Unit) (fun _ => [(15, .slice (some ⟨bO, oO, none⟩) 1 capO), (16, .int .i64 (0 : Nat)), (17, .int .i64 0), (18, .pointer (some ⟨b18, 0, none⟩))]) (fun _ => h10) (fun _ => [Res.blk b18 (.cells (vlc wv2).toArray 67 (0, 0))]) (fun _ => True) ?_ ?_
    · cases hdel : ac.del with
      | true =>
        have ew3 : wv2 = ⟨wv.d, wv.ep, wv.u, wv.hu, wv.l, wv.mv, wv.gone, [], .string ⟨#[]⟩⟩ := by rw [ew2, ewv, hdel]; rfl
        have hsp : spl (vlc wv).toArray.toList (0 + 21) (Value.string ⟨#[]⟩).cells.toList = vlc wv2 := by rw [ew3]; exact spl_vl wv (.string ⟨#[]⟩) [] rfl
        have hdc : ∀ L, Cells h10 L ⟨b4, 0, none⟩ (acc ac) → CellAt h10 L b4 (0 + 4) (.bool true) := fun L c => by
          have := ac_del c
          rwa [hdel] at this
        repeat' (first|(refine ycf ?_;apply ybk;(·first|(apply yae;(·rfl);(·(exact hdc _ (yaz 2 rfl)))));(·rfl);(·rfl))|(refine ybg 0 rfl rfl rfl rfl (by show 0 + 21 + 1 ≤ (vlc wv).toArray.size;rw [List.size_toArray, hwl];omega) rfl hsp rfl rfl ?_ ?_ ?_;(·(exact to_));(·(exact to_)))|refine t1_ ?_|(refine ta_ ?_;intro _)|((fail_if_success (refine ybi rfl ?_));refine ybj rfl ?_ ?_<;>(intro ht;rw [ht];first|replace ht := oet_ ht|replace ht := oef_ ht|skip))|(refine ych ?_;first|(refine ybw rfl ?_ ?_<;>intro ht)|(refine ybx rfl ?_ ?_<;>intro ht)))
        refine nx_cut () trivial ts_ (fun _ s => ?_)
        exact s.picks [0]
      | false =>
        have ew3 : wv2 = wv := by rw [ew2, ewv, hdel]; rfl
        have hdc : ∀ L, Cells h10 L ⟨b4, 0, none⟩ (acc ac) → CellAt h10 L b4 (0 + 4) (.bool false) := fun L c => by
          have := ac_del c
          rwa [hdel] at this
        repeat' (first|(refine ycf ?_;apply ybk;(·first|(apply yae;(·rfl);(·(exact hdc _ (yaz 2 rfl)))));(·rfl);(·rfl))|(refine ybg 0 rfl rfl rfl rfl (by show 0 + 21 + 1 ≤ (vlc wv).toArray.size;rw [List.size_toArray, hwl];omega) rfl hsp rfl rfl ?_ ?_ ?_;(·(exact to_));(·(exact to_)))|refine t1_ ?_|(refine ta_ ?_;intro _)|((fail_if_success (refine ybi rfl ?_));refine ybj rfl ?_ ?_<;>(intro ht;rw [ht];first|replace ht := oet_ ht|replace ht := oef_ ht|skip))|(refine ych ?_;first|(refine ybw rfl ?_ ?_<;>intro ht)|(refine ybx rfl ?_ ?_<;>intro ht)))
        refine nx_cut () trivial ts_ (fun _ s => ?_)
        rw [ew3]
        exact s.picks [0]
    intro _ _
    refine yby ?_
    have zb : z.b = if ac.del then [] else val := congrArg (fun t : Tv => t.2.2.2.2.2) hzt
    have zl : z.l = ac.l.take k := congrArg (fun t : Tv => t.2.2.1) hzt
    have ybb : Bytes (if ac.del then [] else val) := by
      split
      · intro x hx2; cases hx2
      · exact yv
    have SM := same27_sp z.r wv2 h10 hzv.r hw2r (by show Bytes z.b; rw [zb]; exact ybb) (by rw [ew2]; exact ybb) (by show z.l.length ≤ _; rw [zl]; omega) (by rw [ew2]; show (ac.l.take k).length ≤ _; omega)
    rw [decide_eq_true (show z.r.t = wv2.t by rw [ew2]; exact hzt)] at SM
    have V7 := value7_sp z h10 hzv
    refine ybo ?_
    refine cx_region_drawW [Res.blk b18 (.cells (vlc wv2).toArray 67 (0, 0))] [15, 17] rfl (by kernel_rfl) ?_
    repeat' (refine ycf ?_;(first|(first|(apply ybm;(·(first|(first|exact tk_|(apply yad;(·rfl);(·exact hzc _);(·exact vlc_len z))|(apply yad;(·rfl);(·exact yaz 0 rfl);(·exact hw2l)))|exact tq_));(·rfl);(·rfl);(·(exact hd_one' (Le.refl h10) tmm_)))|refine ybl rfl rfl ?_|((fail_if_success (refine ybi rfl ?_));refine ybj rfl ?_ ?_<;>(intro ht;rw [ht];first|replace ht := oet_ ht|replace ht := oef_ ht|skip))|(refine tb_ ?_ ?_ ?_;(·(first|exact ybf|(refine .inl ?_;(exact hd_one' (Le.refl h10) tmm_))|exact to_));(·intro _;(first|exact ybf|(refine .inl ?_;(exact hd_one' (Le.refl h10) tmm_))|exact to_));intro _)|(first|(refine tqs_ ?_ ?_ ?_;(·(first|exact ybf|(refine .inl ?_;(exact hd_one' (Le.refl h10) tmm_))|exact to_));(·(first|exact ybf|(refine .inl ?_;(exact hd_one' (Le.refl h10) tmm_))|exact to_))))|(apply ybn;(·(first|(first|exact tk_|(apply yad;(·rfl);(·exact hzc _);(·exact vlc_len z))|(apply yad;(·rfl);(·exact yaz 0 rfl);(·exact hw2l)))|exact tq_));(·rfl);(·rfl);(·rfl);(·(first|exact ybf|(refine .inl ?_;(exact hd_one' (Le.refl h10) tmm_))|exact to_))))|refine ycg ?_))
    (refine ycn (ycp Tryz.func18 rfl (by kernel_rfl) rfl) (V7) rfl rfl rfl ?_ ?_;(·(first|exact ybf|(refine .inl ?_;(exact hd_one' (Le.refl h10) tmm_))|exact to_)))
    repeat' (refine ycf ?_;(first|(first|(apply ybm;(·(first|(first|exact tk_|(apply yad;(·rfl);(·exact hzc _);(·exact vlc_len z))|(apply yad;(·rfl);(·exact yaz 0 rfl);(·exact hw2l)))|exact tq_));(·rfl);(·rfl);(·(exact hd_one' (Le.refl h10) tmm_)))|refine ybl rfl rfl ?_|((fail_if_success (refine ybi rfl ?_));refine ybj rfl ?_ ?_<;>(intro ht;rw [ht];first|replace ht := oet_ ht|replace ht := oef_ ht|skip))|(refine tb_ ?_ ?_ ?_;(·(first|exact ybf|(refine .inl ?_;(exact hd_one' (Le.refl h10) tmm_))|exact to_));(·intro _;(first|exact ybf|(refine .inl ?_;(exact hd_one' (Le.refl h10) tmm_))|exact to_));intro _)|(first|(refine tqs_ ?_ ?_ ?_;(·(first|exact ybf|(refine .inl ?_;(exact hd_one' (Le.refl h10) tmm_))|exact to_));(·(first|exact ybf|(refine .inl ?_;(exact hd_one' (Le.refl h10) tmm_))|exact to_))))|(apply ybn;(·(first|(first|exact tk_|(apply yad;(·rfl);(·exact hzc _);(·exact vlc_len z))|(apply yad;(·rfl);(·exact yaz 0 rfl);(·exact hw2l)))|exact tq_));(·rfl);(·rfl);(·rfl);(·(first|exact ybf|(refine .inl ?_;(exact hd_one' (Le.refl h10) tmm_))|exact to_))))|refine ycg ?_))
    (refine ycn (ycp Tryz.func17 rfl (by kernel_rfl) rfl) (SM) rfl rfl rfl ?_ ?_;(·(first|exact ybf|(refine .inl ?_;(exact hd_one' (Le.refl h10) tmm_))|exact to_)))
    repeat' (refine ycf ?_;(first|(first|(apply ybm;(·(first|(first|exact tk_|(apply yad;(·rfl);(·exact hzc _);(·exact vlc_len z))|(apply yad;(·rfl);(·exact yaz 0 rfl);(·exact hw2l)))|exact tq_));(·rfl);(·rfl);(·(exact hd_one' (Le.refl h10) tmm_)))|refine ybl rfl rfl ?_|((fail_if_success (refine ybi rfl ?_));refine ybj rfl ?_ ?_<;>(intro ht;rw [ht];first|replace ht := oet_ ht|replace ht := oef_ ht|skip))|(refine tb_ ?_ ?_ ?_;(·(first|exact ybf|(refine .inl ?_;(exact hd_one' (Le.refl h10) tmm_))|exact to_));(·intro _;(first|exact ybf|(refine .inl ?_;(exact hd_one' (Le.refl h10) tmm_))|exact to_));intro _)|(first|(refine tqs_ ?_ ?_ ?_;(·(first|exact ybf|(refine .inl ?_;(exact hd_one' (Le.refl h10) tmm_))|exact to_));(·(first|exact ybf|(refine .inl ?_;(exact hd_one' (Le.refl h10) tmm_))|exact to_))))|(apply ybn;(·(first|(first|exact tk_|(apply yad;(·rfl);(·exact hzc _);(·exact vlc_len z))|(apply yad;(·rfl);(·exact yaz 0 rfl);(·exact hw2l)))|exact tq_));(·rfl);(·rfl);(·rfl);(·(first|exact ybf|(refine .inl ?_;(exact hd_one' (Le.refl h10) tmm_))|exact to_))))|refine ycg ?_))
    repeat' (first|refine tw_ ?_|(refine ta_ ?_;intro _)|((fail_if_success (refine ybi rfl ?_));refine ybj rfl ?_ ?_<;>(intro ht;rw [ht];first|replace ht := oet_ ht|replace ht := oef_ ht|skip))|(refine ych ?_;first|(refine ybw rfl ?_ ?_<;>intro ht)|(refine ybx rfl ?_ ?_<;>intro ht)))
    exact nx_ret1 rfl (rv_tmp rfl) (fun w' s' => ⟨h10, rfl, s'.nil⟩)
end Go.Proofs.YtaofgcahmfailaaGreatDoor
end

section
namespace Go.Ck
open Go Go.ChangeShapes
section
variable {H : Type} {enc : TypeId × Value → H} {P : Program} {w : World} {base : Nat} {spare : Nat → Bool} {held : Bool}
theorem trod_fields {t : TypeId} {fs : Array Field} {fuel : Nat} {cs : List Value} {x : DataW H × List MemPlace} (ht : P.underlying t = some (.struct fs)) (h : DataW.trod enc P w base spare held fuel t cs = some x) :
    cs.length = P.cellsOf t ∧ ∀ f ∈ fs.toList, ∃ m y, DataW.trod enc P w base spare held m f.type ((cs.drop f.offset).take (P.cellsOf f.type)) = some y := by
  cases fuel with
  | zero => simp [DataW.trod] at h
  | succ n =>
    unfold DataW.trod at h
    simp only [ht] at h
    split at h
    · rename_i hl
      obtain ⟨xs, hxs, _⟩ := Option.map_eq_some_iff.1 h
      refine ⟨hl, fun f hf => ?_⟩
      obtain ⟨i, hi, rfl⟩ := List.getElem_of_mem hf
      have := mapM_some_get hxs i _ (List.getElem?_eq_getElem hi)
      have hlen := mapM_some_length hxs
      rw [List.getElem?_eq_getElem (by omega)] at this
      exact ⟨n, _, this⟩
    · cases h
theorem trod_elems {t e : TypeId} {k fuel : Nat} {cs : List Value} {x : DataW H × List MemPlace} (ht : P.underlying t = some (.array k e)) (h : DataW.trod enc P w base spare held fuel t cs = some x) :
    cs.length = P.cellsOf t ∧ ∀ i, i < k → ∃ m y, DataW.trod enc P w base spare held m e ((cs.drop (i * P.cellsOf e)).take (P.cellsOf e)) = some y := by
  cases fuel with
  | zero => simp [DataW.trod] at h
  | succ n =>
    unfold DataW.trod at h
    simp only [ht] at h
    split at h
    · rename_i hl
      obtain ⟨xs, hxs, _⟩ := Option.map_eq_some_iff.1 h
      refine ⟨hl, fun i hi => ?_⟩
      have := mapM_some_get hxs i i (by simp [hi])
      have hlen := mapM_some_length hxs
      rw [List.getElem?_eq_getElem (by simp at hlen; omega)] at this
      exact ⟨n, _, this⟩
    · cases h
end
end Go.Ck
end

section
namespace Go.Ck
open Go Go.ChangeShapes
set_option maxHeartbeats 1000000
section
variable {H : Type} {enc : TypeId × Value → H} {P : Program} {w : World} {base : Nat} {spare : Nat → Bool} {held : Bool}
theorem cells_get' {a : Addr} {n : Nat} {cs : List Value} (h : w.cells? base a n = some cs) {j : Nat} {u : Value} (hj : cs[j]? = some u) : w.cell? (a.add j) = some u := by
  unfold World.cells? at h
  split at h
  · have hl := mapM_some_length h
    have hjl : j < cs.length := (List.getElem?_eq_some_iff.1 hj).1
    have := mapM_some_get h j j (by rw [List.length_range] at hl; exact List.getElem?_range (by omega))
    rw [this, hj]
  · cases h
theorem trod_slice_of {T e k : Nat} {α : Type} {en : α → List Value} {R : α → Prop} (tu : P.underlying T = some (.slice e)) (hc : P.cellsOf e = k) (hk0 : 0 < k) (hlen : ∀ x, (en x).length = k)
    (hel : ∀ (m : Nat) (cs : List Value) (y : DataW H × List MemPlace), DataW.trod enc P w base spare held m e cs = some y → ∃ x : α, R x ∧ cs = en x)
    {m : Nat} {cs : List Value} {y : DataW H × List MemPlace} (h : DataW.trod enc P w base spare held m T cs = some y) :
    ∃ (v : Value) (l : List α), cs = [v] ∧ Sc (fun b => w.heap[b]?) k v l.length (l.flatMap en) ∧ l.length ≤ maxLen ∧ ∀ x ∈ l, R x := by
  subst hc
  rcases Go.Deep.open_slice tu h with ⟨rfl, _⟩ | ⟨a, len, cap, q, n, D, Pl, rfl, _, h1, h2, hk, _, hall⟩
  · exact ⟨_, [], rfl, Sc.nil _ _ none 0, Nat.zero_le _, fun x hx => by cases hx⟩
  · have hkl : len ≤ q := by rw [hk]; split <;> omega
    have hex : ∀ i, i < len → ∃ d : α, R d ∧ w.cells? base (a.add (i * P.cellsOf e)) (P.cellsOf e) = some (en d) := fun i hi => by
      obtain ⟨cs', e1, e2⟩ := hall i (by omega)
      obtain ⟨d, hr, rfl⟩ := hel _ _ _ e2
      exact ⟨d, hr, e1⟩
    generalize P.cellsOf e = k at hex hk0 hlen ⊢
    by_cases h0 : len = 0
    · subst h0
      exact ⟨_, [], rfl, ⟨by simp, some a, cap, rfl, Nat.zero_le _, .inl rfl⟩, Nat.zero_le _, fun x hx => by cases hx⟩
    obtain ⟨d0, _⟩ := hex 0 (by omega)
    obtain ⟨f, hf'⟩ : ∃ f : Nat → α, ∀ i, i < len → R (f i) ∧ w.cells? base (a.add (i * k)) k = some (en (f i)) := by
      classical
      exact ⟨fun i => if hi : i < len then (hex i hi).choose else d0, fun i hi => by
        dsimp only
        rw [dif_pos hi]
        exact (hex i hi).choose_spec⟩
    have hf := fun i hi => (hf' i hi).2
    refine ⟨_, (List.range len).map f, rfl, ⟨?_, some a, cap, by simp, by simpa using h1, ?_⟩, by simp; omega, fun x hx => ?_⟩
    · rw [flat_len hlen]
    · refine .inr ?_
      have hc00 : 0 < (en (f 0)).length := by rw [hlen]; exact hk0
      have hc0 := cells_get' (hf 0 (by omega)) (j := 0) (List.getElem?_eq_getElem hc00)
      obtain ⟨b, o, sp⟩ := a
      have hadd : ∀ i j, ((⟨b, o, sp⟩ : Addr).add i).add j = (⟨b, o, sp⟩ : Addr).add (i + j) := fun i j => Go.Deep.add_add _ i j
      rw [hadd] at hc0
      have hblk : ((⟨b, o, sp⟩ : Addr).add (0 * k + 0)) = ⟨b, o, sp⟩ := by simp [Addr.add]
      rw [hblk] at hc0
      unfold World.cell? at hc0
      split at hc0
      · rename_i c e fz hb
        split at hc0
        · cases hc0
        · rename_i hsp
          have hsp' : sp = none := by simpa using hsp
          subst hsp'
          refine ⟨b, o, c, e, fz, rfl, hb, fun j u hj => ?_⟩
          have hjl : j < len * k := by
            have := (List.getElem?_eq_some_iff.1 hj).1
            rw [flat_len hlen] at this
            simpa using this
          have hjk : j / k < len := Nat.div_lt_of_lt_mul (by rw [Nat.mul_comm]; exact hjl)
          have hd : j / k < ((List.range len).map f).length := by simpa using hjk
          have e1 : (((List.range len).map f).flatMap en)[j]? = (en (f (j / k)))[j % k]? := by
            have := flat_at hlen ((List.range len).map f) (j / k) hd
            have e3 : ((List.range len).map f)[j / k] = f (j / k) := by simp
            rw [e3] at this
            rw [← this, List.getElem?_take_of_lt (Nat.mod_lt _ hk0), List.getElem?_drop]
            congr 1
            rw [Nat.mul_comm]
            exact (Nat.div_add_mod j k).symm
          rw [e1] at hj
          have := cells_get' (hf (j / k) hjk) hj
          rw [hadd, Addr.add_off] at this
          unfold World.cell? at this
          simp only [hb] at this
          simp only [Option.isSome_none, Bool.false_eq_true, if_false] at this
          have ej : j / k * k + j % k = j := by rw [Nat.mul_comm]; exact Nat.div_add_mod j k
          rw [ej] at this
          exact this
      · cases hc0
    · obtain ⟨i, hi, rfl⟩ := List.mem_map.1 hx
      exact (hf' i (by simpa using hi)).1
end
end Go.Ck
end

section
namespace Go.Proofs.YtaofgcahmfailaaGreatDoor
open Go Go.Ck Go.ChangeShapes
set_option maxHeartbeats 1000000
theorem cellsDot : Tryz.prog.cellsOf 45 = 2 := by kernel_rfl
theorem cellsInt : Tryz.prog.cellsOf 3 = 1 := by kernel_rfl
theorem cellsArr : Tryz.prog.cellsOf 34 = 16 := by kernel_rfl
theorem cellsSl : Tryz.prog.cellsOf 35 = 1 := by kernel_rfl
theorem cellsCx : Tryz.prog.cellsOf 37 = 17 := by kernel_rfl
section
variable {H : Type} {enc : TypeId × Value → H} {w : World} {base : Nat} {spare : Nat → Bool} {held : Bool}
theorem trod_dot {m : Nat} {cs : List Value} {y : DataW H × List MemPlace} (h : DataW.trod enc Tryz.prog w base spare held m 45 cs = some y) : ∃ d : Dt, cs = dcs d := by
  obtain ⟨hl, hf⟩ := trod_fields Tryz.underlying45 h
  rw [cellsDot] at hl
  match cs, hl with
  | [a, b], _ =>
    obtain ⟨m1, y1, h1⟩ := hf _ (List.mem_cons_self ..)
    obtain ⟨m2, y2, h2⟩ := hf _ (List.mem_cons_of_mem _ (List.mem_cons_self ..))
    rw [cellsInt] at h1 h2
    obtain ⟨n1, e1, _⟩ := DataW.trod_int Tryz.underlying3 h1
    obtain ⟨n2, e2, _⟩ := DataW.trod_int Tryz.underlying3 h2
    simp at e1 e2
    exact ⟨(n1, n2), by rw [e1, e2]; rfl⟩
theorem trod_up {m : Nat} {cs : List Value} {y : DataW H × List MemPlace} (h : DataW.trod enc Tryz.prog w base spare held m 34 cs = some y) : ∃ u : List Int, u.length = 16 ∧ cs = up u := by
  obtain ⟨hl, hf⟩ := trod_elems Tryz.underlying34 h
  rw [cellsArr] at hl
  have hc : ∀ i (hi : i < cs.length), ∃ n, cs[i] = .int .i64 n := fun i hi => by
    obtain ⟨m1, y1, h1⟩ := hf i (by omega)
    rw [cellsInt, Nat.mul_one] at h1
    obtain ⟨n1, e1, _⟩ := DataW.trod_int Tryz.underlying3 h1
    have e2 : (List.drop i cs).take 1 = [cs[i]] := by
      rw [List.drop_eq_getElem_cons hi]; rfl
    rw [e2] at e1
    exact ⟨n1, by simpa using e1⟩
  clear hf h
  have key : ∀ cs : List Value, (∀ i (hi : i < cs.length), ∃ n, cs[i] = .int .i64 n) → ∃ u : List Int, u.length = cs.length ∧ cs = up u := by
    intro cs
    induction cs with
    | nil => intro _; exact ⟨[], rfl, rfl⟩
    | cons c cs ih =>
      intro hc
      obtain ⟨n, hn⟩ := hc 0 (by simp)
      obtain ⟨u, h1, h2⟩ := ih fun i hi => by
        have := hc (i + 1) (by simpa using hi)
        simpa using this
      simp only [List.getElem_cons_zero] at hn
      exact ⟨n :: u, by simp [h1], by rw [hn, h2]; rfl⟩
  obtain ⟨u, h1, h2⟩ := key cs hc
  exact ⟨u, by omega, h2⟩
theorem cells_get {a : Addr} {n : Nat} {cs : List Value} (h : w.cells? base a n = some cs) {j : Nat} {u : Value} (hj : cs[j]? = some u) : w.cell? (a.add j) = some u := by
  unfold World.cells? at h
  split at h
  · have hl := mapM_some_length h
    have hjl : j < cs.length := (List.getElem?_eq_some_iff.1 hj).1
    have := mapM_some_get h j j (by rw [List.length_range] at hl; exact List.getElem?_range (by omega))
    rw [this, hj]
  · cases h
theorem trod_ds {m : Nat} {cs : List Value} {y : DataW H × List MemPlace} (h : DataW.trod enc Tryz.prog w base spare held m 35 cs = some y) : ∃ (v : Value) (l : List Dt), cs = [v] ∧ Ds (fun b => w.heap[b]?) v l ∧ l.length ≤ maxLen := by
  rcases Go.Deep.open_slice Tryz.underlying35 h with ⟨rfl, _⟩ | ⟨a, len, cap, k, n, D, Pl, rfl, _, h1, h2, hk, _, hall⟩
  · exact ⟨_, [], rfl, Sc.nil _ 2 none 0, Nat.zero_le _⟩
  · have hkl : len ≤ k := by rw [hk]; split <;> omega
    have hex : ∀ i, i < len → ∃ d : Dt, w.cells? base (a.add (i * 2)) 2 = some (dcs d) := fun i hi => by
      obtain ⟨cs', e1, e2⟩ := hall i (by omega)
      rw [cellsDot] at e1
      obtain ⟨d, rfl⟩ := trod_dot e2
      exact ⟨d, e1⟩
    obtain ⟨f, hf⟩ := Go.Deep.choose_lt hex
    refine ⟨_, (List.range len).map f, rfl, ⟨?_, some a, cap, by simp, by simpa using h1, ?_⟩, by simp; omega⟩
    · rw [flat_len dcs_len]
    · by_cases h0 : len = 0
      · subst h0; exact .inl rfl
      · refine .inr ?_
        have hc0 := cells_get (hf 0 (by omega)) (j := 0) (u := .int .i64 (f 0).1) rfl
        obtain ⟨b, o, sp⟩ := a
        have hadd : ∀ i j, ((⟨b, o, sp⟩ : Addr).add i).add j = (⟨b, o, sp⟩ : Addr).add (i + j) := fun i j => Go.Deep.add_add _ i j
        rw [hadd] at hc0
        have hblk : ((⟨b, o, sp⟩ : Addr).add (0 * 2 + 0)) = ⟨b, o, sp⟩ := by simp [Addr.add]
        rw [hblk] at hc0
        unfold World.cell? at hc0
        split at hc0
        · rename_i c e fz hb
          split at hc0
          · cases hc0
          · rename_i hsp
            have hsp' : sp = none := by simpa using hsp
            subst hsp'
            refine ⟨b, o, c, e, fz, rfl, hb, fun j u hj => ?_⟩
            have hjl : j < len * 2 := by
              have := (List.getElem?_eq_some_iff.1 hj).1
              rw [flat_len dcs_len] at this
              simpa using this
            have hd : j / 2 < ((List.range len).map f).length := by simp; omega
            have e1 : (((List.range len).map f).flatMap dcs)[j]? = (dcs (f (j / 2)))[j % 2]? := by
              have := flat_at dcs_len ((List.range len).map f) (j / 2) hd
              have e3 : ((List.range len).map f)[j / 2] = f (j / 2) := by simp
              rw [e3] at this
              rw [← this, List.getElem?_take_of_lt (by omega), List.getElem?_drop]
              congr 1; omega
            rw [e1] at hj
            have := cells_get (hf (j / 2) (by omega)) hj
            rw [hadd, Addr.add_off] at this
            unfold World.cell? at this
            simp only [hb] at this
            simp only [Option.isSome_none, Bool.false_eq_true, if_false] at this
            have ej : j / 2 * 2 + j % 2 = j := by omega
            rw [ej] at this
            exact this
        · cases hc0
end
end Go.Proofs.YtaofgcahmfailaaGreatDoor
end

section
namespace Go.Proofs.YtaofgcahmfailaaGreatDoor
open Go Go.Ck Go.ChangeShapes
set_option maxHeartbeats 1000000
theorem cellsByte : Tryz.prog.cellsOf 5 = 1 := by kernel_rfl
theorem bcs_flat (l : List Int) : l.flatMap (fun n => [Value.int .u8 n]) = bcs l := by
  induction l with
  | nil => rfl
  | cons x l ih => rw [List.flatMap_cons, ih]; rfl
theorem trod_bs {H : Type} {enc : TypeId × Value → H} {w : World} {base : Nat} {spare : Nat → Bool} {held : Bool} {m : Nat} {cs : List Value} {y : DataW H × List MemPlace} (h : DataW.trod enc Tryz.prog w base spare held m 33 cs = some y) :
    ∃ (v : Value) (l : List Int), cs = [v] ∧ Bs8 (fun b => w.heap[b]?) v l ∧ Bytes l ∧ l.length ≤ maxLen := by
  obtain ⟨v, l, h1, h2, h3, h4⟩ := trod_slice_of (en := fun n : Int => [Value.int .u8 n]) (R := fun n => 0 ≤ n ∧ n < 256) Tryz.underlying33 cellsByte (by decide) (fun _ => rfl) (fun m cs y hy => by
    obtain ⟨n, e1, _, e3⟩ := DataW.trod_int Tryz.underlying5 hy
    obtain ⟨q1, q2⟩ := (Lit.wf_int_iff .u8 n).1 e3
    have m1 : IntKind.u8.min = 0 := by decide
    have m2 : IntKind.u8.max = 255 := by decide
    exact ⟨n, ⟨by omega, by omega⟩, e1⟩) h
  rw [bcs_flat] at h2
  exact ⟨v, l, h1, h2, h4, h3⟩
end Go.Proofs.YtaofgcahmfailaaGreatDoor
end

section
namespace Go.Proofs.YtaofgcahmfailaaGreatDoor
open Go Go.Ck Go.ChangeShapes
set_option maxHeartbeats 1000000
theorem cellsStr : Tryz.prog.cellsOf 9 = 1 := by kernel_rfl
theorem cellsRs : Tryz.prog.cellsOf 77 = 20 := by kernel_rfl
section
variable {H : Type} {enc : TypeId × Value → H} {w : World} {base : Nat} {spare : Nat → Bool} {held : Bool}
theorem trod_cxc {m : Nat} {cs : List Value} {y : DataW H × List MemPlace} (h : DataW.trod enc Tryz.prog w base spare held m 37 cs = some y) : ∃ (u : List Int) (l : List Dt) (mv : Value), u.length = 16 ∧ cs = cxc u mv ∧ Ds (fun b => w.heap[b]?) mv l ∧ l.length ≤ maxLen := by
  obtain ⟨hl, hf⟩ := trod_fields Tryz.underlying37 h
  rw [cellsCx] at hl
  obtain ⟨m1, y1, h1⟩ := hf _ (List.mem_cons_self ..)
  obtain ⟨m2, y2, h2⟩ := hf _ (List.mem_cons_of_mem _ (List.mem_cons_self ..))
  rw [cellsArr] at h1
  rw [cellsSl] at h2
  obtain ⟨u, hu, e1⟩ := trod_up h1
  obtain ⟨mv, l, e2, hs, hlm⟩ := trod_ds h2
  refine ⟨u, l, mv, hu, ?_, hs, hlm⟩
  have e3 : cs = (cs.drop 0).take 16 ++ (cs.drop 16).take 1 := by
    rw [List.drop_zero]
    have e4 : (cs.drop 16).take 1 = cs.drop 16 := List.take_of_length_le (by simp; omega)
    rw [e4, List.take_append_drop]
  rw [e3, e1, e2]
  rfl
theorem bytes_of_string (s : ByteArray) : ∃ b : List Int, Bytes b ∧ bstr b = s ∧ b.length = s.size := by
  refine ⟨s.data.toList.map fun x => (x.toNat : Int), fun b hb => ?_, ?_, by simp⟩
  · obtain ⟨x, _, rfl⟩ := List.mem_map.1 hb
    have := x.toNat_lt
    constructor <;> omega
  · unfold bstr
    rw [List.map_map]
    have : ((fun n : Int => UInt8.ofNat n.toNat) ∘ fun x : UInt8 => (x.toNat : Int)) = id := by
      funext x
      simp
    rw [this, List.map_id]
theorem trod_rs1 {m : Nat} {cs : List Value} {y : DataW H × List MemPlace} (h : DataW.trod enc Tryz.prog w base spare held m 77 cs = some y) : ∃ x : Sb, (Rv (fun b => w.heap[b]?) x ∧ x.l.length ≤ maxLen ∧ x.b.length ≤ maxLen) ∧ cs = sbc x := by
  obtain ⟨hl, hf⟩ := trod_fields Tryz.underlying77 h
  rw [cellsRs] at hl
  obtain ⟨m1, y1, h1⟩ := hf _ (List.mem_cons_self ..)
  obtain ⟨m2, y2, h2⟩ := hf _ (List.mem_cons_of_mem _ (List.mem_cons_self ..))
  obtain ⟨m3, y3, h3⟩ := hf _ (List.mem_cons_of_mem _ (List.mem_cons_of_mem _ (List.mem_cons_self ..)))
  rw [cellsDot] at h1
  rw [cellsCx] at h2
  rw [cellsStr] at h3
  obtain ⟨d, e1⟩ := trod_dot h1
  obtain ⟨u, l, mv, hu, e2, hds, hll⟩ := trod_cxc h2
  obtain ⟨s, e3, _, hs⟩ := DataW.trod_string Tryz.underlying9 h3
  obtain ⟨b, hb, hbs, hbl⟩ := bytes_of_string s
  refine ⟨⟨d, u, hu, l, mv, b, .string s⟩, ⟨⟨hds, by rw [hbs], hb⟩, hll, by show b.length ≤ maxLen; rw [hbl]; exact hs⟩, ?_⟩
  have q : cs = (cs.drop 0).take 2 ++ ((cs.drop 2).take 17 ++ (cs.drop 19).take 1) := by
    rw [List.drop_zero]
    have e4 : (cs.drop 19).take 1 = cs.drop 19 := List.take_of_length_le (by simp; omega)
    have e5 : (cs.drop 2).take 17 ++ cs.drop 19 = cs.drop 2 := by
      have : cs.drop 19 = (cs.drop 2).drop 17 := by rw [List.drop_drop]
      rw [this, List.take_append_drop]
    rw [e4, e5, List.take_append_drop]
  rw [q]
  show _ = dcs d ++ (cxc u mv ++ [.string s])
  rw [← e3, ← e2, ← e1]
theorem trod_rs {m : Nat} {cs : List Value} {y : DataW H × List MemPlace} (h : DataW.trod enc Tryz.prog w base spare held m 39 cs = some y) :
    ∃ (v : Value) (l : List Sb), cs = [v] ∧ Rs (fun b => w.heap[b]?) v l ∧ l.length ≤ maxLen ∧ ∀ x ∈ l, x.l.length ≤ maxLen ∧ x.b.length ≤ maxLen := by
  obtain ⟨v, l, h1, h2, h3, h4⟩ := trod_slice_of (en := sbc) (R := fun x => Rv (fun b => w.heap[b]?) x ∧ x.l.length ≤ maxLen ∧ x.b.length ≤ maxLen) Tryz.underlying39 cellsRs (by decide) sbc_len (fun m cs y hy => trod_rs1 hy) h
  exact ⟨v, l, h1, ⟨h2, fun x hx => (h4 x hx).1⟩, h3, fun x hx => (h4 x hx).2⟩
end
end Go.Proofs.YtaofgcahmfailaaGreatDoor
end
