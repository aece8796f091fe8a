/-
  Part 19 of a proof: CmF CmG CmI CmH CmJ.
  Conditions: each theorem states its own.
-/
import Derived.Test.YtaofgcahmfailaaGreatDoorCmNPM18
set_option maxRecDepth 100000
set_option linter.unusedVariables false
set_option linter.unusedSimpArgs false
section
namespace Go.Proofs.YtaofgcahmfailaaGreatDoor
open Go Go.Ck
set_option maxHeartbeats 4000000
theorem r15_sp (w0 : World) (h0 : View) (R1 R2 R3 R4 R5 R6 : Res) (v0 v3 v6 v7 v8 : Value) (k : Bool) (bW bv c1 c2 d1 d2 b9 b12 : Nat) (lv : Value) (ep ct : Int) (m1 : Nat) (Kk : List (ByteArray × Value)) (key : List Int) (bn bu bt : Nat) (N : List (List Int)) (U : List UseK) (T : Tab) (ac : ActD)
    (adv : Option Addr) (m capv : Nat) (val : List Int) (adm : Option Addr) (j capm : Nat) (lq : List Dt)
    (hep : 1 ≤ ep ∧ ep ≤ 1048576) (hct : 0 ≤ ct ∧ ct < 1000) (hK : ∀ nm, ∃ n : Int, numK Kk nm n ∧ 0 ≤ n ∧ n < 1000) (hk : Bytes key) (hk32 : key.length = 32) (hN : Names N) (hNl : N.length < 900000) (hU : U.length < 900000) (hT : Held U T) (hnew : (idK k, ct + 1) ∉ U)
    (yv : Bytes val) (hvl : val.length ≤ 3999) (hl : lq.length ≤ 1000000) (h2 : View) (hv2 : Vb h2 bv true key bn bu bt) (hsv : Bs8 h2 (.slice adv m capv) val) (hds : Ds h2 (.slice adm j capm) lq) (L0 : List Res)
    (hL0 : L0 = [Res.blk b12 (.cells (cxc ac.u (.slice adm j capm)).toArray 37 (0, 0)), wlR bW bv c1 c2 d1 d2 lv, Res.blk b9 (.cells (acc ac).toArray 41 (0, 0)), clR (ccK c1 c2 k) (idK k) bv ep ct m1, cmR m1 Kk, nmR bn N, usR bu U, tbR bt T, R1, R2, R3, R4, R5, R6]) :
    CX Tryz.prog 327 ⟨w0, h0, []⟩ (cGet (cReg 15 (cGet Tryz.f5.body))) [(0, v0), (3, v3), (5, .pointer (some ⟨bW, 0, none⟩)), (6, v6), (7, v7), (8, v8), (9, .pointer (some ⟨b9, 0, none⟩)), (10, .int .i64 (kkI k)), (11, .slice adv m capv), (12, .pointer (some ⟨b12, 0, none⟩))] h2 L0
      (PEnds (X := W2 × Nat × Nat) 327 ⟨w0, h0, []⟩ (fun y => [(0, v0), (3, v3), (5, .pointer (some ⟨bW, 0, none⟩)), (6, v6), (7, v7), (8, v8), (9, .pointer (some ⟨b9, 0, none⟩)), (10, .int .i64 (kkI k)), (11, .slice adv m capv), (12, .pointer (some ⟨b12, 0, none⟩)), (13, .pointer (some ⟨y.2.1, 0, none⟩)), (14, .pointer (some ⟨y.2.2, 0, none⟩)), (15, .int .i64 y.1.er)]) (fun y => y.1.hh)
        (fun y => [Res.blk b12 (.cells (cxc ac.u (.slice adm j capm)).toArray 37 (0, 0)), wlR bW bv c1 c2 d1 d2 lv, Res.blk b9 (.cells (acc ac).toArray 41 (0, 0)), clR (ccK c1 c2 k) (idK k) bv ep y.1.ct m1, cmR m1 y.1.K, nmR bn y.1.N, usR bu y.1.U, tbR bt y.1.T, R1, R2, R3, R4, R5, R6, Res.blk y.2.2 (.cells (sbc y.1.g).toArray 47 (0, 0))])
        (fun y => Le h2 y.1.hh ∧ W2Ok key (nmB ac.name) val (idK k) ep ct Kk N U T ac.del ac.u lq y.1)) := by
  subst hL0
  have hid : 1 ≤ idK k ∧ idK k ≤ 16 := by cases k <;> decide
  have hkk : (0 : Int) ≤ kkI k ∧ kkI k < 2 := by cases k <;> decide
  refine cx_region_floatV [Res.blk b12 (.cells (cxc ac.u (.slice adm j capm)).toArray 37 (0, 0)), wlR bW bv c1 c2 d1 d2 lv, Res.blk b9 (.cells (acc ac).toArray 41 (0, 0))] [8, 13, 14, 19, 20, 21, 22, 23] [0, 1, 2, 3, 4, 5, 6, 7, 8, 9, 10, 11, 12, 13, 14, 15, 16, 17, 18] [(19, 13, fun b => .pointer (some ⟨b, 0, none⟩), .cells (bcs (List.replicate 32 0)).toArray 43 (0, 0)), (20, 14, fun b => .pointer (some ⟨b, 0, none⟩), .cells (sbc zSb).toArray 47 (0, 0))] [21, 22, 23] rfl (by kernel_rfl) ?_
  intro D ys hD
  refine gx_with (List.forall_mem_cons.2 ⟨⟨rfl, rfl, rfl, by kernel_rfl, fun _ _ _ => MA.cast (ybc (T := 43)) rfl⟩, List.forall_mem_cons.2 ⟨⟨rfl, rfl, rfl, by kernel_rfl, fun _ _ _ => MA.cast (ybc (T := 47)) rfl⟩, fun y hy => (by cases hy)⟩⟩) (by decide) (fun hok hnd => ?_)
  iterate 8
    refine gx_q rfl ?_
    repeat' (refine ycf ?_;(first|(first|(apply ybm;(·(first|(first|exact tk_|(apply qv_nilCheck;rfl))|(apply yae;(·rfl);(·(first|exact cellat_eq (wl_cl (yaz 1 rfl) k rfl) (by omega)|exact ac_name (yaz 2 rfl))))|exact tq_));(·rfl);(·rfl);(·(exact hd_l (Le.refl h2) (fun r hr => List.mem_append_left _ (tm3T hr)))))|refine ybl rfl rfl ?_|((fail_if_success (refine ybi rfl ?_));refine ybj rfl ?_ ?_<;>(intro ht;rw [ht];first|replace ht := oet_ ht|replace ht := oef_ ht|skip))|(refine tb_ ?_ ?_ ?_;(·(first|exact ybf|(refine .inl ?_;(exact hd_l (Le.refl h2) (fun r hr => List.mem_append_left _ (tm3T hr))))|exact to_));(·intro _;(first|exact ybf|(refine .inl ?_;(exact hd_l (Le.refl h2) (fun r hr => List.mem_append_left _ (tm3T hr))))|exact to_));intro _)|(first|(refine tqs_ ?_ ?_ ?_;(·(first|exact ybf|(refine .inl ?_;(exact hd_l (Le.refl h2) (fun r hr => List.mem_append_left _ (tm3T hr))))|exact to_));(·(first|exact ybf|(refine .inl ?_;(exact hd_l (Le.refl h2) (fun r hr => List.mem_append_left _ (tm3T hr))))|exact to_))))|(apply ybn;(·(first|(first|exact tk_|(apply qv_nilCheck;rfl))|(apply yae;(·rfl);(·(first|exact cellat_eq (wl_cl (yaz 1 rfl) k rfl) (by omega)|exact ac_name (yaz 2 rfl))))|exact tq_));(·rfl);(·rfl);(·rfl);(·(first|exact ybf|(refine .inl ?_;(exact hd_l (Le.refl h2) (fun r hr => List.mem_append_left _ (tm3T hr))))|exact to_))))|refine ycg ?_))
    refine gx_putn ?_
  refine gx_step hok hnd rfl rfl (fun D w s => hd_l (Le.refl h2) (fun r hr => List.mem_append_left _ (tm3T hr)) w s) (fun D ys hD => ?_) _ _ hD
  (refine yco (ycp Tryz.func14 rfl (by kernel_rfl) rfl) (name7_sp ac.name h2) rfl rfl rfl ?_ ?_ ?_;(·(first|exact ybf|(refine .inl ?_;(first|exact hd_l (Le.refl h2) (fun r hr => List.mem_append_left _ (tm3T hr))|exact hd_l hle (fun r hr => List.mem_append_right [] (List.mem_append_left _ (tm3T hr)))))|exact to_));(·intro _ _ hle;(first|exact ybf|(refine .inl ?_;(first|exact hd_l (Le.refl h2) (fun r hr => List.mem_append_left _ (tm3T hr))|exact hd_l hle (fun r hr => List.mem_append_right [] (List.mem_append_left _ (tm3T hr)))))|exact to_));intro x px hle)
  obtain ⟨h3, vn⟩ := x
  dsimp only at px hle ⊢
  have hle3 : Le h2 h3 := hle
  have hn3 : Bs8 h3 vn (nmB ac.name) := px
  clear px hle
  obtain ⟨adn, capn, rfl⟩ : ∃ a c, vn = .slice a (nmB ac.name).length c := by obtain ⟨_, a, c, e, _⟩ := hn3; exact ⟨a, c, e⟩
  refine ycg ?_
  refine gx_putcn ?_
  iterate 4
    refine gx_q rfl ?_
    repeat' (refine ycf ?_;(first|(first|(apply ybm;(·(first|(first|exact tk_|(apply yad;(·rfl);(·exact yaz 0 rfl);(·exact ycj ac.hu)))|(apply yae;(·rfl);(·(first|exact ac_del (yaz 2 rfl))))|exact tq_));(·rfl);(·rfl);(·(exact hd_l hle3 (fun r hr => List.mem_append_left _ (tm3T hr)))))|refine ybl rfl rfl ?_|((fail_if_success (refine ybi rfl ?_));refine ybj rfl ?_ ?_<;>(intro ht;rw [ht];first|replace ht := oet_ ht|replace ht := oef_ ht|skip))|(refine tb_ ?_ ?_ ?_;(·(first|exact ybf|(refine .inl ?_;(exact hd_l hle3 (fun r hr => List.mem_append_left _ (tm3T hr))))|exact to_));(·intro _;(first|exact ybf|(refine .inl ?_;(exact hd_l hle3 (fun r hr => List.mem_append_left _ (tm3T hr))))|exact to_));intro _)|(first|(refine tqs_ ?_ ?_ ?_;(·(first|exact ybf|(refine .inl ?_;(exact hd_l hle3 (fun r hr => List.mem_append_left _ (tm3T hr))))|exact to_));(·(first|exact ybf|(refine .inl ?_;(exact hd_l hle3 (fun r hr => List.mem_append_left _ (tm3T hr))))|exact to_))))|(apply ybn;(·(first|(first|exact tk_|(apply yad;(·rfl);(·exact yaz 0 rfl);(·exact ycj ac.hu)))|(apply yae;(·rfl);(·(first|exact ac_del (yaz 2 rfl))))|exact tq_));(·rfl);(·rfl);(·rfl);(·(first|exact ybf|(refine .inl ?_;(exact hd_l hle3 (fun r hr => List.mem_append_left _ (tm3T hr))))|exact to_))))|refine ycg ?_))
    refine gx_putn ?_
  refine gx_step hok hnd rfl rfl (fun D w s => hd_l hle3 (fun r hr => List.mem_append_left _ (tm3T hr)) w s) (fun D ys hD => ?_) _ _ hD
  (refine yco (ycp Tryz.func15 rfl (by kernel_rfl) rfl) (ctx7_sp (cxv ac.u (.slice adm j capm)) ac.u lq h3 ⟨ac.hu, _, rfl, hds.mono hle3⟩ (by omega)) rfl rfl rfl ?_ ?_ ?_;(·(first|exact ybf|(refine .inl ?_;(first|exact hd_l hle3 (fun r hr => List.mem_append_left _ (tm3T hr))|exact hd_l (hle3.trans hle) (fun r hr => List.mem_append_right [] (List.mem_append_left _ (tm3T hr)))))|exact to_));(·intro _ _ hle;(first|exact ybf|(refine .inl ?_;(first|exact hd_l hle3 (fun r hr => List.mem_append_left _ (tm3T hr))|exact hd_l (hle3.trans hle) (fun r hr => List.mem_append_right [] (List.mem_append_left _ (tm3T hr)))))|exact to_));intro x px hle)
  obtain ⟨h4, v4⟩ := x
  dsimp only at px hle ⊢
  have hle4 : Le h3 h4 := hle
  have hc4 : Cx h4 v4 ac.u lq := px
  clear px hle
  obtain ⟨hu4, mv4, rfl, hd4⟩ := id hc4
  refine ycg ?_
  refine gx_putcn ?_
  have hle24 : Le h2 h4 := hle3.trans hle4
  refine gx_step hok hnd rfl rfl (fun D w s => hd_l hle24 (fun r hr => List.mem_append_left _ (tm3T hr)) w s) (fun D ys hD => ?_) _ _ hD
  have W := CWriteT_sp (ccK c1 c2 k) (idK k) bv ep ct m1 Kk key bn bu bt N U T (nmB ac.name) val ac.del ac.u lq _ (.slice adv m capv) _ hid hep hct hK hk hk32 hN hNl hU hT hnew (nmB_by _) (nmB_len _).1 yv hvl hl h4 (hv2.mono hle24) (hn3.mono hle4) (hsv.mono hle24) hc4
  refine rx_call_l (ycp Tryz.func9 rfl (by kernel_rfl) rfl) (pick5 3 3 3 3 3 rfl rfl rfl rfl rfl) W rfl rfl rfl (.inl (hd_l hle24 (fun r hr => List.mem_append_left _ (tm3T hr)))) (fun _ _ hl => .inl (hd_l (hle24.trans hl) (fun r hr => List.mem_append_right _ (List.mem_append_left _ (tm3T hr))))) ?_
  rintro ⟨h5, bl, g, er, ct', K', N', U', T'⟩ hW hle5
  dsimp only at hW hle5 ⊢
  clear W
  obtain ⟨hbl, hgv, hcase⟩ := id hW
  dsimp only at hbl hgv hcase
  have hob : (bcs bl).length = 32 := by rw [bcs_len, hbl]
  have hgl := sbc_len g
  have hgo := hgv.one
  have hle25 : Le h2 h5 := hle24.trans hle5
  refine rx_perm (L' := [Res.blk b12 (.cells (cxc ac.u (.slice adm j capm)).toArray 37 (0, 0)), wlR bW bv c1 c2 d1 d2 lv, Res.blk b9 (.cells (acc ac).toArray 41 (0, 0)), clR (ccK c1 c2 k) (idK k) bv ep ct' m1, cmR m1 K', nmR bn N', usR bu U', tbR bt T', R1, R2, R3, R4, R5, R6] ++ LDy D) (List.perm_append_comm_assoc [clR (ccK c1 c2 k) (idK k) bv ep ct' m1, cmR m1 K', nmR bn N', usR bu U', tbR bt T'] [Res.blk b12 (.cells (cxc ac.u (.slice adm j capm)).toArray 37 (0, 0)), wlR bW bv c1 c2 d1 d2 lv, Res.blk b9 (.cells (acc ac).toArray 41 (0, 0))] ([R1, R2, R3, R4, R5, R6] ++ LDy D)) ?_
  refine ycg ?_
  refine gx_putn ?_
  iterate 4
    refine gx_q rfl ?_
    repeat' (refine ycf ?_;(first|(first|(apply ybm;(·(first|(exact tk_)|exact tq_));(·rfl);(·rfl);(·(exact hd_l hle25 (fun r hr => List.mem_append_left _ (tm3T hr)))))|refine ybl rfl rfl ?_|((fail_if_success (refine ybi rfl ?_));refine ybj rfl ?_ ?_<;>(intro ht;rw [ht];first|replace ht := oet_ ht|replace ht := oef_ ht|skip))|(refine tb_ ?_ ?_ ?_;(·(first|exact ybf|(refine .inl ?_;(exact hd_l hle25 (fun r hr => List.mem_append_left _ (tm3T hr))))|exact to_));(·intro _;(first|exact ybf|(refine .inl ?_;(exact hd_l hle25 (fun r hr => List.mem_append_left _ (tm3T hr))))|exact to_));intro _)|(first|(refine tqs_ ?_ ?_ ?_;(·(first|exact ybf|(refine .inl ?_;(exact hd_l hle25 (fun r hr => List.mem_append_left _ (tm3T hr))))|exact to_));(·(first|exact ybf|(refine .inl ?_;(exact hd_l hle25 (fun r hr => List.mem_append_left _ (tm3T hr))))|exact to_))))|(apply ybn;(·(first|(exact tk_)|exact tq_));(·rfl);(·rfl);(·rfl);(·(first|exact ybf|(refine .inl ?_;(exact hd_l hle25 (fun r hr => List.mem_append_left _ (tm3T hr))))|exact to_))))|refine ycg ?_))
    refine gx_putn ?_
  refine gx_end hok hnd rfl rfl (fun D w s => hd_l hle25 (fun r hr => List.mem_append_left _ (tm3T hr)) w s) (fun D hD => ?_) _ _ hD
  obtain ⟨b13, b14, rfl⟩ := two hD
  refine rx_to (F' := [(103, .agg (bcs bl).toArray), (104, sbv g), (105, .int .i64 er), (0, v0), (3, v3), (5, .pointer (some ⟨bW, 0, none⟩)), (6, v6), (7, v7), (8, v8), (9, .pointer (some ⟨b9, 0, none⟩)), (10, .int .i64 (kkI k)), (11, .slice adv m capv), (12, .pointer (some ⟨b12, 0, none⟩)), (13, .pointer (some ⟨b13, 0, none⟩)), (14, .pointer (some ⟨b14, 0, none⟩))]) (L' := [Res.blk b12 (.cells (cxc ac.u (.slice adm j capm)).toArray 37 (0, 0)), wlR bW bv c1 c2 d1 d2 lv, Res.blk b9 (.cells (acc ac).toArray 41 (0, 0)), clR (ccK c1 c2 k) (idK k) bv ep ct' m1, cmR m1 K', nmR bn N', usR bu U', tbR bt T', R1, R2, R3, R4, R5, R6, Res.blk b13 (.cells (bcs (List.replicate 32 0)).toArray 43 (0, 0)), Res.blk b14 (.cells (sbc zSb).toArray 47 (0, 0))]) ts_ rfl ?_
  repeat' (refine ycf ?_;(first|(first|(apply ybm;(·exact tq_);(·rfl);(·rfl);(·(exact hd_l hle25 (fun r hr => tm3T hr))))|refine ybl rfl rfl ?_|((fail_if_success (refine ybi rfl ?_));refine ybj rfl ?_ ?_<;>(intro ht;rw [ht];first|replace ht := oet_ ht|replace ht := oef_ ht|skip))|(refine tb_ ?_ ?_ ?_;(·(first|exact ybf|(refine .inl ?_;(exact hd_l hle25 (fun r hr => tm3T hr)))|exact to_));(·intro _;(first|exact ybf|(refine .inl ?_;(exact hd_l hle25 (fun r hr => tm3T hr)))|exact to_));intro _)|(first|(first|(refine ybg 14 rfl rfl rfl (by show (bcs bl).toArray.size = 32;simpa using hob) (by show 0 + (bcs bl).toArray.size ≤ 32;rw [List.size_toArray, hob];omega) (List.all_eq_true.2 (bcs_one bl)) (ybh (by show (bcs bl).length = 32;rw [hob])) rfl rfl ?_ ?_ ?_;(·(first|exact ybf|(refine .inl ?_;(exact hd_l hle25 (fun r hr => tm3T hr)))|exact to_));(·(first|exact ybf|(refine .inl ?_;(exact hd_l hle25 (fun r hr => tm3T hr)))|exact to_)))|(refine ybg 15 rfl rfl rfl (sbc_sz g) (sbc_fit rfl) (sbc_one hgo.1 hgo.2) (ybh (sbc_all rfl)) rfl rfl ?_ ?_ ?_;(·(first|exact ybf|(refine .inl ?_;(exact hd_l hle25 (fun r hr => tm3T hr)))|exact to_));(·(first|exact ybf|(refine .inl ?_;(exact hd_l hle25 (fun r hr => tm3T hr)))|exact to_))))|(refine tqs_ ?_ ?_ ?_;(·(first|exact ybf|(refine .inl ?_;(exact hd_l hle25 (fun r hr => tm3T hr)))|exact to_));(·(first|exact ybf|(refine .inl ?_;(exact hd_l hle25 (fun r hr => tm3T hr)))|exact to_))))|(apply ybn;(·exact tq_);(·rfl);(·rfl);(·rfl);(·(first|exact ybf|(refine .inl ?_;(exact hd_l hle25 (fun r hr => tm3T hr)))|exact to_))))|refine ycg ?_))
  exact nx_ends (⟨h5, bl, g, er, ct', K', N', U', T'⟩, b13, b14) ⟨hle25, hW⟩ ts_ (fun _ s => s.picks [0, 0, 0, 0, 0, 0, 0, 0, 0, 0, 0, 0, 0, 0, 1])
end Go.Proofs.YtaofgcahmfailaaGreatDoor
end

section
namespace Go.Proofs.YtaofgcahmfailaaGreatDoor
open Go Go.Ck
set_option maxHeartbeats 4000000
theorem tm4T {A B C D r : Res} {L : List Res} (h : r ∈ [A, B, C, D]) : r ∈ A :: B :: C :: D :: L := by
  simp only [List.mem_cons, List.not_mem_nil, or_false] at h ⊢
  rcases h with h | h | h | h
  · exact .inl h
  · exact .inr (.inl h)
  · exact .inr (.inr (.inl h))
  · exact .inr (.inr (.inr (.inl h)))
def zRv : Vl := ⟨(0, 0), 0, zeroU, rfl, [], .slice none 0 0, false, [], .string ⟨#[]⟩⟩
theorem oneT {y1 : Flo} {D : List (Flo × Nat)} (h : D.map (·.1) = [y1]) : ∃ b1, D = [(y1, b1)] := by
  obtain ⟨p1, D1, rfl, h1, h2⟩ := List.map_eq_cons_iff.1 h
  obtain rfl := List.map_eq_nil_iff.1 h2
  exact ⟨p1.2, by rw [← h1]⟩
theorem sb_dotT {h : View} {L : List Res} {b : Nat} {s : Sb} (c : Cells h L ⟨b, 0, none⟩ (sbc s)) : Cells h L ⟨b, 0 + 0, none⟩ (dcs s.d) := c.take 2
theorem r17_sp (w0 : World) (h0 : View) (R1 R2 R3 R4 R5 R6 R7 R8 R9 R10 : Res) (v0 v3 v6 v7 v8 : Value) (k : Bool) (bW bv c1 c2 d1 d2 b9 b12 b14 : Nat) (lv : Value) (ep ct : Int) (m1 : Nat) (ac : ActD) (g : Sb)
    (adv : Option Addr) (m capv : Nat) (val : List Int) (adm : Option Addr) (j capm : Nat) (lq : List Dt) (yv : Bytes val) (h2 : View) (hsv : Bs8 h2 (.slice adv m capv) val) (hds : Ds h2 (.slice adm j capm) lq) (L0 : List Res)
    (hL0 : L0 = [Res.blk b14 (.cells (sbc g).toArray 47 (0, 0)), Res.blk b12 (.cells (cxc ac.u (.slice adm j capm)).toArray 37 (0, 0)), wlR bW bv c1 c2 d1 d2 lv, Res.blk b9 (.cells (acc ac).toArray 41 (0, 0)), clR (ccK c1 c2 k) (idK k) bv ep ct m1, R1, R2, R3, R4, R5, R6, R7, R8, R9, R10]) :
    CX Tryz.prog 327 ⟨w0, h0, []⟩ (cGet (cReg 17 (cGet Tryz.f5.body))) [(0, v0), (3, v3), (5, .pointer (some ⟨bW, 0, none⟩)), (6, v6), (7, v7), (8, v8), (9, .pointer (some ⟨b9, 0, none⟩)), (10, .int .i64 (kkI k)), (11, .slice adv m capv), (12, .pointer (some ⟨b12, 0, none⟩)), (14, .pointer (some ⟨b14, 0, none⟩))] h2 L0
      (PEnds (X := Nat) 327 ⟨w0, h0, []⟩ (fun y => [(0, v0), (3, v3), (5, .pointer (some ⟨bW, 0, none⟩)), (6, v6), (7, v7), (8, v8), (9, .pointer (some ⟨b9, 0, none⟩)), (14, .pointer (some ⟨b14, 0, none⟩)), (16, .pointer (some ⟨y, 0, none⟩))]) (fun y => h2)
        (fun y => [Res.blk y (.cells (vlc ⟨g.d, ep, ac.u, ac.hu, lq, .slice adm j capm, ac.del, val, .string (bstr val)⟩).toArray 67 (0, 0)), Res.blk b14 (.cells (sbc g).toArray 47 (0, 0)), Res.blk b12 (.cells (cxc ac.u (.slice adm j capm)).toArray 37 (0, 0)), wlR bW bv c1 c2 d1 d2 lv, Res.blk b9 (.cells (acc ac).toArray 41 (0, 0)), clR (ccK c1 c2 k) (idK k) bv ep ct m1, R1, R2, R3, R4, R5, R6, R7, R8, R9, R10])
        (fun y => True)) := by
  subst hL0
  have hkk : (0 : Int) ≤ kkI k ∧ kkI k < 2 := by cases k <;> decide
  obtain ⟨z, hz⟩ : ∃ z : Vl, z = ⟨g.d, ep, ac.u, ac.hu, lq, .slice adm j capm, ac.del, val, .string (bstr val)⟩ := ⟨_, rfl⟩
  have hzl := vlc_len z
  have hfz : fillL (fun i : Nat => ([(0, 2), (2, 1), (3, 17), (20, 1), (21, 1)] : List (Nat × Nat))[i]?) ([.int .i64 0, .int .i64 0, .int .i64 0] ++ (up zeroU ++ [.slice none 0 0, .bool false, .string ⟨#[]⟩])) [(0, .agg (dcs g.d).toArray), (1, .int .i64 ep), (2, .agg (cxc ac.u (.slice adm j capm)).toArray), (3, .bool ac.del), (4, .string (bstr val))] = some (vlc z) := by rw [hz]; exact fill_rv ac.hu
  have hzo : (Value.agg (vlc z).toArray).cells.toList.all Value.oneCell' = true := by
    have h3 : Vr h2 z := by rw [hz]; exact ⟨hds, rfl⟩
    exact h3.one
  rw [← hz]
  refine cx_region_floatV [Res.blk b14 (.cells (sbc g).toArray 47 (0, 0)), Res.blk b12 (.cells (cxc ac.u (.slice adm j capm)).toArray 37 (0, 0)), wlR bW bv c1 c2 d1 d2 lv, Res.blk b9 (.cells (acc ac).toArray 41 (0, 0))] [8, 15, 16] [0, 1, 2, 3, 4, 5, 6, 7, 8, 9, 10, 11, 12, 13, 14] [(15, 16, fun b => .pointer (some ⟨b, 0, none⟩), .cells (vlc zRv).toArray 67 (0, 0))] [16] rfl (by kernel_rfl) ?_
  intro D ys hD
  refine gx_with (List.forall_mem_cons.2 ⟨⟨rfl, rfl, rfl, by kernel_rfl, fun _ _ _ => MA.cast (ybc (T := 67)) rfl⟩, fun y hy => (by cases hy)⟩) (by decide) (fun hok hnd => ?_)
  iterate 8
    refine gx_q rfl ?_
    repeat' (refine ycf ?_;(first|(first|(apply ybm;(·(first|(first|exact tk_|(apply qv_nilCheck;rfl)|(apply yad;(·rfl);(·exact sb_dotT (yaz 0 rfl));(·rfl)))|(apply yae;(·rfl);(·(exact cellat_eq (wl_cl (yaz 2 rfl) k rfl) (by omega))))|exact tq_));(·rfl);(·rfl);(·(exact hd_l (Le.refl h2) (fun r hr => List.mem_append_left _ (tm4T hr)))))|refine ybl rfl rfl ?_|((fail_if_success (refine ybi rfl ?_));refine ybj rfl ?_ ?_<;>(intro ht;rw [ht];first|replace ht := oet_ ht|replace ht := oef_ ht|skip))|(refine tb_ ?_ ?_ ?_;(·(first|exact ybf|(refine .inl ?_;(exact hd_l (Le.refl h2) (fun r hr => List.mem_append_left _ (tm4T hr))))|exact to_));(·intro _;(first|exact ybf|(refine .inl ?_;(exact hd_l (Le.refl h2) (fun r hr => List.mem_append_left _ (tm4T hr))))|exact to_));intro _)|(first|(refine tqs_ ?_ ?_ ?_;(·(first|exact ybf|(refine .inl ?_;(exact hd_l (Le.refl h2) (fun r hr => List.mem_append_left _ (tm4T hr))))|exact to_));(·(first|exact ybf|(refine .inl ?_;(exact hd_l (Le.refl h2) (fun r hr => List.mem_append_left _ (tm4T hr))))|exact to_))))|(apply ybn;(·(first|(first|exact tk_|(apply qv_nilCheck;rfl)|(apply yad;(·rfl);(·exact sb_dotT (yaz 0 rfl));(·rfl)))|(apply yae;(·rfl);(·(exact cellat_eq (wl_cl (yaz 2 rfl) k rfl) (by omega))))|exact tq_));(·rfl);(·rfl);(·rfl);(·(first|exact ybf|(refine .inl ?_;(exact hd_l (Le.refl h2) (fun r hr => List.mem_append_left _ (tm4T hr))))|exact to_))))|refine ycg ?_))
    refine gx_putn ?_
  refine gx_step hok hnd rfl rfl (fun D w s => hd_l (Le.refl h2) (fun r hr => List.mem_append_left _ (tm4T hr)) w s) (fun D ys hD => ?_) _ _ hD
  have W := Epoch_sp (ccK c1 c2 k) (idK k) bv ep ct m1 h2
  refine rx_call_l (ycp Tryz.func19 rfl (by kernel_rfl) rfl) (pick1 4 rfl) W rfl rfl rfl (.inl (hd_l (Le.refl h2) (fun r hr => List.mem_append_left _ (tm4T hr)))) (fun _ _ hl => .inl (hd_l (Le.refl h2) (fun r hr => List.mem_append_right _ (tm4T hr)))) ?_
  intro _ _ _
  refine rx_perm (L' := [Res.blk b14 (.cells (sbc g).toArray 47 (0, 0)), Res.blk b12 (.cells (cxc ac.u (.slice adm j capm)).toArray 37 (0, 0)), wlR bW bv c1 c2 d1 d2 lv, Res.blk b9 (.cells (acc ac).toArray 41 (0, 0)), clR (ccK c1 c2 k) (idK k) bv ep ct m1, R1, R2, R3, R4, R5, R6, R7, R8, R9, R10] ++ LDy D) (List.perm_append_comm_assoc [clR (ccK c1 c2 k) (idK k) bv ep ct m1] [Res.blk b14 (.cells (sbc g).toArray 47 (0, 0)), Res.blk b12 (.cells (cxc ac.u (.slice adm j capm)).toArray 37 (0, 0)), wlR bW bv c1 c2 d1 d2 lv, Res.blk b9 (.cells (acc ac).toArray 41 (0, 0))] ([R1, R2, R3, R4, R5, R6, R7, R8, R9, R10] ++ LDy D)) ?_
  refine ycg ?_
  refine gx_putn ?_
  iterate 6
    refine gx_q rfl ?_
    repeat' (refine ycf ?_;(first|(first|(apply ybm;(·(first|(first|exact tk_|(apply yad;(·rfl);(·exact yaz 1 rfl);(·exact ycj ac.hu))|(exact qv_str_bs rfl hsv)|(apply yax (cs := vlc z);(·rfl);(·exact hfz)))|(apply yae;(·rfl);(·(first|exact ac_del (yaz 3 rfl))))|exact tq_));(·rfl);(·rfl);(·(exact hd_l (Le.refl h2) (fun r hr => List.mem_append_left _ (tm4T hr)))))|refine ybl rfl rfl ?_|((fail_if_success (refine ybi rfl ?_));refine ybj rfl ?_ ?_<;>(intro ht;rw [ht];first|replace ht := oet_ ht|replace ht := oef_ ht|skip))|(refine tb_ ?_ ?_ ?_;(·(first|exact ybf|(refine .inl ?_;(exact hd_l (Le.refl h2) (fun r hr => List.mem_append_left _ (tm4T hr))))|exact to_));(·intro _;(first|exact ybf|(refine .inl ?_;(exact hd_l (Le.refl h2) (fun r hr => List.mem_append_left _ (tm4T hr))))|exact to_));intro _)|(first|(refine tqs_ ?_ ?_ ?_;(·(first|exact ybf|(refine .inl ?_;(exact hd_l (Le.refl h2) (fun r hr => List.mem_append_left _ (tm4T hr))))|exact to_));(·(first|exact ybf|(refine .inl ?_;(exact hd_l (Le.refl h2) (fun r hr => List.mem_append_left _ (tm4T hr))))|exact to_))))|(apply ybn;(·(first|(first|exact tk_|(apply yad;(·rfl);(·exact yaz 1 rfl);(·exact ycj ac.hu))|(exact qv_str_bs rfl hsv)|(apply yax (cs := vlc z);(·rfl);(·exact hfz)))|(apply yae;(·rfl);(·(first|exact ac_del (yaz 3 rfl))))|exact tq_));(·rfl);(·rfl);(·rfl);(·(first|exact ybf|(refine .inl ?_;(exact hd_l (Le.refl h2) (fun r hr => List.mem_append_left _ (tm4T hr))))|exact to_))))|refine ycg ?_))
    refine gx_putn ?_
  refine gx_end hok hnd rfl rfl (fun D w s => hd_l (Le.refl h2) (fun r hr => List.mem_append_left _ (tm4T hr)) w s) (fun D hD => ?_) _ _ hD
  obtain ⟨b16, rfl⟩ := oneT hD
  refine rx_to (F' := [(122, .agg (vlc z).toArray), (0, v0), (3, v3), (5, .pointer (some ⟨bW, 0, none⟩)), (6, v6), (7, v7), (8, v8), (9, .pointer (some ⟨b9, 0, none⟩)), (14, .pointer (some ⟨b14, 0, none⟩)), (16, .pointer (some ⟨b16, 0, none⟩))]) (L' := [Res.blk b14 (.cells (sbc g).toArray 47 (0, 0)), Res.blk b12 (.cells (cxc ac.u (.slice adm j capm)).toArray 37 (0, 0)), wlR bW bv c1 c2 d1 d2 lv, Res.blk b9 (.cells (acc ac).toArray 41 (0, 0)), clR (ccK c1 c2 k) (idK k) bv ep ct m1, R1, R2, R3, R4, R5, R6, R7, R8, R9, R10, Res.blk b16 (.cells (vlc zRv).toArray 67 (0, 0))]) ts_ rfl ?_
  repeat' (refine ycf ?_;(first|(first|(apply ybm;(·exact tq_);(·rfl);(·rfl);(·(exact hd_l (Le.refl h2) (fun r hr => tm4T hr))))|refine ybl rfl rfl ?_|((fail_if_success (refine ybi rfl ?_));refine ybj rfl ?_ ?_<;>(intro ht;rw [ht];first|replace ht := oet_ ht|replace ht := oef_ ht|skip))|(refine tb_ ?_ ?_ ?_;(·(first|exact ybf|(refine .inl ?_;(exact hd_l (Le.refl h2) (fun r hr => tm4T hr)))|exact to_));(·intro _;(first|exact ybf|(refine .inl ?_;(exact hd_l (Le.refl h2) (fun r hr => tm4T hr)))|exact to_));intro _)|(first|(refine ybg 15 rfl rfl rfl (by show (vlc z).toArray.size = 22;rw [List.size_toArray, hzl]) (by show 0 + (vlc z).toArray.size ≤ 22;rw [List.size_toArray, hzl];omega) hzo (ybh (by show (vlc z).length = 22;rw [hzl])) rfl rfl ?_ ?_ ?_;(·(first|exact ybf|(refine .inl ?_;(exact hd_l (Le.refl h2) (fun r hr => tm4T hr)))|exact to_));(·(first|exact ybf|(refine .inl ?_;(exact hd_l (Le.refl h2) (fun r hr => tm4T hr)))|exact to_)))|(refine tqs_ ?_ ?_ ?_;(·(first|exact ybf|(refine .inl ?_;(exact hd_l (Le.refl h2) (fun r hr => tm4T hr)))|exact to_));(·(first|exact ybf|(refine .inl ?_;(exact hd_l (Le.refl h2) (fun r hr => tm4T hr)))|exact to_))))|(apply ybn;(·exact tq_);(·rfl);(·rfl);(·rfl);(·(first|exact ybf|(refine .inl ?_;(exact hd_l (Le.refl h2) (fun r hr => tm4T hr)))|exact to_))))|refine ycg ?_))
  exact nx_ends b16 trivial ts_ (fun _ s => s.picks [15, 0, 0, 0, 0, 0, 0, 0, 0, 0, 0, 0, 0, 0, 0, 0])
end Go.Proofs.YtaofgcahmfailaaGreatDoor
end

section
namespace Go.Proofs.YtaofgcahmfailaaGreatDoor
open Go Go.Ck
set_option maxHeartbeats 4000000
abbrev rowAT (v : Value) (O : List Vl) : Res := Res.row 67 22 v O.length (O.flatMap vlc)
abbrev rowMT (v : Value) (O : List (List Int)) : Res := Res.row 9 1 v O.length (O.flatMap fun x => [.string (bstr x)])
abbrev rowLT (v : Value) (O : List Sb) : Res := Res.row 77 20 v O.length (O.flatMap sbc)
theorem tm2T {A B r : Res} {L : List Res} (ha : A ∈ L) (hb : B ∈ L) (h : r ∈ [A, B]) : r ∈ L := by
  simp only [List.mem_cons, List.not_mem_nil, or_false] at h
  rcases h with h | h
  · exact h ▸ ha
  · exact h ▸ hb
theorem r20_sp (w0 : World) (h0 : View) (R1 R2 R3 R4 R5 R6 R7 R8 R9 R10 R11 : Res) (v0 v3 v5 v8 v14 : Value) (b9 b16 : Nat) (ac : ActD) (v : Vl) (va vm : Value) (AA : List Vl) (MM : List (List Int)) (hA : AA.length ≤ 1000) (hM : MM.length ≤ 1000) (h : View) (hv : Vr h v) (L0 : List Res)
    (hL0 : L0 = [Res.blk b16 (.cells (vlc v).toArray 67 (0, 0)), rowAT va AA, rowMT vm MM, Res.blk b9 (.cells (acc ac).toArray 41 (0, 0)), R1, R2, R3, R4, R5, R6, R7, R8, R9, R10, R11]) :
    CX Tryz.prog 327 ⟨w0, h0, []⟩ (cGet (cReg 20 (cGet Tryz.f5.body))) [(0, v0), (3, v3), (5, v5), (6, va), (7, vm), (8, v8), (9, .pointer (some ⟨b9, 0, none⟩)), (14, v14), (16, .pointer (some ⟨b16, 0, none⟩))] h L0
      (PEnds (X := View × Value × Value) 327 ⟨w0, h0, []⟩ (fun y => [(0, v0), (3, v3), (5, v5), (6, y.2.1), (7, y.2.2), (8, v8), (14, v14)]) (fun y => y.1)
        (fun y => [rowAT y.2.1 (AA ++ [v]), rowMT y.2.2 (MM ++ [nmB ac.name]), R1, R2, R3, R4, R5, R6, R7, R8, R9, R10, R11]) (fun y => Le h y.1)) := by
  subst hL0
  have hvl := vlc_len v
  have hvo := hv.one
  refine cx_region_drawW [Res.blk b16 (.cells (vlc v).toArray 67 (0, 0)), Res.blk b9 (.cells (acc ac).toArray 41 (0, 0))] [2, 3, 7, 8, 9, 10, 11, 12] rfl (by kernel_rfl) ?_
  repeat' (refine ycf ?_;(first|(first|(apply ybm;(·(first|(first|exact tk_|(apply yad (vs := vlc v);(·rfl);(·exact yaz 0 rfl);(·exact hvl)))|exact tq_));(·rfl);(·rfl);(·(first|exact hd_l (Le.refl h) (fun r hr => tm2T tmm_ tmm_ hr)|exact hd_l hle (fun r hr => tm2T tmm_ tmm_ hr))))|refine ybl rfl rfl ?_|((fail_if_success (refine ybi rfl ?_));refine ybj rfl ?_ ?_<;>(intro ht;rw [ht];first|replace ht := oet_ ht|replace ht := oef_ ht|skip))|(refine tb_ ?_ ?_ ?_;(·(first|exact ybf|(refine .inl ?_;(first|exact hd_l (Le.refl h) (fun r hr => tm2T tmm_ tmm_ hr)|exact hd_l hle (fun r hr => tm2T tmm_ tmm_ hr)))|exact to_));(·intro _;(first|exact ybf|(refine .inl ?_;(first|exact hd_l (Le.refl h) (fun r hr => tm2T tmm_ tmm_ hr)|exact hd_l hle (fun r hr => tm2T tmm_ tmm_ hr)))|exact to_));intro _)|(first|(refine tqs_ ?_ ?_ ?_;(·(first|exact ybf|(refine .inl ?_;(first|exact hd_l (Le.refl h) (fun r hr => tm2T tmm_ tmm_ hr)|exact hd_l hle (fun r hr => tm2T tmm_ tmm_ hr)))|exact to_));(·(first|exact ybf|(refine .inl ?_;(first|exact hd_l (Le.refl h) (fun r hr => tm2T tmm_ tmm_ hr)|exact hd_l hle (fun r hr => tm2T tmm_ tmm_ hr)))|exact to_))))|(apply ybn;(·(first|(first|exact tk_|(apply yad (vs := vlc v);(·rfl);(·exact yaz 0 rfl);(·exact hvl)))|exact tq_));(·rfl);(·rfl);(·rfl);(·(first|exact ybf|(refine .inl ?_;(first|exact hd_l (Le.refl h) (fun r hr => tm2T tmm_ tmm_ hr)|exact hd_l hle (fun r hr => tm2T tmm_ tmm_ hr)))|exact to_))))|refine ycg ?_))
  refine yba (ybd rfl rfl rfl (ybe rfl (by show (vlc v).toArray.size = 22;rw [List.size_toArray, hvl]))) rfl rfl rfl (by (first|exact ybf|(refine .inl ?_;(first|exact hd_l (Le.refl h) (fun r hr => tm2T tmm_ tmm_ hr)|exact hd_l hle (fun r hr => tm2T tmm_ tmm_ hr)))|exact to_)) (fun _ => by (first|exact ybf|(refine .inl ?_;(first|exact hd_l (Le.refl h) (fun r hr => tm2T tmm_ tmm_ hr)|exact hd_l hle (fun r hr => tm2T tmm_ tmm_ hr)))|exact to_)) ?_
  intro bs1
  refine rx_append (sz := 22) 2 rfl rfl rfl (yaz 0 rfl) (by show (vlc v).length = 1 * 22;omega) (fun u hu => List.all_eq_true.1 hvo u hu) rfl (by omega) (by unfold maxLen;omega) (by omega) rfl rfl rfl (by (first|exact ybf|(refine .inl ?_;(first|exact hd_l (Le.refl h) (fun r hr => tm2T tmm_ tmm_ hr)|exact hd_l hle (fun r hr => tm2T tmm_ tmm_ hr)))|exact to_)) (fun _ => by (first|exact ybf|(refine .inl ?_;(first|exact hd_l (Le.refl h) (fun r hr => tm2T tmm_ tmm_ hr)|exact hd_l hle (fun r hr => tm2T tmm_ tmm_ hr)))|exact to_)) ?_
  intro va2 _
  repeat' (refine ycf ?_;(first|(first|(apply ybm;(·(first|(exact tk_)|(apply yae;(·rfl);(·(exact ac_name (yaz 1 rfl))))|exact tq_));(·rfl);(·rfl);(·(first|exact hd_l (Le.refl h) (fun r hr => tm2T tmm_ tmm_ hr)|exact hd_l hle (fun r hr => tm2T tmm_ tmm_ hr))))|refine ybl rfl rfl ?_|((fail_if_success (refine ybi rfl ?_));refine ybj rfl ?_ ?_<;>(intro ht;rw [ht];first|replace ht := oet_ ht|replace ht := oef_ ht|skip))|(refine tb_ ?_ ?_ ?_;(·(first|exact ybf|(refine .inl ?_;(first|exact hd_l (Le.refl h) (fun r hr => tm2T tmm_ tmm_ hr)|exact hd_l hle (fun r hr => tm2T tmm_ tmm_ hr)))|exact to_));(·intro _;(first|exact ybf|(refine .inl ?_;(first|exact hd_l (Le.refl h) (fun r hr => tm2T tmm_ tmm_ hr)|exact hd_l hle (fun r hr => tm2T tmm_ tmm_ hr)))|exact to_));intro _)|(first|(refine tqs_ ?_ ?_ ?_;(·(first|exact ybf|(refine .inl ?_;(first|exact hd_l (Le.refl h) (fun r hr => tm2T tmm_ tmm_ hr)|exact hd_l hle (fun r hr => tm2T tmm_ tmm_ hr)))|exact to_));(·(first|exact ybf|(refine .inl ?_;(first|exact hd_l (Le.refl h) (fun r hr => tm2T tmm_ tmm_ hr)|exact hd_l hle (fun r hr => tm2T tmm_ tmm_ hr)))|exact to_))))|(apply ybn;(·(first|(exact tk_)|(apply yae;(·rfl);(·(exact ac_name (yaz 1 rfl))))|exact tq_));(·rfl);(·rfl);(·rfl);(·(first|exact ybf|(refine .inl ?_;(first|exact hd_l (Le.refl h) (fun r hr => tm2T tmm_ tmm_ hr)|exact hd_l hle (fun r hr => tm2T tmm_ tmm_ hr)))|exact to_))))|refine ycg ?_))
  (refine yco (ycp Tryz.func14 rfl (by kernel_rfl) rfl) (name7_sp ac.name h) rfl rfl rfl ?_ ?_ ?_;(·(first|exact ybf|(refine .inl ?_;(first|exact hd_l (Le.refl h) (fun r hr => tm2T tmm_ tmm_ hr)|exact hd_l hle (fun r hr => tm2T tmm_ tmm_ hr)))|exact to_));(·intro _ _ hle;(first|exact ybf|(refine .inl ?_;(first|exact hd_l (Le.refl h) (fun r hr => tm2T tmm_ tmm_ hr)|exact hd_l hle (fun r hr => tm2T tmm_ tmm_ hr)))|exact to_));intro x px hle)
  obtain ⟨h3, vn⟩ := x
  dsimp only at px hle ⊢
  have hle3 : Le h h3 := hle
  have hn3 : Bs8 h3 vn (nmB ac.name) := px
  clear px hle
  repeat' (refine ycf ?_;(first|(first|(apply ybm;(·(first|(first|exact tk_|(exact qv_str_bs rfl hn3))|exact tq_));(·rfl);(·rfl);(·(exact hd_l hle3 (fun r hr => tm2T tmm_ tmm_ hr))))|refine ybl rfl rfl ?_|((fail_if_success (refine ybi rfl ?_));refine ybj rfl ?_ ?_<;>(intro ht;rw [ht];first|replace ht := oet_ ht|replace ht := oef_ ht|skip))|(refine tb_ ?_ ?_ ?_;(·(first|exact ybf|(refine .inl ?_;(exact hd_l hle3 (fun r hr => tm2T tmm_ tmm_ hr)))|exact to_));(·intro _;(first|exact ybf|(refine .inl ?_;(exact hd_l hle3 (fun r hr => tm2T tmm_ tmm_ hr)))|exact to_));intro _)|(first|(refine tqs_ ?_ ?_ ?_;(·(first|exact ybf|(refine .inl ?_;(exact hd_l hle3 (fun r hr => tm2T tmm_ tmm_ hr)))|exact to_));(·(first|exact ybf|(refine .inl ?_;(exact hd_l hle3 (fun r hr => tm2T tmm_ tmm_ hr)))|exact to_))))|(apply ybn;(·(first|(first|exact tk_|(exact qv_str_bs rfl hn3))|exact tq_));(·rfl);(·rfl);(·rfl);(·(first|exact ybf|(refine .inl ?_;(exact hd_l hle3 (fun r hr => tm2T tmm_ tmm_ hr)))|exact to_))))|refine ycg ?_))
  refine rx_append (sz := 1) 4 rfl rfl rfl (yaz 0 rfl) rfl (fun u hu => by rw [List.mem_singleton.1 hu];rfl) rfl (by omega) (by unfold maxLen;omega) (by omega) rfl rfl rfl (by (first|exact ybf|(refine .inl ?_;(exact hd_l hle3 (fun r hr => tm2T tmm_ tmm_ hr)))|exact to_)) (fun _ => by (first|exact ybf|(refine .inl ?_;(exact hd_l hle3 (fun r hr => tm2T tmm_ tmm_ hr)))|exact to_)) ?_
  intro vm2 _
  repeat' (refine ycf ?_;(first|(first|(apply ybm;(·(first|(exact tk_)|exact tq_));(·rfl);(·rfl);(·(exact hd_l hle3 (fun r hr => tm2T tmm_ tmm_ hr))))|refine ybl rfl rfl ?_|((fail_if_success (refine ybi rfl ?_));refine ybj rfl ?_ ?_<;>(intro ht;rw [ht];first|replace ht := oet_ ht|replace ht := oef_ ht|skip))|(refine tb_ ?_ ?_ ?_;(·(first|exact ybf|(refine .inl ?_;(exact hd_l hle3 (fun r hr => tm2T tmm_ tmm_ hr)))|exact to_));(·intro _;(first|exact ybf|(refine .inl ?_;(exact hd_l hle3 (fun r hr => tm2T tmm_ tmm_ hr)))|exact to_));intro _)|(first|(refine tqs_ ?_ ?_ ?_;(·(first|exact ybf|(refine .inl ?_;(exact hd_l hle3 (fun r hr => tm2T tmm_ tmm_ hr)))|exact to_));(·(first|exact ybf|(refine .inl ?_;(exact hd_l hle3 (fun r hr => tm2T tmm_ tmm_ hr)))|exact to_))))|(apply ybn;(·(first|(exact tk_)|exact tq_));(·rfl);(·rfl);(·rfl);(·(first|exact ybf|(refine .inl ?_;(exact hd_l hle3 (fun r hr => tm2T tmm_ tmm_ hr)))|exact to_))))|refine ycg ?_))
  refine nx_ends (h3, va2, vm2) hle3 ts_ (fun _ s => ?_)
  have s2 := s.picks [3, 3, 4, 4, 4, 4, 4, 4, 4, 4, 4, 4, 4]
  dsimp only
  show St _ _ [Res.row _ _ va2 (AA ++ [v]).length ((AA ++ [v]).flatMap vlc), Res.row _ _ vm2 (MM ++ [nmB ac.name]).length ((MM ++ [nmB ac.name]).flatMap fun x => [.string (bstr x)]), _, _, _, _, _, _, _, _, _, _, _] _
  rw [List.length_append, List.flatMap_append, List.length_append, List.flatMap_append, show [v].flatMap vlc = vlc v by simp, show [nmB ac.name].flatMap (fun x => [Value.string (bstr x)]) = [.string (bstr (nmB ac.name))] by rfl]
  exact s2
theorem fill3r {d : Dt} {u : List Int} {mv : Value} {st : ByteArray} (hu : u.length = 16) : fillL (fun i : Nat => ([(0, 2), (2, 17), (19, 1)] : List (Nat × Nat))[i]?) ([.int .i64 0, .int .i64 0] ++ (up zeroU ++ [.slice none 0 0, .string ⟨#[]⟩])) [(0, .agg (dcs d).toArray), (1, .agg (cxc u mv).toArray), (2, .string st)] = some (dcs d ++ (cxc u mv ++ [.string st])) := by
  obtain ⟨a0, a1, a2, a3, a4, a5, a6, a7, a8, a9, a10, a11, a12, a13, a14, a15, rfl⟩ := list16 u hu
  unfold fillL fillL fillL fillL
  rfl
theorem r21_sp (w0 : World) (h0 : View) (R1 R2 R3 R4 R5 R6 R7 R8 R9 R10 : Res) (v0 v3 v6 v7 v8 : Value) (bW bv c1 c2 d1 d2 b14 : Nat) (lv : Value) (LL : List Sb) (g : Sb) (hL : LL.length ≤ 1000) (h : View) (hg : Sv h g) (L0 : List Res)
    (hL0 : L0 = [Res.blk b14 (.cells (sbc g).toArray 47 (0, 0)), wlR bW bv c1 c2 d1 d2 lv, rowLT lv LL, R1, R2, R3, R4, R5, R6, R7, R8, R9, R10]) :
    CX Tryz.prog 327 ⟨w0, h0, []⟩ (cGet (cReg 21 (cGet Tryz.f5.body))) [(0, v0), (3, v3), (5, .pointer (some ⟨bW, 0, none⟩)), (6, v6), (7, v7), (8, v8), (14, .pointer (some ⟨b14, 0, none⟩))] h L0
      (PEnds (X := Value) 327 ⟨w0, h0, []⟩ (fun y => [(0, v0), (3, v3), (5, .pointer (some ⟨bW, 0, none⟩)), (6, v6), (7, v7), (8, v8)]) (fun y => h)
        (fun y => [wlR bW bv c1 c2 d1 d2 y, rowLT y (LL ++ [⟨g.d, g.u, g.hu, g.l, g.mv, g.b, .string (bstr g.b)⟩]), R1, R2, R3, R4, R5, R6, R7, R8, R9, R10]) (fun y => True)) := by
  subst hL0
  obtain ⟨z, hz⟩ : ∃ z : Sb, z = ⟨g.d, g.u, g.hu, g.l, g.mv, g.b, .string (bstr g.b)⟩ := ⟨_, rfl⟩
  rw [← hz]
  have hzl := sbc_len z
  have hgl := sbc_len g
  have hzo := (show Rv h z by rw [hz]; exact ⟨hg.ds, rfl, hg.by8⟩).one
  have hfz : fillL (fun i : Nat => ([(0, 2), (2, 17), (19, 1)] : List (Nat × Nat))[i]?) ([.int .i64 0, .int .i64 0] ++ (up zeroU ++ [.slice none 0 0, .string ⟨#[]⟩])) [(0, .agg (dcs g.d).toArray), (1, .agg (cxc g.u g.mv).toArray), (2, .string (bstr g.b))] = some (sbc z) := by rw [hz]; exact fill3r g.hu
  refine cx_region_drawW [Res.blk b14 (.cells (sbc g).toArray 47 (0, 0)), wlR bW bv c1 c2 d1 d2 lv] [9, 14, 15, 18] rfl (by kernel_rfl) ?_
  repeat' (refine ycf ?_;(first|(first|(apply ybm;(·(first|(first|exact tk_|(apply qv_nilCheck;rfl)|(apply yad;(·rfl);(·exact sb_dotT (yaz 0 rfl));(·rfl))|(apply yad;(·rfl);(·exact sb_past (yaz 0 rfl));(·exact ycj g.hu)))|(apply yae;(·rfl);(·(first|exact yay 1 rfl rfl|exact sb_body (yaz 0 rfl))))|exact tq_));(·rfl);(·rfl);(·(exact hd_l (Le.refl h) (fun r hr => tm2T tmm_ tmm_ hr))))|refine ybl rfl rfl ?_|((fail_if_success (refine ybi rfl ?_));refine ybj rfl ?_ ?_<;>(intro ht;rw [ht];first|replace ht := oet_ ht|replace ht := oef_ ht|skip))|(refine tb_ ?_ ?_ ?_;(·(first|exact ybf|(refine .inl ?_;(exact hd_l (Le.refl h) (fun r hr => tm2T tmm_ tmm_ hr)))|exact to_));(·intro _;(first|exact ybf|(refine .inl ?_;(exact hd_l (Le.refl h) (fun r hr => tm2T tmm_ tmm_ hr)))|exact to_));intro _)|(first|(refine tqs_ ?_ ?_ ?_;(·(first|exact ybf|(refine .inl ?_;(exact hd_l (Le.refl h) (fun r hr => tm2T tmm_ tmm_ hr)))|exact to_));(·(first|exact ybf|(refine .inl ?_;(exact hd_l (Le.refl h) (fun r hr => tm2T tmm_ tmm_ hr)))|exact to_))))|(apply ybn;(·(first|(first|exact tk_|(apply qv_nilCheck;rfl)|(apply yad;(·rfl);(·exact sb_dotT (yaz 0 rfl));(·rfl))|(apply yad;(·rfl);(·exact sb_past (yaz 0 rfl));(·exact ycj g.hu)))|(apply yae;(·rfl);(·(first|exact yay 1 rfl rfl|exact sb_body (yaz 0 rfl))))|exact tq_));(·rfl);(·rfl);(·rfl);(·(first|exact ybf|(refine .inl ?_;(exact hd_l (Le.refl h) (fun r hr => tm2T tmm_ tmm_ hr)))|exact to_))))|refine ycg ?_))
  (refine ycn (ycp Tryz.func20 rfl (by kernel_rfl) rfl) (back7_sp g.u g.hu g.l g.mv h hg.ds) rfl rfl rfl ?_ ?_;(·(first|exact ybf|(refine .inl ?_;(exact hd_l (Le.refl h) (fun r hr => tm2T tmm_ tmm_ hr)))|exact to_)))
  repeat' (refine ycf ?_;(first|(first|(apply ybm;(·(first|(first|exact tk_|(exact qv_str_bs rfl hg.bs)|(apply yax (cs := sbc z);(·rfl);(·exact hfz)))|(apply yae;(·rfl);(·(first|exact sb_body (yaz 0 rfl))))|exact tq_));(·rfl);(·rfl);(·(exact hd_l (Le.refl h) (fun r hr => tm2T tmm_ tmm_ hr))))|refine ybl rfl rfl ?_|((fail_if_success (refine ybi rfl ?_));refine ybj rfl ?_ ?_<;>(intro ht;rw [ht];first|replace ht := oet_ ht|replace ht := oef_ ht|skip))|(refine tb_ ?_ ?_ ?_;(·(first|exact ybf|(refine .inl ?_;(exact hd_l (Le.refl h) (fun r hr => tm2T tmm_ tmm_ hr)))|exact to_));(·intro _;(first|exact ybf|(refine .inl ?_;(exact hd_l (Le.refl h) (fun r hr => tm2T tmm_ tmm_ hr)))|exact to_));intro _)|(first|(refine tqs_ ?_ ?_ ?_;(·(first|exact ybf|(refine .inl ?_;(exact hd_l (Le.refl h) (fun r hr => tm2T tmm_ tmm_ hr)))|exact to_));(·(first|exact ybf|(refine .inl ?_;(exact hd_l (Le.refl h) (fun r hr => tm2T tmm_ tmm_ hr)))|exact to_))))|(apply ybn;(·(first|(first|exact tk_|(exact qv_str_bs rfl hg.bs)|(apply yax (cs := sbc z);(·rfl);(·exact hfz)))|(apply yae;(·rfl);(·(first|exact sb_body (yaz 0 rfl))))|exact tq_));(·rfl);(·rfl);(·rfl);(·(first|exact ybf|(refine .inl ?_;(exact hd_l (Le.refl h) (fun r hr => tm2T tmm_ tmm_ hr)))|exact to_))))|refine ycg ?_))
  refine yba (ybd rfl rfl rfl (ybe rfl (sbc_sz z))) rfl rfl rfl (by (first|exact ybf|(refine .inl ?_;(exact hd_l (Le.refl h) (fun r hr => tm2T tmm_ tmm_ hr)))|exact to_)) (fun _ => by (first|exact ybf|(refine .inl ?_;(exact hd_l (Le.refl h) (fun r hr => tm2T tmm_ tmm_ hr)))|exact to_)) ?_
  intro bs1
  refine rx_append (sz := 20) 3 rfl rfl rfl (yaz 0 rfl) (by show (sbc z).length = 1 * 20;omega) (fun u hu => List.all_eq_true.1 (sbc_one hzo.1 hzo.2) u hu) rfl (by omega) (by unfold maxLen;omega) (by omega) rfl rfl rfl (by (first|exact ybf|(refine .inl ?_;(exact hd_l (Le.refl h) (fun r hr => tm2T tmm_ tmm_ hr)))|exact to_)) (fun _ => by (first|exact ybf|(refine .inl ?_;(exact hd_l (Le.refl h) (fun r hr => tm2T tmm_ tmm_ hr)))|exact to_)) ?_
  intro lv2 _
  refine rx_rowslice 3 rfl ?_
  rintro ad2 cap2 rfl
  repeat' (refine ycf ?_;(first|(first|(apply ybm;(·(first|(first|exact tk_|(apply qv_nilCheck;rfl))|exact tq_));(·rfl);(·rfl);(·(exact hd_l (Le.refl h) (fun r hr => tm2T tmm_ tmm_ hr))))|refine ybl rfl rfl ?_|((fail_if_success (refine ybi rfl ?_));refine ybj rfl ?_ ?_<;>(intro ht;rw [ht];first|replace ht := oet_ ht|replace ht := oef_ ht|skip))|(refine tb_ ?_ ?_ ?_;(·(first|exact ybf|(refine .inl ?_;(exact hd_l (Le.refl h) (fun r hr => tm2T tmm_ tmm_ hr)))|exact to_));(·intro _;(first|exact ybf|(refine .inl ?_;(exact hd_l (Le.refl h) (fun r hr => tm2T tmm_ tmm_ hr)))|exact to_));intro _)|(first|(refine tqs_ ?_ ?_ ?_;(·(first|exact ybf|(refine .inl ?_;(exact hd_l (Le.refl h) (fun r hr => tm2T tmm_ tmm_ hr)))|exact to_));(·(first|exact ybf|(refine .inl ?_;(exact hd_l (Le.refl h) (fun r hr => tm2T tmm_ tmm_ hr)))|exact to_))))|(apply ybn;(·(first|(first|exact tk_|(apply qv_nilCheck;rfl))|exact tq_));(·rfl);(·rfl);(·rfl);(·(first|exact ybf|(refine .inl ?_;(exact hd_l (Le.refl h) (fun r hr => tm2T tmm_ tmm_ hr)))|exact to_))))|refine ycg ?_))
  refine nx_ends (.slice ad2 (LL.length + 1) cap2) trivial ts_ (fun _ s => ?_)
  have s2 := s.picks [2, 2, 2, 2, 2, 2, 2, 2, 2, 2, 2, 2]
  show St _ _ [_, Res.row _ _ (.slice ad2 (LL.length + 1) cap2) (LL ++ [z]).length ((LL ++ [z]).flatMap sbc), _, _, _, _, _, _, _, _, _, _] _
  rw [List.length_append, List.flatMap_append, show [z].flatMap sbc = sbc z by simp]
  exact s2
end Go.Proofs.YtaofgcahmfailaaGreatDoor
end

section
namespace Go.Proofs.YtaofgcahmfailaaGreatDoor
open Go Go.Ck
set_option maxHeartbeats 4000000
def LRT (bW bv c1 c2 m1 m2 d1 d2 bn bu bt : Nat) (RB : Res) (y : TrS) (va vm lv : Value) : List Res :=
  [wlR bW bv c1 c2 d1 d2 lv, clR (ccK c1 c2 false) (idK false) bv (y.e false) (y.t false) (ccK m1 m2 false), cmR (ccK m1 m2 false) (y.K false), clR (ccK c1 c2 true) (idK true) bv (y.e true) (y.t true) (ccK m1 m2 true), cmR (ccK m1 m2 true) (y.K true), nmR bn y.N, usR bu y.U, tbR bt y.T, rowAT va y.AA, rowMT vm y.MM, rowLT lv y.LL, RB]
def LKT (bW bv c1 c2 m1 m2 d1 d2 bn bu bt : Nat) (RB : Res) (k : Bool) (y : TrS) (va vm lv : Value) : List Res :=
  [wlR bW bv c1 c2 d1 d2 lv, clR (ccK c1 c2 k) (idK k) bv (y.e k) (y.t k) (ccK m1 m2 k), cmR (ccK m1 m2 k) (y.K k), nmR bn y.N, usR bu y.U, tbR bt y.T, rowAT va y.AA, rowMT vm y.MM, rowLT lv y.LL, clR (ccK c1 c2 !k) (idK !k) bv (y.e !k) (y.t !k) (ccK m1 m2 !k), cmR (ccK m1 m2 !k) (y.K !k), RB]
theorem LRT_perm (bW bv c1 c2 m1 m2 d1 d2 bn bu bt : Nat) (RB : Res) (k : Bool) (y : TrS) (va vm lv : Value) : (LRT bW bv c1 c2 m1 m2 d1 d2 bn bu bt RB y va vm lv).Perm (LKT bW bv c1 c2 m1 m2 d1 d2 bn bu bt RB k y va vm lv) := by
  unfold LRT LKT
  cases k
  · refine .cons _ (.cons _ (.cons _ ?_))
    exact List.perm_append_comm_assoc [_, _] [_, _, _, _, _, _] [_]
  · refine .cons _ ?_
    exact (List.perm_append_comm_assoc [_, _] [_, _] _).trans (.cons _ (.cons _ (List.perm_append_comm_assoc [_, _] [_, _, _, _, _, _] [_])))
theorem LKT_back (bW bv c1 c2 m1 m2 d1 d2 bn bu bt : Nat) (RB : Res) (k : Bool) (y : TrS) (va vm lv : Value) {K : Bs} {h : View} {w : World} (s : St K h (LKT bW bv c1 c2 m1 m2 d1 d2 bn bu bt RB k y va vm lv) w) : St K h (LRT bW bv c1 c2 m1 m2 d1 d2 bn bu bt RB y va vm lv) w :=
  s.perm (LRT_perm bW bv c1 c2 m1 m2 d1 d2 bn bu bt RB k y va vm lv).symm
theorem upK_not {α : Type} (f : Bool → α) (k : Bool) (x : α) : upK' f k x (!k) = f (!k) := by cases k<;>rfl
theorem cellat_eq' {h : View} {L : List Res} {b i : Nat} {v u : Value} (c : CellAt h L b i v) (e : v = u) : CellAt h L b i u := e ▸ c
theorem round_sp (w0 : World) (h0 : View) (RB : Res) (br o nrow capr : Nat) (v3 : Value) (bW bv c1 c2 m1 m2 d1 d2 bn bu bt : Nat) (key : List Int) (hk : Bytes key) (hk32 : key.length = 32) (i : Nat) (hi : i < nrow) (hi8 : i < 8) (ac : ActD) (y : TrS) (ok : TrOk key i y) (va vm lv : Value)
    (hv : Vb y.hh bv true key bn bu bt) (hx : Av y.hh ac) (hel : ∀ L, Cells y.hh L ⟨br, o + i * 25, none⟩ (acc ac)) (hlv : ac.val.length ≤ 9223372036854775807) (hll : ac.l.length ≤ 9223372036854775807) (L0 : List Res) (hL0 : L0 = LRT bW bv c1 c2 m1 m2 d1 d2 bn bu bt RB y va vm lv) :
    CX Tryz.prog 327 ⟨w0, h0, []⟩ (cGet (cBlk 1 (cGet Tryz.f5.body))) [(0, .slice (some ⟨br, o, none⟩) nrow capr), (3, v3), (5, .pointer (some ⟨bW, 0, none⟩)), (6, va), (7, vm), (8, .int .i64 (i : Nat))] y.hh L0
      (PEnds (X := TrS × Value × Value × Value) 327 ⟨w0, h0, []⟩ (fun z => [(0, .slice (some ⟨br, o, none⟩) nrow capr), (3, v3), (5, .pointer (some ⟨bW, 0, none⟩)), (6, z.2.1), (7, z.2.2.1), (8, .int .i64 (i : Nat))]) (fun z => z.1.hh)
        (fun z => LRT bW bv c1 c2 m1 m2 d1 d2 bn bu bt RB z.1 z.2.1 z.2.2.1 z.2.2.2) (fun z => TrOk key (i + 1) z.1 ∧ Le y.hh z.1.hh)) := by
  subst hL0
  have hal := acc_len ac
  have hone := acc_oneT hx
  have hu64 := u64_bd ac.who
  obtain ⟨k, hkk⟩ : ∃ k : Bool, (IntKind.u64.wrap ac.who).tmod 2 = kkI k := by
    rw [Int.tmod_eq_emod_of_nonneg hu64.1]
    rcases (by omega : IntKind.u64.wrap ac.who % 2 = 0 ∨ IntKind.u64.wrap ac.who % 2 = 1) with h | h
    · exact ⟨false, h⟩
    · exact ⟨true, h⟩
  have hk2 : (0 : Int) ≤ kkI k ∧ kkI k < 2 := by cases k <;> decide
  have wk : IntKind.i64.wrap (kkI k) = kkI k := by cases k <;> rfl
  refine cx_perm (LRT_perm bW bv c1 c2 m1 m2 d1 d2 bn bu bt RB k y va vm lv) ?_
  unfold LKT
  have hek := ok.eb k
  have htk := ok.tb k
  repeat' (first|(refine ycf ?_;apply ybk;(·first|(first|(refine qv_remr rfl rfl (by decide) hkk)|exact tk_|(refine qv_convert_int' rfl wk)|(refine qv_convert_int' rfl rfl)|(apply yad;(·rfl);(·exact hel _);(·exact hal))|(refine qv_remr rfl rfl (by decide) rfl)|(apply qv_nilCheck;rfl))|(apply yae;(·rfl);(·(first|exact ac_what (yaz 0 rfl)|exact ac_who (yaz 0 rfl)|exact cellat_eq (wl_cl (yaz 1 rfl) k rfl) (by omega)))));(·rfl);(·rfl))|(refine ybg 0 rfl rfl rfl (by show (acc ac).toArray.size = 25;rw [List.size_toArray, hal]) (by show 0 + (acc ac).toArray.size ≤ 25;rw [List.size_toArray, hal];omega) hone (ybh (by show (acc ac).length = 25;rw [hal])) rfl rfl ?_ ?_ ?_;(·(exact to_));(·(exact to_)))|refine t1_ ?_|(refine ta_ ?_;intro _)|((fail_if_success (refine ybi rfl ?_));refine ybj rfl ?_ ?_<;>(intro ht;rw [ht];first|replace ht := oet_ ht|replace ht := oef_ ht|skip))|(refine ych ?_;first|(refine ybw rfl ?_ ?_<;>intro ht)|(refine ybx rfl ?_ ?_<;>intro ht)))
  · (refine rx_call_m (ycp Tryz.func13 rfl (by kernel_rfl) rfl) (perm_at (k := 2) rfl) (Rotate_sp (ccK c1 c2 k) (idK k) bv (y.e k) (y.t k) (ccK m1 m2 k) ⟨by omega, by omega⟩ y.hh) rfl rfl rfl ?_ ?_ ?_; (· (exact to_)); (· intro _ _ hle; (exact to_)); intro x px hle)
    repeat' (first|(refine ycf ?_;apply ybk;(·first|(exact tk_));(·rfl);(·rfl))|refine t1_ ?_|(refine ta_ ?_;intro _)|((fail_if_success (refine ybi rfl ?_));refine ybj rfl ?_ ?_<;>(intro ht;rw [ht];first|replace ht := oet_ ht|replace ht := oef_ ht|skip))|(refine ych ?_;first|(refine ybw rfl ?_ ?_<;>intro ht)|(refine ybx rfl ?_ ?_<;>intro ht)))
    refine nx_ends ({ y with e := upK' y.e k (y.e k + 1) }, va, vm, lv) ⟨ok.rot k, Le.refl _⟩ ts_ (fun _ s => LKT_back _ _ _ _ _ _ _ _ _ _ _ _ k _ _ _ _ ?_)
    have s2 := s.picks [2, 0, 1, 1, 1, 1, 1, 1, 1, 1, 1, 1]
    unfold LKT
    dsimp only
    rw [upK_same, upK_not]
    exact s2
  · rename_i b9
    obtain ⟨adv, capv, hvv, hcv⟩ : ∃ a c, ac.vv = .slice a ac.val.length c ∧ ac.val.length ≤ c := by
      obtain ⟨_, a, c, e, e', _⟩ := hx.vs
      exact ⟨a, c, e, e'⟩
    obtain ⟨adm, capm, hmv, hcm⟩ : ∃ a c, ac.mv = .slice a ac.l.length c ∧ ac.l.length ≤ c := by
      obtain ⟨_, a, c, e, e', _⟩ := hx.ds
      exact ⟨a, c, e, e'⟩
    obtain ⟨m, hm⟩ : ∃ m, m = min ac.val.length 100 := ⟨_, rfl⟩
    have hj : (if (100 : Int) < (ac.val.length : Int) then (100 : Int) else (ac.val.length : Int)) = (m : Int) := by rw [hm];split<;>omega
    obtain ⟨q, hqq⟩ : ∃ q, q = min ac.l.length 34 := ⟨_, rfl⟩
    have hj2 : (if (34 : Int) < (ac.l.length : Int) then (34 : Int) else (ac.l.length : Int)) = (q : Int) := by rw [hqq];split<;>omega
    have hsv : Bs8 y.hh (.slice adv m capv) (ac.val.take m) := bs_pre (by rw [← hvv]; exact hx.vs) (by omega)
    have htl : (ac.l.take q).length = q := by simp; omega
    have hds : Ds y.hh (.slice adm q capm) (ac.l.take q) := by
      have hd0 : Ds y.hh (.slice adm ac.l.length capm) ac.l := by rw [← hmv]; exact hx.ds
      unfold Ds
      rw [htl, ← flat_take]
      exact sc_take hd0 (by omega)
    have hyt : Bytes (ac.val.take m) := fun z hz => hx.yv z (List.mem_of_mem_take hz)
    have hlt : (ac.val.take m).length ≤ 3999 := by rw [List.length_take]; omega
    rw [hvv]
    repeat' (first|(refine ycf ?_;apply ybk;(·first|(first|exact tk_|(refine qv_min' rfl rfl hj)|(apply qv_slice_to;(·rfl);(·rfl);(·omega);(·omega)))|(apply yae;(·rfl);(·(exact ac_val (yaz 0 rfl) hvv))));(·rfl);(·rfl))|refine t1_ ?_|(refine ta_ ?_;intro _)|((fail_if_success (refine ybi rfl ?_));refine ybj rfl ?_ ?_<;>(intro ht;rw [ht];first|replace ht := oet_ ht|replace ht := oef_ ht|skip))|(refine ych ?_;first|(refine ybw rfl ?_ ?_<;>intro ht)|(refine ybx rfl ?_ ?_<;>intro ht)))
    have hcl := ycj (mv := Value.slice adm q capm) ac.hu
    have hfu := fill2 (ad := adm) (m := q) (c := capm) ac.hu
    refine cx_region_drawW [Res.blk b9 (.cells (acc ac).toArray 41 (0, 0))] [13, 14] rfl (by kernel_rfl) ?_
    repeat' (refine ycf ?_;(first|(first|(apply ybm;(·(first|(first|(refine qv_min' rfl rfl hj2)|(apply qv_slice_to;(·rfl);(·rfl);(·omega);(·omega))|(apply yad (vs := up ac.u);(·rfl);(·exact cells_up2 (ac_pastT (yaz 0 rfl)));(·simp [up, ac.hu]))|(apply yax (cs := cxc ac.u (.slice adm q capm));(·rfl);(·exact hfu)))|(apply yae;(·rfl);(·(exact ac_moreT (yaz 0 rfl) hmv)))|exact tq_));(·rfl);(·rfl);(·(exact hd_one' (Le.refl y.hh) tmm_)))|refine ybl rfl rfl ?_|((fail_if_success (refine ybi rfl ?_));refine ybj rfl ?_ ?_<;>(intro ht;rw [ht];first|replace ht := oet_ ht|replace ht := oef_ ht|skip))|(refine tb_ ?_ ?_ ?_;(·(first|exact ybf|(refine .inl ?_;(exact hd_one' (Le.refl y.hh) tmm_))|exact to_));(·intro _;(first|exact ybf|(refine .inl ?_;(exact hd_one' (Le.refl y.hh) tmm_))|exact to_));intro _)|(first|(refine ybg 0 rfl rfl rfl (cxc_sz ac.hu) (cxc_fit ac.hu) (cxc_one rfl) (ybh (cxc_all ac.hu)) rfl rfl ?_ ?_ ?_;(·(first|exact ybf|(refine .inl ?_;(exact hd_one' (Le.refl y.hh) tmm_))|exact to_));(·(first|exact ybf|(refine .inl ?_;(exact hd_one' (Le.refl y.hh) tmm_))|exact to_)))|(refine tqs_ ?_ ?_ ?_;(·(first|exact ybf|(refine .inl ?_;(exact hd_one' (Le.refl y.hh) tmm_))|exact to_));(·(first|exact ybf|(refine .inl ?_;(exact hd_one' (Le.refl y.hh) tmm_))|exact to_))))|(apply ybn;(·(first|(first|(refine qv_min' rfl rfl hj2)|(apply qv_slice_to;(·rfl);(·rfl);(·omega);(·omega))|(apply yad (vs := up ac.u);(·rfl);(·exact cells_up2 (ac_pastT (yaz 0 rfl)));(·simp [up, ac.hu]))|(apply yax (cs := cxc ac.u (.slice adm q capm));(·rfl);(·exact hfu)))|(apply yae;(·rfl);(·(exact ac_moreT (yaz 0 rfl) hmv)))|exact tq_));(·rfl);(·rfl);(·rfl);(·(first|exact ybf|(refine .inl ?_;(exact hd_one' (Le.refl y.hh) tmm_))|exact to_))))|refine ycg ?_))
    rename_i b12
    repeat' (first|(refine ycf ?_;apply ybk;(·first|(exact tk_));(·rfl);(·rfl))|refine t1_ ?_|(refine ta_ ?_;intro _)|((fail_if_success (refine ybi rfl ?_));refine ybj rfl ?_ ?_<;>(intro ht;rw [ht];first|replace ht := oet_ ht|replace ht := oef_ ht|skip))|(refine ych ?_;first|(refine ybw rfl ?_ ?_<;>intro ht)|(refine ybx rfl ?_ ?_<;>intro ht)))
    have hK : ∀ nm, ∃ n : Int, numK (y.K k) nm n ∧ 0 ≤ n ∧ n < 1000 := fun nm => by
      obtain ⟨n, h1, h2⟩ := ok.kb k nm
      exact ⟨n, h1, by omega⟩
    have hNl := ok.nl
    have hUl := ok.ul
    refine cx_piece (r15_sp w0 h0 (rowAT va y.AA) (rowMT vm y.MM) (rowLT lv y.LL) (clR (ccK c1 c2 !k) (idK !k) bv (y.e !k) (y.t !k) (ccK m1 m2 !k)) (cmR (ccK m1 m2 !k) (y.K !k)) RB (.slice (some ⟨br, o, none⟩) nrow capr) v3 va vm (.int .i64 (i : Nat)) k bW bv c1 c2 d1 d2 b9 b12 lv (y.e k) (y.t k) (ccK m1 m2 k) (y.K k) key bn bu bt y.N y.U y.T ac adv m capv (ac.val.take m) adm q capm (ac.l.take q)
      (by omega) (by omega) hK hk hk32 ok.nm (by omega) (by omega) ok.ht (ok.new k) hyt hlt (by omega) y.hh hv hsv hds _ rfl) ts_ (fun _ s => s.picks [0, 1, 0, 0, 0, 0, 0, 0, 0, 0, 0, 0, 0, 0]) ?_
    rintro ⟨y2, b13, b14⟩ ⟨hle2, hW⟩
    dsimp only at hle2 ⊢
    have hW : W2Ok key (nmB ac.name) (ac.val.take m) (idK k) (y.e k) (y.t k) (y.K k) y.N y.U y.T ac.del ac.u (ac.l.take q) y2 := hW
    obtain ⟨hbl, hgv, hcase⟩ := hW
    rcases hcase with ⟨her, q1, q2, q3, q4, q5⟩ | ⟨her, hck, q1, q3, q4, n, tv, se, hn, hq, q2, hnK, q5, htv, hgd, hgu, hgl, hgb0, hgb9⟩
    · --(exact tk_):= (exact tk_)
      repeat' (first|(refine ycf ?_;apply ybk;(·first|(exact tk_));(·rfl);(·rfl))|refine t1_ ?_|(refine ta_ ?_;intro _)|((fail_if_success (refine ybi rfl ?_));refine ybj rfl ?_ ?_<;>(intro ht;rw [ht];first|replace ht := oet_ ht|replace ht := oef_ ht|skip))|(refine ych ?_;first|(refine ybw rfl ?_ ?_<;>intro ht)|(refine ybx rfl ?_ ?_<;>intro ht)))
      refine nx_ends ({ y with hh := y2.hh }, va, vm, lv) ⟨ok.stay hle2, hle2⟩ ts_ (fun _ s => LKT_back _ _ _ _ _ _ _ _ _ _ _ _ k _ _ _ _ ?_)
      have s2 := s.picks [1, 2, 2, 2, 2, 2, 2, 2, 2, 2, 2, 2]
      rw [q1, q2, q3, q4, q5] at s2
      exact s2
    · --(exact tk_):= (exact tk_)
      repeat' (first|(refine ycf ?_;apply ybk;(·first|(exact tk_));(·rfl);(·rfl))|refine t1_ ?_|(refine ta_ ?_;intro _)|((fail_if_success (refine ybi rfl ?_));refine ybj rfl ?_ ?_<;>(intro ht;rw [ht];first|replace ht := oet_ ht|replace ht := oef_ ht|skip))|(refine ych ?_;first|(refine ybw rfl ?_ ?_<;>intro ht)|(refine ybx rfl ?_ ?_<;>intro ht)))
      refine cx_piece (r17_sp w0 h0 (cmR (ccK m1 m2 k) y2.K) (nmR bn y2.N) (usR bu y2.U) (tbR bt y2.T) (rowAT va y.AA) (rowMT vm y.MM) (rowLT lv y.LL) (clR (ccK c1 c2 !k) (idK !k) bv (y.e !k) (y.t !k) (ccK m1 m2 !k)) (cmR (ccK m1 m2 !k) (y.K !k)) RB (.slice (some ⟨br, o, none⟩) nrow capr) v3 va vm (.int .i64 (i : Nat)) k bW bv c1 c2 d1 d2 b9 b12 b14 lv (y.e k) y2.ct (ccK m1 m2 k) ac y2.g adv m capv (ac.val.take m) adm q capm (ac.l.take q)
        hyt y2.hh (hsv.mono hle2) (hds.mono hle2) _ rfl) ts_ (fun _ s => s.picks [14, 0, 0, 0, 0, 0, 0, 0, 0, 0, 0, 0, 0, 0, 0]) ?_
      rintro b16 -
      obtain ⟨z, hz⟩ : ∃ z : Vl, z = ⟨y2.g.d, y.e k, ac.u, ac.hu, ac.l.take q, .slice adm q capm, ac.del, ac.val.take m, .string (bstr (ac.val.take m))⟩ := ⟨_, rfl⟩
      rw [← hz]
      have hzl := vlc_len z
      obtain ⟨v, hvz⟩ : ∃ v : Vl, v = if ac.del then ⟨z.d, z.ep, z.u, z.hu, z.l, z.mv, z.gone, [], .string (bstr [])⟩ else z := ⟨_, rfl⟩
      have hvr : Vr y2.hh v ∧ Bytes v.b ∧ v.l.length ≤ 34 := by
        rw [hvz, hz]
        split
        · exact ⟨⟨hds.mono hle2, rfl⟩, (fun x hx => by cases hx), by show (ac.l.take q).length ≤ 34; omega⟩
        · exact ⟨⟨hds.mono hle2, rfl⟩, hyt, by show (ac.l.take q).length ≤ 34; omega⟩
      have hvt : v.t = ((idK k, n + 1), ac.u, ac.l.take q, y.e k, ac.del, if ac.del then [] else ac.val.take m) := by
        rw [hvz, hz, ← hgd]
        cases ac.del <;> rfl
      have hvl := vlc_len v
      have hvo := hvr.1.one
      refine yby ?_
      refine ybo ?_
      refine cx_cut (X := Unit) (fun _ => [(0, .slice (some ⟨br, o, none⟩) nrow capr), (3, v3), (5, .pointer (some ⟨bW, 0, none⟩)), (6, va), (7, vm), (8, .int .i64 (i : Nat)), (9, .pointer (some ⟨b9, 0, none⟩)), (14, .pointer (some ⟨b14, 0, none⟩)), (16, .pointer (some ⟨b16, 0, none⟩))]) (fun _ => y2.hh)
        (fun _ => [Res.blk b16 (.cells (vlc v).toArray 67 (0, 0)), rowAT va y.AA, rowMT vm y.MM, rowLT lv y.LL, Res.blk b14 (.cells (sbc y2.g).toArray 47 (0, 0)), Res.blk b9 (.cells (acc ac).toArray 41 (0, 0)), wlR bW bv c1 c2 d1 d2 lv, clR (ccK c1 c2 k) (idK k) bv (y.e k) y2.ct (ccK m1 m2 k), cmR (ccK m1 m2 k) y2.K, nmR bn y2.N, usR bu y2.U, tbR bt y2.T, clR (ccK c1 c2 !k) (idK !k) bv (y.e !k) (y.t !k) (ccK m1 m2 !k), cmR (ccK m1 m2 !k) (y.K !k), RB]) (fun _ => True) ?_ ?_
      · cases hdel : ac.del
        · have hvz2 : v = z := by rw [hvz, hdel]; rfl
          repeat' (first|(refine ycf ?_;apply ybk;(·first|(exact tk_)|(apply yae;(·rfl);(·(exact cellat_eq' (ac_del (yaz 4 rfl)) (by rw [hdel])))));(·rfl);(·rfl))|refine t1_ ?_|(refine ta_ ?_;intro _)|((fail_if_success (refine ybi rfl ?_));refine ybj rfl ?_ ?_<;>(intro ht;rw [ht];first|replace ht := oet_ ht|replace ht := oef_ ht|skip))|(refine ych ?_;first|(refine ybw rfl ?_ ?_<;>intro ht)|(refine ybx rfl ?_ ?_<;>intro ht)))
          rw [hvz2]
          exact nx_cut () trivial ts_ (fun _ s => s.picks [0, 9, 9, 9, 0, 2, 1, 1, 1, 1, 1, 1, 1, 1, 1])
        · have hvz2 : vlc v = vlc ⟨z.d, z.ep, z.u, z.hu, z.l, z.mv, z.gone, [], .string (bstr [])⟩ := by rw [hvz, hdel]; rfl
          have hsp := spl_vlT z (.string (bstr [])) [] rfl
          rw [← hvz2] at hsp
          repeat' (first|(refine ycf ?_;apply ybk;(·first|(exact tk_)|(apply yae;(·rfl);(·(exact cellat_eq' (ac_del (yaz 4 rfl)) (by rw [hdel])))));(·rfl);(·rfl))|(refine ybg 0 rfl rfl rfl rfl (by show 0 + 21 + 1 ≤ (vlc z).toArray.size;rw [List.size_toArray, hzl];omega) rfl hsp rfl rfl ?_ ?_ ?_;(·(exact to_));(·(exact to_)))|refine t1_ ?_|(refine ta_ ?_;intro _)|((fail_if_success (refine ybi rfl ?_));refine ybj rfl ?_ ?_<;>(intro ht;rw [ht];first|replace ht := oet_ ht|replace ht := oef_ ht|skip))|(refine ych ?_;first|(refine ybw rfl ?_ ?_<;>intro ht)|(refine ybx rfl ?_ ?_<;>intro ht)))
          exact nx_cut () trivial ts_ (fun _ s => s.picks [0, 9, 9, 9, 0, 2, 1, 1, 1, 1, 1, 1, 1, 1, 1])
      · intro _ _
        have hAl := ok.an
        have hMl : y.MM.length ≤ i := by have := ok.al; omega
        have hLl := ok.ll
        refine yby ?_
        refine ybo ?_
        refine cx_piece (r20_sp w0 h0 (rowLT lv y.LL) (Res.blk b14 (.cells (sbc y2.g).toArray 47 (0, 0))) (wlR bW bv c1 c2 d1 d2 lv) (clR (ccK c1 c2 k) (idK k) bv (y.e k) y2.ct (ccK m1 m2 k)) (cmR (ccK m1 m2 k) y2.K) (nmR bn y2.N) (usR bu y2.U) (tbR bt y2.T) (clR (ccK c1 c2 !k) (idK !k) bv (y.e !k) (y.t !k) (ccK m1 m2 !k)) (cmR (ccK m1 m2 !k) (y.K !k)) RB
          (.slice (some ⟨br, o, none⟩) nrow capr) v3 (.pointer (some ⟨bW, 0, none⟩)) (.int .i64 (i : Nat)) (.pointer (some ⟨b14, 0, none⟩)) b9 b16 ac v va vm y.AA y.MM (by omega) (by omega) y2.hh hvr.1 _ rfl) ts_ (fun _ s => s.picks [0, 0, 0, 2, 0, 0, 0, 0, 0, 0, 0, 0, 0, 0, 0]) ?_
        rintro ⟨h3, va2, vm2⟩ hle3
        dsimp only at hle3 ⊢
        refine yby ?_
        refine cx_piece (r21_sp w0 h0 (rowAT va2 (y.AA ++ [v])) (rowMT vm2 (y.MM ++ [nmB ac.name])) (clR (ccK c1 c2 k) (idK k) bv (y.e k) y2.ct (ccK m1 m2 k)) (cmR (ccK m1 m2 k) y2.K) (nmR bn y2.N) (usR bu y2.U) (tbR bt y2.T) (clR (ccK c1 c2 !k) (idK !k) bv (y.e !k) (y.t !k) (ccK m1 m2 !k)) (cmR (ccK m1 m2 !k) (y.K !k)) RB
          (.slice (some ⟨br, o, none⟩) nrow capr) v3 va2 vm2 (.int .i64 (i : Nat)) bW bv c1 c2 d1 d2 b14 lv y.LL y2.g (by omega) h3 (hgv.mono hle3) _ rfl) ts_ (fun _ s => s.picks [3, 3, 2, 0, 0, 0, 0, 0, 0, 0, 0, 0, 0]) ?_
        rintro lv2 -
        repeat' (first|(refine ycf ?_;apply ybk;(·first|(exact tk_)|(apply yae;(·rfl);(·(exact cellat_eq' (ac_del (yaz 4 rfl)) (by rw [hdel])))));(·rfl);(·rfl))|refine t1_ ?_|(refine ta_ ?_;intro _)|((fail_if_success (refine ybi rfl ?_));refine ybj rfl ?_ ?_<;>(intro ht;rw [ht];first|replace ht := oet_ ht|replace ht := oef_ ht|skip))|(refine ych ?_;first|(refine ybw rfl ?_ ?_<;>intro ht)|(refine ybx rfl ?_ ?_<;>intro ht)))
        have hgv3 := hgv.mono hle3
        refine nx_ends (⟨h3, y.e, upK' y.t k (y.t k + 1), upK' y.K k (mput (y.K k) (bstr (nmB ac.name)) (.int .i64 (n + 1))), addN y.N (nmB ac.name), y.U ++ [(idK k, y.t k + 1)],
          y.T ++ [((idK k, y.t k + 1, y.e k, bstr (boundF (blindF key y.N (nmB ac.name)) ⟨y.e k, y.t k + 1, idK k, n + 1, encW ac.u (ac.l.take q)⟩), bstr se), tv, padW (inF ac.del (ac.val.take m)))], y.LL ++ [⟨y2.g.d, y2.g.u, y2.g.hu, y2.g.l, y2.g.mv, y2.g.b, .string (bstr y2.g.b)⟩], y.AA ++ [v], y.MM ++ [nmB ac.name]⟩, va2, vm2, lv2)
          ⟨ok.add k (hle2.trans hle3) (nmB_by _) (by have := (nmB_len ac.name).2; omega) hnK hq ac.hu hck hyt hlt (htv.mono hle3) ⟨⟨hgv3.ds, rfl, hgv3.by8⟩, hgb0, hgb9, by show y2.g.l.length ≤ 34; rw [hgl]; omega⟩ ⟨hvr.1.mono hle3, hvr.2⟩ hvt, hle2.trans hle3⟩ ts_ (fun _ s => LKT_back _ _ _ _ _ _ _ _ _ _ _ _ k _ _ _ _ ?_)
        have s2 := s.picks [0, 3, 3, 3, 3, 3, 1, 1, 0, 0, 0, 0]
        rw [q1, q2, q3, q4, q5] at s2
        unfold LKT
        dsimp only
        rw [upK_same, upK_not, upK_same, upK_not]
        exact s2
end Go.Proofs.YtaofgcahmfailaaGreatDoor
end

section
namespace Go.Proofs.YtaofgcahmfailaaGreatDoor
open Go Go.Ck
set_option maxHeartbeats 4000000
theorem loop1_sp (w0 : World) (h0 : View) (RB : Res) (vr v3 : Value) (row : List ActD) (bW bv c1 c2 m1 m2 d1 d2 bn bu bt : Nat) (key : List Int) (hk : Bytes key) (hk32 : key.length = 32) (h : View) (hR : Acts h vr row) (hRl : row.length ≤ 9223372036854775807)
    (hRx : ∀ x ∈ row, x.val.length ≤ 9223372036854775807 ∧ x.l.length ≤ 9223372036854775807) (hv : Vb h bv true key bn bu bt) (L0 : List Res) (hL0 : L0 = LRT bW bv c1 c2 m1 m2 d1 d2 bn bu bt RB ⟨h, fun _ => 1, fun _ => 0, fun _ => [], [], [], [], [], [], []⟩ (.slice none 0 0) (.slice none 0 0) (.slice none 0 0)) :
    CX Tryz.prog 327 ⟨w0, h0, []⟩ (cGet (cBlk 0 (cGet Tryz.f5.body))) [(0, vr), (3, v3), (5, .pointer (some ⟨bW, 0, none⟩)), (6, .slice none 0 0), (7, .slice none 0 0), (8, .int .i64 0)] h L0
      (PEnds (X := Nat × TrS × Value × Value × Value) 327 ⟨w0, h0, []⟩ (fun z => [(3, v3), (5, .pointer (some ⟨bW, 0, none⟩)), (6, z.2.2.1), (7, z.2.2.2.1)]) (fun z => z.2.1.hh)
        (fun z => LRT bW bv c1 c2 m1 m2 d1 d2 bn bu bt RB z.2.1 z.2.2.1 z.2.2.2.1 z.2.2.2.2) (fun z => z.1 ≤ 8 ∧ TrOk key z.1 z.2.1 ∧ Le h z.2.1.hh)) := by
  subst hL0
  obtain ⟨hs, hsv⟩ := hR
  obtain ⟨_, ad, cap, rfl, hcap, _⟩ := id hs
  refine ybq ?_
  refine cx_loop (X := Nat × TrS × Value × Value × Value) (fun z => [(0, .slice ad row.length cap), (3, v3), (5, .pointer (some ⟨bW, 0, none⟩)), (6, z.2.2.1), (7, z.2.2.2.1), (8, .int .i64 (z.1 : Nat))]) (fun z => z.2.1.hh) (fun z => LRT bW bv c1 c2 m1 m2 d1 d2 bn bu bt RB z.2.1 z.2.2.1 z.2.2.2.1 z.2.2.2.2)
    (fun z => z.1 ≤ row.length ∧ z.1 ≤ 8 ∧ TrOk key z.1 z.2.1 ∧ Le h z.2.1.hh) (fun z => 8 - z.1) (0, ⟨h, fun _ => 1, fun _ => 0, fun _ => [], [], [], [], [], [], []⟩, .slice none 0 0, .slice none 0 0, .slice none 0 0) ⟨Nat.zero_le _, Nat.zero_le _, trOk0 _ _, Le.refl _⟩ ts_ (fun _ s => s) ?_
  rintro ⟨i, y, va, vm, lv⟩ ⟨p1, p2, p3, p4⟩
  dsimp only at p1 p2 p3 p4 ⊢
  by_cases hir : i < row.length
  · by_cases hi8 : i < 8
    · obtain ⟨br, o, rfl⟩ := hs.ad (by omega) (by omega)
      have hel : ∀ L, Cells y.hh L ⟨br, o + i * 25, none⟩ (acc row[i]) := fun L => (hs.mono p4).elem acc_len i hir
      have hmem := List.getElem_mem hir
      have hxv : Av y.hh row[i] := (hsv _ hmem).mono p4
      have hlim := hRx _ hmem
      generalize row[i] = ac at hel hmem hxv hlim
      refine ybo ?_
      refine cx_cut (X := Unit) (fun _ => [(0, .slice (some ⟨br, o, none⟩) row.length cap), (3, v3), (5, .pointer (some ⟨bW, 0, none⟩)), (6, va), (7, vm), (8, .int .i64 (i : Nat))]) (fun _ => y.hh) (fun _ => LRT bW bv c1 c2 m1 m2 d1 d2 bn bu bt RB y va vm lv) (fun _ => True) ?_ ?_
      · repeat' (first|(refine ycf ?_;apply ybk;(·first|(exact tk_));(·rfl);(·rfl))|refine t1_ ?_|(refine ta_ ?_;intro _)|((fail_if_success (refine ybi rfl ?_));refine ybj rfl ?_ ?_<;>(intro ht;rw [ht];first|replace ht := oet_ ht|replace ht := oef_ ht|skip))|(refine ych ?_;first|(refine ybw rfl ?_ ?_<;>intro ht)|(refine ybx rfl ?_ ?_<;>intro ht)))
        exact nx_cut () trivial ts_ (fun _ s => s)
      · intro _ _
        refine yby ?_
        refine ybo ?_
        refine cx_piece (round_sp w0 h0 RB br o row.length cap v3 bW bv c1 c2 m1 m2 d1 d2 bn bu bt key hk hk32 i hir hi8 ac y p3 va vm lv (hv.mono p4) hxv hel hlim.1 hlim.2 _ rfl) ts_ (fun _ s => s) ?_
        rintro ⟨y2, va2, vm2, lv2⟩ ⟨q1, q2⟩
        dsimp only at q1 q2 ⊢
        repeat' (first|(refine ycf ?_;apply ybk;(·first|(exact tk_));(·rfl);(·rfl))|refine t1_ ?_|(refine ta_ ?_;intro _)|((fail_if_success (refine ybi rfl ?_));refine ybj rfl ?_ ?_<;>(intro ht;rw [ht];first|replace ht := oet_ ht|replace ht := oef_ ht|skip))|(refine ych ?_;first|(refine ybw rfl ?_ ?_<;>intro ht)|(refine ybx rfl ?_ ?_<;>intro ht)))
        exact nx_round (i + 1, y2, va2, vm2, lv2) ⟨by show i + 1 ≤ _; omega, by show i + 1 ≤ 8; omega, q1, p4.trans q2⟩ (by show 8 - (i + 1) < 8 - i; omega) ts_ (fun _ s => s)
    · repeat' (first|(refine ycf ?_;apply ybk;(·first|(exact tk_));(·rfl);(·rfl))|refine t1_ ?_|(refine ta_ ?_;intro _)|((fail_if_success (refine ybi rfl ?_));refine ybj rfl ?_ ?_<;>(intro ht;rw [ht];first|replace ht := oet_ ht|replace ht := oef_ ht|skip))|(refine ych ?_;first|(refine ybw rfl ?_ ?_<;>intro ht)|(refine ybx rfl ?_ ?_<;>intro ht)))
      exact nx_ends (i, y, va, vm, lv) ⟨p2, p3, p4⟩ ts_ (fun _ s => s)
  · repeat' (first|(refine ycf ?_;apply ybk;(·first|(exact tk_));(·rfl);(·rfl))|refine t1_ ?_|(refine ta_ ?_;intro _)|((fail_if_success (refine ybi rfl ?_));refine ybj rfl ?_ ?_<;>(intro ht;rw [ht];first|replace ht := oet_ ht|replace ht := oef_ ht|skip))|(refine ych ?_;first|(refine ybw rfl ?_ ?_<;>intro ht)|(refine ybx rfl ?_ ?_<;>intro ht)))
    exact nx_ends (i, y, va, vm, lv) ⟨p2, p3, p4⟩ ts_ (fun _ s => s)
end Go.Proofs.YtaofgcahmfailaaGreatDoor
end
