/-
  For every row of acts the law ClientNumbers returns true, and the row reads as it did.
  Conditions: none.
-/
import Derived.Deep.Slices
import Derived.Carry
import Derived.DataReads
import Derived.DataShut
import Derived.Test.YtaofgcahmfailaaGreatDoorRows
import Derived.WalkKit
import Derived.ProofKit
import Derived.OpenShut
import Derived.LaidMore
import Derived.Stop.Joined
import Derived.SevenTiedAt
import Derived.Test.YtaofgcahmfailaaGreatDoorCards
import Derived.Test.YtaofgcahmfailaaGreatDoorTie
import Derived.Test.YtaofgcahmfailaaGreatDoorCiIPM14
section
namespace Go.Proofs.YtaofgcahmfailaaGreatDoor
open Go Go.Ck
set_option maxRecDepth 100000
set_option maxHeartbeats 4000000
set_option linter.unusedVariables false
theorem ClientNumbers_sp (rv : Value) (row : List ActD) (h : View) (hr : Acts h rv row) (hl : row.length ≤ 9223372036854775807) (hlv : ∀ a ∈ row, a.val.length ≤ 9223372036854775807) (w : World) (s : St ⟨w, h, []⟩ h [] w) :
    Calls Tryz.prog 3 [rv].toArray w fun e w' => ∃ h', e = .returned (.bool true) ∧ St ⟨w, h, []⟩ h' [] w' := by
  have hk : Bytes (key1 1) := key1_by (by omega)
  obtain ⟨_, adr, capr, rfl, hcapr, _⟩ := (show Sc _ _ _ _ _ from hr.1)
  refine calls_enter Tryz.func3 rfl Tryz.ntmps3 rfl s ?_
  repeat' (first|(refine ycf ?_;apply ybk;(·first|(exact qv_build_arr (cs := bcs (key1 1)) rfl rfl));(·rfl);(·rfl))|refine t1_ ?_|(refine ta_ ?_;intro _)|((fail_if_success (refine ybi rfl ?_));refine ybj rfl ?_ ?_<;>(intro ht;rw [ht];first|replace ht := oet_ ht|replace ht := oef_ ht|skip))|(refine ych ?_;first|(refine ybw rfl ?_ ?_<;>intro ht)|(refine ybx rfl ?_ ?_<;>intro ht)))
  (refine yco (ycp Tryz.func6 rfl (by kernel_rfl) rfl) (Ideal_sp (key1 1) rfl h) rfl rfl rfl ?_ ?_ ?_; (· (exact to_)); (· intro _ _ hle; (exact to_)); intro x px hle)
  obtain ⟨h1, bv, bn, bu, bt⟩ := x
  dsimp only at px hle ⊢
  have hv1 : Vb h1 bv true (key1 1) bn bu bt := px
  have hle1 : Le h h1 := hle
  clear px hle
  repeat' (first|refine tw_ ?_|(refine ta_ ?_;intro _)|((fail_if_success (refine ybi rfl ?_));refine ybj rfl ?_ ?_<;>(intro ht;rw [ht];first|replace ht := oet_ ht|replace ht := oef_ ht|skip))|(refine ych ?_;first|(refine ybw rfl ?_ ?_<;>intro ht)|(refine ybx rfl ?_ ?_<;>intro ht)))
  (refine yco (ycp Tryz.func7 rfl (by kernel_rfl) rfl) (CNew_sp 7 (by omega) bv h1) rfl rfl rfl ?_ ?_ ?_; (· (exact to_)); (· intro _ _ hle; (exact to_)); intro x px hle)
  obtain ⟨bc, bm⟩ := x
  dsimp only at px hle ⊢
  clear px hle
  repeat' (first|refine tw_ ?_|(refine ta_ ?_;intro _)|((fail_if_success (refine ybi rfl ?_));refine ybj rfl ?_ ?_<;>(intro ht;rw [ht];first|replace ht := oet_ ht|replace ht := oef_ ht|skip))|(refine ych ?_;first|(refine ybw rfl ?_ ?_<;>intro ht)|(refine ybx rfl ?_ ?_<;>intro ht)))
  (refine yco (ycp Tryz.func8 rfl (by kernel_rfl) rfl) (clients_sp h1) rfl rfl rfl ?_ ?_ ?_; (· (exact to_)); (· intro _ _ hle; (exact to_)); intro x px hle)
  obtain ⟨h2, rfl⟩ : ∃ y, y = x := ⟨x, rfl⟩
  have hle2 : Le h1 h2 := hle
  clear px hle
  repeat' (first|(refine ycf ?_;apply ybk;(·first|(exact tk_));(·rfl);(·rfl))|refine t1_ ?_|(refine ta_ ?_;intro _)|((fail_if_success (refine ybi rfl ?_));refine ybj rfl ?_ ?_<;>(intro ht;rw [ht];first|replace ht := oet_ ht|replace ht := oef_ ht|skip))|(refine ych ?_;first|(refine ybw rfl ?_ ?_<;>intro ht)|(refine ybx rfl ?_ ?_<;>intro ht)))
  rename_i b3
  refine cx_perm (L' := [Res.blk b3 (.cells (up [0, 0, 0]).toArray 31 (0, 0)), clR bc 7 bv 1 ((0 : Nat) : Int) bm, cmR bm [], nmR bn [], usR bu [], tbR bt []]) (.refl _) ?_
  refine cx_loop (X := Nat × Cnt) (fun y => [(0, .slice adr row.length capr), (3, .pointer (some ⟨bv, 0, none⟩)), (4, .pointer (some ⟨bc, 0, none⟩)), (6, .pointer (some ⟨b3, 0, none⟩)), (7, .int .i64 (y.2.sl : Nat)), (8, .int .i64 (y.1 : Nat))]) (fun y => y.2.hh)
    (fun y => [Res.blk b3 (.cells (up y.2.n).toArray 31 (0, 0)), clR bc 7 bv 1 (y.2.sl : Nat) bm, cmR bm y.2.K, nmR bn y.2.N, usR bu y.2.U, tbR bt y.2.T]) (fun y => y.1 ≤ row.length ∧ y.1 ≤ 14 ∧ Le h2 y.2.hh ∧ CntOk y.1 y.2) (fun y => 14 - y.1) (0, ⟨h2, [0, 0, 0], 0, [], [], [], []⟩)
    ⟨Nat.zero_le _, Nat.zero_le _, Le.refl _, cnt0 h2⟩ ts_ (fun _ s => s) ?_
  rintro ⟨i, hh, n, sl, K, N, U, T⟩ ⟨p1, p2, p3, p4⟩
  dsimp only at p1 p2 p3 p4 ⊢
  by_cases hc : i < row.length ∧ i < 14
  · obtain ⟨bs, o, rfl⟩ := (hr.1.mono hle1).ad (by omega) (by omega)
    have hle3 : Le h hh := Le.trans (Le.trans hle1 hle2) p3
    have hrm := hr.1.mono hle3
    have hel : ∀ L, Cells hh L ⟨bs, o + i * 25, none⟩ (acc row[i]) := fun L => hrm.elem acc_len i hc.1
    have hav : Av hh row[i] := (hr.2 _ (List.getElem_mem hc.1)).mono hle3
    have hvl := hlv _ (List.getElem_mem hc.1)
    obtain ⟨x, hx⟩ : ∃ x, row[i]'hc.1 = x := ⟨_, rfl⟩
    rw [hx] at hel hav hvl
    have hU : ∀ z : Int, 0 ≤ IntKind.u64.wrap z ∧ IntKind.u64.wrap z < 18446744073709551616 := fun z => by simp [IntKind.wrap, IntKind.bits, IntKind.signed]; omega
    obtain ⟨k, hk3, hk3'⟩ : ∃ k : Nat, (IntKind.u64.wrap x.name).tmod 3 = (k : Int) ∧ k < 3 := ⟨((IntKind.u64.wrap x.name) % 3).toNat, by have := hU x.name; rw [Int.tmod_eq_emod_of_nonneg this.1]; omega, by omega⟩
    have wk : IntKind.i64.wrap (k : Int) = (k : Int) := by rw [IntKind.wrap_i64]; omega
    have w8 : IntKind.u8.wrap (k : Int) = (k : Int) := by rw [wrap_u8]; omega
    have hnk := p4.nb k hk3'
    have hnl : n.length = 3 := p4.n3
    have cn := getD_at3 (l := n) (i := k) (by omega)
    have hkn : numK K [110, (k : Int)] (n.getD k 0) := p4.kn k hk3'
    dsimp only at hnk
    repeat' (first|(refine ycf ?_;apply ybk;(·first|(first|(refine qv_convert_int' rfl wk)|exact tk_|(refine qv_convert_int' rfl rfl)|(refine qv_remr rfl rfl (by decide) hk3))|(apply yae;(·rfl);(·(exact ac_name (hel _)))));(·rfl);(·rfl))|refine t1_ ?_|(refine ta_ ?_;intro _)|((fail_if_success (refine ybi rfl ?_));refine ybj rfl ?_ ?_<;>(intro ht;rw [ht];first|replace ht := oet_ ht|replace ht := oef_ ht|skip))|(refine ych ?_;first|(refine ybw rfl ?_ ?_<;>intro ht)|(refine ybx rfl ?_ ?_<;>intro ht)))
    rename_i b10
    obtain ⟨adv, capv, hvv, hcv⟩ : ∃ a c, x.vv = .slice a x.val.length c ∧ x.val.length ≤ c := by
      obtain ⟨_, a, c, e, e', _⟩ := hav.vs
      exact ⟨a, c, e, e'⟩
    obtain ⟨m, hm⟩ : ∃ m, m = min x.val.length 50 := ⟨_, rfl⟩
    have hj : (if (50 : Int) < (x.val.length : Int) then (50 : Int) else (x.val.length : Int)) = (m : Int) := by rw [hm];split<;>omega
    have hsv : Bs8 hh (.slice adv m capv) (x.val.take m) := bs_pre (by rw [← hvv]; exact hav.vs) (by omega)
    have hk1 : IntKind.i64.wrap (k : Int) = k := wk
    have hnm2 : Bytes [110, (k : Int)] := by intro y hy; simp only [List.mem_cons, List.not_mem_nil, or_false] at hy; omega
    have hnew : ((7 : Int), (sl : Int) + 1) ∉ U := fun hin => by have := p4.us _ hin; dsimp only at this; omega
    have hv3 : Vb hh bv true (key1 1) bn bu bt := hv1.mono (Le.trans hle2 p3)
    have pN : N.length ≤ i := p4.nl
    have pU : U.length = sl := p4.ul
    have pS : sl ≤ i := p4.sb
    cases hdel : x.del with
    | true =>
      have hdc : ∀ L, CellAt hh L bs (o + i * 25 + 4) (.bool true) := fun L => by
        have := ac_del (hel L)
        rwa [hdel] at this
      repeat' (first|(refine ycf ?_;apply ybk;(·first|(exact tk_)|(apply yae;(·rfl);(·(first|exact hdc _|exact cell_up3 (yaz 1 rfl) cn (by omega)))));(·rfl);(·rfl))|refine t1_ ?_|(refine ta_ ?_;intro _)|((fail_if_success (refine ybi rfl ?_));refine ybj rfl ?_ ?_<;>(intro ht;rw [ht];first|replace ht := oet_ ht|replace ht := oef_ ht|skip))|(refine ych ?_;first|(refine ybw rfl ?_ ?_<;>intro ht)|(refine ybx rfl ?_ ?_<;>intro ht)))
      refine cx_perm (L' := [Res.blk b10 (.cells (cxc (zeroU.set 6 (n.getD k 0 + 1)) (.slice none 0 0)).toArray 42 (0, 0)), Res.blk b3 (.cells (up n).toArray 31 (0, 0)), clR bc 7 bv 1 (sl : Nat) bm, cmR bm K, nmR bn N, usR bu U, tbR bt T]) (.refl _) ?_
      refine cx_region_floatV [Res.blk b10 (.cells (cxc (zeroU.set 6 (n.getD k 0 + 1)) (.slice none 0 0)).toArray 42 (0, 0))] [3, 18, 23, 24, 25, 26, 27] [0, 1, 2, 3, 4, 5, 6, 7, 8, 9, 10, 11, 12, 13, 14, 15, 16, 17, 18, 19, 20, 21, 22] [(23, 11, fun b => .pointer (some ⟨b, 0, none⟩), .cells (bcs (List.replicate 32 0)).toArray 43 (0, 0)), (24, 12, fun b => .pointer (some ⟨b, 0, none⟩), .cells (sbc zSb).toArray 47 (0, 0))] [25, 26, 27] rfl (by kernel_rfl) ?_
      intro D ys hD
      refine gx_with (List.forall_mem_cons.2 ⟨⟨rfl, rfl, rfl, by kernel_rfl, fun _ _ _ => MA.cast (ybc (T := 43)) rfl⟩, List.forall_mem_cons.2 ⟨⟨rfl, rfl, rfl, by kernel_rfl, fun _ _ _ => MA.cast (ybc (T := 47)) rfl⟩, fun y hy => (by cases hy)⟩⟩) (by decide) (fun hok hnd => ?_)
      iterate 3
        refine gx_q rfl ?_
        repeat' (refine ycf ?_;(first|(first|(apply ybm;(·(first|(first|(refine qv_convert_int' rfl w8)|exact tk_)|(apply yae;(·rfl);(·(first|exact hdc _|exact cell_up3 (yaz 1 rfl) cn (by omega))))|exact tq_));(·rfl);(·rfl);(·(exact hd_one' (Le.refl hh) (List.mem_append_left _ tmm_))))|refine ybl rfl rfl ?_|((fail_if_success (refine ybi rfl ?_));refine ybj rfl ?_ ?_<;>(intro ht;rw [ht];first|replace ht := oet_ ht|replace ht := oef_ ht|skip))|(refine tb_ ?_ ?_ ?_;(·(first|exact ybf|(refine .inl ?_;(exact hd_one' (Le.refl hh) (List.mem_append_left _ tmm_)))|exact to_));(·intro _;(first|exact ybf|(refine .inl ?_;(exact hd_one' (Le.refl hh) (List.mem_append_left _ tmm_)))|exact to_));intro _)|(first|(refine tqs_ ?_ ?_ ?_;(·(first|exact ybf|(refine .inl ?_;(exact hd_one' (Le.refl hh) (List.mem_append_left _ tmm_)))|exact to_));(·(first|exact ybf|(refine .inl ?_;(exact hd_one' (Le.refl hh) (List.mem_append_left _ tmm_)))|exact to_))))|(apply ybn;(·(first|(first|(refine qv_convert_int' rfl w8)|exact tk_)|(apply yae;(·rfl);(·(first|exact hdc _|exact cell_up3 (yaz 1 rfl) cn (by omega))))|exact tq_));(·rfl);(·rfl);(·rfl);(·(first|exact ybf|(refine .inl ?_;(exact hd_one' (Le.refl hh) (List.mem_append_left _ tmm_)))|exact to_))))|refine ycg ?_))
        refine gx_putn ?_
      refine gx_step hok hnd rfl rfl (fun D w s => hd_one' (Le.refl hh) (List.mem_append_left _ tmm_) w s) (fun D ys hD => ?_) _ _ hD
      refine yba (ybd rfl rfl rfl rfl) rfl rfl rfl ?_ ?_ ?_
      · (first|exact ybf|(refine .inl ?_;(exact hd_one' (Le.refl hh) (List.mem_append_left _ tmm_)))|exact to_)
      · intro _; exact .inl (hd_one' (Le.refl hh) (List.mem_cons_of_mem _ (List.mem_append_left _ tmm_)))
      intro b60
      refine rx_rowOf 1 2 2 (Nat.le_refl _) (by unfold maxLen; omega) rfl ?_
      refine rx_persist rfl fun h4 hle4 hn4 => ?_
      have hn4 : Bs8 h4 (.slice (some ⟨b60, 0, none⟩) ([110, (k : Int)] : List Int).length 2) [110, (k : Int)] := hn4
      have hel4 : ∀ L, Cells h4 L ⟨bs, o + i * 25, none⟩ (acc x) := fun L => (hrm.mono hle4).elem acc_len i hc.1 |> fun c => by rw [hx] at c; exact c
      refine ycg ?_
      refine gx_putn ?_
      iterate 14
        refine gx_q rfl ?_
        repeat' (refine ycf ?_;(first|(first|(apply ybm;(·(first|(first|exact tk_|(refine qv_min' rfl rfl hj)|(apply qv_slice_to;(·rfl);(·rfl);(·omega);(·omega))|(apply yad;(·rfl);(·exact yaz 0 rfl);(·rfl)))|(apply yae;(·rfl);(·(exact ac_val (hel _) hvv)))|exact tq_));(·rfl);(·rfl);(·(exact hd_one' hle4 (List.mem_append_left _ tmm_))))|refine ybl rfl rfl ?_|((fail_if_success (refine ybi rfl ?_));refine ybj rfl ?_ ?_<;>(intro ht;rw [ht];first|replace ht := oet_ ht|replace ht := oef_ ht|skip))|(refine tb_ ?_ ?_ ?_;(·(first|exact ybf|(refine .inl ?_;(exact hd_one' hle4 (List.mem_append_left _ tmm_)))|exact to_));(·intro _;(first|exact ybf|(refine .inl ?_;(exact hd_one' hle4 (List.mem_append_left _ tmm_)))|exact to_));intro _)|(first|(refine tqs_ ?_ ?_ ?_;(·(first|exact ybf|(refine .inl ?_;(exact hd_one' hle4 (List.mem_append_left _ tmm_)))|exact to_));(·(first|exact ybf|(refine .inl ?_;(exact hd_one' hle4 (List.mem_append_left _ tmm_)))|exact to_))))|(apply ybn;(·(first|(first|exact tk_|(refine qv_min' rfl rfl hj)|(apply qv_slice_to;(·rfl);(·rfl);(·omega);(·omega))|(apply yad;(·rfl);(·exact yaz 0 rfl);(·rfl)))|(apply yae;(·rfl);(·(exact ac_val (hel _) hvv)))|exact tq_));(·rfl);(·rfl);(·rfl);(·(first|exact ybf|(refine .inl ?_;(exact hd_one' hle4 (List.mem_append_left _ tmm_)))|exact to_))))|refine ycg ?_))
        refine gx_putn ?_
      refine gx_step hok hnd rfl rfl (fun D w s => hd_one' hle4 (List.mem_append_left _ tmm_) w s) (fun D ys hD => ?_) _ _ hD
      have hde : headE (zeroU.set 6 (n.getD k 0 + 1)) [] (7, n.getD k 0 + 1) = 11 := head_del (by omega)
      have W1 := CWrite_no bc 7 bv 1 (sl : Nat) bm K [110, (k : Int)] (n.getD k 0) false (zeroU.set 6 (n.getD k 0 + 1)) [] _ (.slice adv m capv) (cxv (zeroU.set 6 (n.getD k 0 + 1)) (.slice none 0 0)) (by omega) (by omega) (by omega) hkn (by rw [hde]; decide) (by simp) h4 hn4 ⟨rfl, _, rfl, Sc.nil _ _ _ _⟩
      rw [hde] at W1
      refine rx_call_l (ycp Tryz.func9 rfl (by kernel_rfl) rfl) (pick2 2 2 rfl rfl) W1 rfl rfl rfl (.inl (hd_one' hle4 (List.mem_append_left _ tmm_))) (fun _ _ hl => .inl (hd_one' (Le.trans hle4 hl) (List.mem_append_right _ (List.Mem.head _)))) ?_
      rintro h5 _ hle5
      dsimp only at hle5 ⊢
      have hle45 : Le hh h5 := Le.trans hle4 hle5
      refine rx_perm (L' := [clR bc 7 bv 1 (sl : Nat) bm, cmR bm K, Res.blk b10 (.cells (cxc (zeroU.set 6 (n.getD k 0 + 1)) (.slice none 0 0)).toArray 42 (0, 0)), Res.blk b3 (.cells (up n).toArray 31 (0, 0)), nmR bn N, usR bu U, tbR bt T] ++ LDy D) (.refl _) ?_
      refine ycg ?_
      refine gx_putn ?_
      iterate 4
        refine gx_q rfl ?_
        repeat' (refine ycf ?_;(first|(first|(apply ybm;(·(first|(exact tk_)|exact tq_));(·rfl);(·rfl);(·(exact hd_one' hle45 (List.mem_append_left _ tmm_))))|refine ybl rfl rfl ?_|((fail_if_success (refine ybi rfl ?_));refine ybj rfl ?_ ?_<;>(intro ht;rw [ht];first|replace ht := oet_ ht|replace ht := oef_ ht|skip))|(refine tb_ ?_ ?_ ?_;(·(first|exact ybf|(refine .inl ?_;(exact hd_one' hle45 (List.mem_append_left _ tmm_)))|exact to_));(·intro _;(first|exact ybf|(refine .inl ?_;(exact hd_one' hle45 (List.mem_append_left _ tmm_)))|exact to_));intro _)|(first|(refine tqs_ ?_ ?_ ?_;(·(first|exact ybf|(refine .inl ?_;(exact hd_one' hle45 (List.mem_append_left _ tmm_)))|exact to_));(·(first|exact ybf|(refine .inl ?_;(exact hd_one' hle45 (List.mem_append_left _ tmm_)))|exact to_))))|(apply ybn;(·(first|(exact tk_)|exact tq_));(·rfl);(·rfl);(·rfl);(·(first|exact ybf|(refine .inl ?_;(exact hd_one' hle45 (List.mem_append_left _ tmm_)))|exact to_))))|refine ycg ?_))
        refine gx_putn ?_
      refine gx_end hok hnd rfl rfl (fun D w s => hd_one' hle45 (List.mem_append_left _ tmm_) w s) (fun D hD => ?_) _ _ hD
      obtain ⟨b11, b12, rfl⟩ := two hD
      have hol : (bcs (List.replicate 32 0)).length = 32 := rfl
      refine rx_to (F' := [(0, .slice (some ⟨bs, o, none⟩) row.length capr), (3, .pointer (some ⟨bv, 0, none⟩)), (4, .pointer (some ⟨bc, 0, none⟩)), (6, .pointer (some ⟨b3, 0, none⟩)), (7, .int .i64 (sl : Nat)), (8, .int .i64 (i : Nat)), (9, .int .i64 k), (11, .pointer (some ⟨b11, 0, none⟩)), (12, .pointer (some ⟨b12, 0, none⟩)), (76, .agg (bcs (List.replicate 32 0)).toArray), (77, sbv zSb), (78, .int .i64 11)]) (L' := [clR bc 7 bv 1 (sl : Nat) bm, cmR bm K, Res.blk b10 (.cells (cxc (zeroU.set 6 (n.getD k 0 + 1)) (.slice none 0 0)).toArray 42 (0, 0)), Res.blk b3 (.cells (up n).toArray 31 (0, 0)), nmR bn N, usR bu U, tbR bt T, Res.blk b11 (.cells (bcs (List.replicate 32 0)).toArray 43 (0, 0)), Res.blk b12 (.cells (sbc zSb).toArray 47 (0, 0))]) ts_ rfl ?_
      repeat' (refine ycf ?_;(first|(first|(apply ybm;(·(first|(exact tk_)|exact tq_));(·rfl);(·rfl);(·(exact hd_one' hle45 tmm_)))|refine ybl rfl rfl ?_|((fail_if_success (refine ybi rfl ?_));refine ybj rfl ?_ ?_<;>(intro ht;rw [ht];first|replace ht := oet_ ht|replace ht := oef_ ht|skip))|(refine tb_ ?_ ?_ ?_;(·(first|exact ybf|(refine .inl ?_;(exact hd_one' hle45 tmm_))|exact to_));(·intro _;(first|exact ybf|(refine .inl ?_;(exact hd_one' hle45 tmm_))|exact to_));intro _)|(first|(first|(refine ybg 7 rfl rfl rfl (by show (bcs (List.replicate 32 0)).toArray.size = 32;simpa using hol) (by show 0 + (bcs (List.replicate 32 0)).toArray.size ≤ _;rw [List.size_toArray, hol];exact nble rfl) (List.all_eq_true.2 (bcs_one (List.replicate 32 0))) (ybh (by show (bcs (List.replicate 32 0)).length = _;rfl)) rfl rfl ?_ ?_ ?_;(·(first|exact ybf|(refine .inl ?_;(exact hd_one' hle45 tmm_))|exact to_));(·(first|exact ybf|(refine .inl ?_;(exact hd_one' hle45 tmm_))|exact to_)))|(refine ybg 8 rfl rfl rfl (sbc_sz zSb) (sbc_fit rfl) (sbc_one rfl rfl) (ybh (sbc_all rfl)) rfl rfl ?_ ?_ ?_;(·(first|exact ybf|(refine .inl ?_;(exact hd_one' hle45 tmm_))|exact to_));(·(first|exact ybf|(refine .inl ?_;(exact hd_one' hle45 tmm_))|exact to_))))|(refine tqs_ ?_ ?_ ?_;(·(first|exact ybf|(refine .inl ?_;(exact hd_one' hle45 tmm_))|exact to_));(·(first|exact ybf|(refine .inl ?_;(exact hd_one' hle45 tmm_))|exact to_))))|(apply ybn;(·(first|(exact tk_)|exact tq_));(·rfl);(·rfl);(·rfl);(·(first|exact ybf|(refine .inl ?_;(exact hd_one' hle45 tmm_))|exact to_))))|refine ycg ?_))
      have hdc5 : ∀ L, CellAt h5 L bs (o + i * 25 + 4) (.bool true) := fun L => by
        have hel5 : ∀ L, Cells h5 L ⟨bs, o + i * 25, none⟩ (acc x) := fun L => (hrm.mono hle45).elem acc_len i hc.1 |> fun c => by rw [hx] at c; exact c
        have := ac_del (hel5 L)
        rwa [hdel] at this
      repeat' (first|(refine ycf ?_;apply ybk;(·first|(exact tk_)|(apply yae;(·rfl);(·(first|exact hdc5 _|exact yay 8 rfl rfl))));(·rfl);(·rfl))|refine t1_ ?_|(refine ta_ ?_;intro _)|((fail_if_success (refine ybi rfl ?_));refine ybj rfl ?_ ?_<;>(intro ht;rw [ht];first|replace ht := oet_ ht|replace ht := oef_ ht|skip))|(refine ych ?_;first|(refine ybw rfl ?_ ?_<;>intro ht)|(refine ybx rfl ?_ ?_<;>intro ht)))
      refine nx_round (i + 1, ⟨h5, n, sl, K, N, U, T⟩) ⟨by show i + 1 ≤ row.length; omega, by show i + 1 ≤ 14; omega, Le.trans p3 hle45, p4.stay h5⟩ (by show 14 - (i + 1) < 14 - i; omega) ts_ (fun _ s => s.picks [3, 0, 0, 1, 1, 1])
    | false =>
      have hdc : ∀ L, CellAt hh L bs (o + i * 25 + 4) (.bool false) := fun L => by
        have := ac_del (hel L)
        rwa [hdel] at this
      repeat' (first|(refine ycf ?_;apply ybk;(·first|(exact tk_)|(apply yae;(·rfl);(·(exact hdc _))));(·rfl);(·rfl))|refine t1_ ?_|(refine ta_ ?_;intro _)|((fail_if_success (refine ybi rfl ?_));refine ybj rfl ?_ ?_<;>(intro ht;rw [ht];first|replace ht := oet_ ht|replace ht := oef_ ht|skip))|(refine ych ?_;first|(refine ybw rfl ?_ ?_<;>intro ht)|(refine ybx rfl ?_ ?_<;>intro ht)))
      refine cx_perm (L' := [Res.blk b10 (.cells (cxc zeroU (.slice none 0 0)).toArray 42 (0, 0)), Res.blk b3 (.cells (up n).toArray 31 (0, 0)), clR bc 7 bv 1 (sl : Nat) bm, cmR bm K, nmR bn N, usR bu U, tbR bt T]) (.refl _) ?_
      refine cx_region_floatV [Res.blk b10 (.cells (cxc zeroU (.slice none 0 0)).toArray 42 (0, 0))] [3, 18, 23, 24, 25, 26, 27] [0, 1, 2, 3, 4, 5, 6, 7, 8, 9, 10, 11, 12, 13, 14, 15, 16, 17, 18, 19, 20, 21, 22] [(23, 11, fun b => .pointer (some ⟨b, 0, none⟩), .cells (bcs (List.replicate 32 0)).toArray 43 (0, 0)), (24, 12, fun b => .pointer (some ⟨b, 0, none⟩), .cells (sbc zSb).toArray 47 (0, 0))] [25, 26, 27] rfl (by kernel_rfl) ?_
      intro D ys hD
      refine gx_with (List.forall_mem_cons.2 ⟨⟨rfl, rfl, rfl, by kernel_rfl, fun _ _ _ => MA.cast (ybc (T := 43)) rfl⟩, List.forall_mem_cons.2 ⟨⟨rfl, rfl, rfl, by kernel_rfl, fun _ _ _ => MA.cast (ybc (T := 47)) rfl⟩, fun y hy => (by cases hy)⟩⟩) (by decide) (fun hok hnd => ?_)
      iterate 3
        refine gx_q rfl ?_
        repeat' (refine ycf ?_;(first|(first|(apply ybm;(·(first|(first|(refine qv_convert_int' rfl w8)|exact tk_)|(apply yae;(·rfl);(·(exact hdc _)))|exact tq_));(·rfl);(·rfl);(·(exact hd_one' (Le.refl hh) (List.mem_append_left _ tmm_))))|refine ybl rfl rfl ?_|((fail_if_success (refine ybi rfl ?_));refine ybj rfl ?_ ?_<;>(intro ht;rw [ht];first|replace ht := oet_ ht|replace ht := oef_ ht|skip))|(refine tb_ ?_ ?_ ?_;(·(first|exact ybf|(refine .inl ?_;(exact hd_one' (Le.refl hh) (List.mem_append_left _ tmm_)))|exact to_));(·intro _;(first|exact ybf|(refine .inl ?_;(exact hd_one' (Le.refl hh) (List.mem_append_left _ tmm_)))|exact to_));intro _)|(first|(refine tqs_ ?_ ?_ ?_;(·(first|exact ybf|(refine .inl ?_;(exact hd_one' (Le.refl hh) (List.mem_append_left _ tmm_)))|exact to_));(·(first|exact ybf|(refine .inl ?_;(exact hd_one' (Le.refl hh) (List.mem_append_left _ tmm_)))|exact to_))))|(apply ybn;(·(first|(first|(refine qv_convert_int' rfl w8)|exact tk_)|(apply yae;(·rfl);(·(exact hdc _)))|exact tq_));(·rfl);(·rfl);(·rfl);(·(first|exact ybf|(refine .inl ?_;(exact hd_one' (Le.refl hh) (List.mem_append_left _ tmm_)))|exact to_))))|refine ycg ?_))
        refine gx_putn ?_
      refine gx_step hok hnd rfl rfl (fun D w s => hd_one' (Le.refl hh) (List.mem_append_left _ tmm_) w s) (fun D ys hD => ?_) _ _ hD
      refine yba (ybd rfl rfl rfl rfl) rfl rfl rfl ?_ ?_ ?_
      · (first|exact ybf|(refine .inl ?_;(exact hd_one' (Le.refl hh) (List.mem_append_left _ tmm_)))|exact to_)
      · intro _; exact .inl (hd_one' (Le.refl hh) (List.mem_cons_of_mem _ (List.mem_append_left _ tmm_)))
      intro b60
      refine rx_rowOf 1 2 2 (Nat.le_refl _) (by unfold maxLen; omega) rfl ?_
      refine rx_persist rfl fun h4 hle4 hn4 => ?_
      have hn4 : Bs8 h4 (.slice (some ⟨b60, 0, none⟩) ([110, (k : Int)] : List Int).length 2) [110, (k : Int)] := hn4
      have hel4 : ∀ L, Cells h4 L ⟨bs, o + i * 25, none⟩ (acc x) := fun L => (hrm.mono hle4).elem acc_len i hc.1 |> fun c => by rw [hx] at c; exact c
      refine ycg ?_
      refine gx_putn ?_
      iterate 14
        refine gx_q rfl ?_
        repeat' (refine ycf ?_;(first|(first|(apply ybm;(·(first|(first|exact tk_|(refine qv_min' rfl rfl hj)|(apply qv_slice_to;(·rfl);(·rfl);(·omega);(·omega))|(apply yad;(·rfl);(·exact yaz 0 rfl);(·rfl)))|(apply yae;(·rfl);(·(exact ac_val (hel _) hvv)))|exact tq_));(·rfl);(·rfl);(·(exact hd_one' hle4 (List.mem_append_left _ tmm_))))|refine ybl rfl rfl ?_|((fail_if_success (refine ybi rfl ?_));refine ybj rfl ?_ ?_<;>(intro ht;rw [ht];first|replace ht := oet_ ht|replace ht := oef_ ht|skip))|(refine tb_ ?_ ?_ ?_;(·(first|exact ybf|(refine .inl ?_;(exact hd_one' hle4 (List.mem_append_left _ tmm_)))|exact to_));(·intro _;(first|exact ybf|(refine .inl ?_;(exact hd_one' hle4 (List.mem_append_left _ tmm_)))|exact to_));intro _)|(first|(refine tqs_ ?_ ?_ ?_;(·(first|exact ybf|(refine .inl ?_;(exact hd_one' hle4 (List.mem_append_left _ tmm_)))|exact to_));(·(first|exact ybf|(refine .inl ?_;(exact hd_one' hle4 (List.mem_append_left _ tmm_)))|exact to_))))|(apply ybn;(·(first|(first|exact tk_|(refine qv_min' rfl rfl hj)|(apply qv_slice_to;(·rfl);(·rfl);(·omega);(·omega))|(apply yad;(·rfl);(·exact yaz 0 rfl);(·rfl)))|(apply yae;(·rfl);(·(exact ac_val (hel _) hvv)))|exact tq_));(·rfl);(·rfl);(·rfl);(·(first|exact ybf|(refine .inl ?_;(exact hd_one' hle4 (List.mem_append_left _ tmm_)))|exact to_))))|refine ycg ?_))
        refine gx_putn ?_
      refine gx_step hok hnd rfl rfl (fun D w s => hd_one' hle4 (List.mem_append_left _ tmm_) w s) (fun D ys hD => ?_) _ _ hD
      have W1 := CWrite_sp true sealC_true bc 7 bv 1 (sl : Nat) bm K (key1 1) bn bu bt N U T [110, (k : Int)] (x.val.take m) (n.getD k 0) false zeroU [] _ _ (cxv zeroU (.slice none 0 0)) (by omega) (by omega) (by omega) (by omega) hkn (head_zero (by omega)) hk rfl p4.nm (by omega) (by omega) p4.ht hnm2 (by simp) hnew (fun y hy => hav.yv y (List.mem_of_mem_take hy)) (fun _ => by rw [List.length_take]; omega) h4 (hv3.mono hle4) hn4 (hsv.mono hle4) ⟨rfl, _, rfl, Sc.nil _ _ _ _⟩ (fun e => nomatch e)
      refine rx_call_l (ycp Tryz.func9 rfl (by kernel_rfl) rfl) (pick5 2 2 2 2 2 rfl rfl rfl rfl rfl) W1 rfl rfl rfl (.inl (hd_one' hle4 (List.mem_append_left _ tmm_))) (fun _ _ hl => .inl (hd_one' (Le.trans hle4 hl) (List.mem_append_right _ (List.Mem.head _)))) ?_
      rintro ⟨h5, g, t, se⟩ ⟨ht, hg, hes, heg⟩ hle5
      dsimp only at ht hg hes heg hle5 ⊢
      obtain ⟨ek, hek⟩ : ∃ ek, ek = nameX true (key1 1) N [110, (k : Int)] := ⟨_, rfl⟩
      have hekl : ek.length = 32 := by rw [hek]; exact nameX_len _ _ _ _
      have hol : (bcs ek).length = 32 := by rw [bcs_len, hekl]
      rw [← hek] at heg ⊢
      clear hes
      have hle45 : Le hh h5 := Le.trans hle4 hle5
      obtain ⟨T1, hT1⟩ : ∃ T1 : Tab, T1 = tabX true T ((7, (sl : Int) + 1, 1, bstr (boundF ek ⟨1, (sl : Int) + 1, 7, n.getD k 0 + 1, encW zeroU []⟩), bstr se), t, padW (inF false (x.val.take m))) := ⟨_, rfl⟩
      refine rx_perm (L' := [clR bc 7 bv 1 ((sl : Int) + 1) bm, cmR bm (mput K (bstr [110, (k : Int)]) (.int .i64 (n.getD k 0 + 1))), nmR bn (addX true N [110, (k : Int)]), usR bu (U ++ [(7, (sl : Int) + 1)]), tbR bt T1, Res.blk b10 (.cells (cxc zeroU (.slice none 0 0)).toArray 42 (0, 0)), Res.blk b3 (.cells (up n).toArray 31 (0, 0))] ++ LDy D) (by rw [hT1]; exact .refl _) ?_
      refine ycg ?_
      refine gx_putn ?_
      iterate 4
        refine gx_q rfl ?_
        repeat' (refine ycf ?_;(first|(first|(apply ybm;(·(first|(exact tk_)|exact tq_));(·rfl);(·rfl);(·(exact hd_one' hle45 (List.mem_append_left _ tmm_))))|refine ybl rfl rfl ?_|((fail_if_success (refine ybi rfl ?_));refine ybj rfl ?_ ?_<;>(intro ht;rw [ht];first|replace ht := oet_ ht|replace ht := oef_ ht|skip))|(refine tb_ ?_ ?_ ?_;(·(first|exact ybf|(refine .inl ?_;(exact hd_one' hle45 (List.mem_append_left _ tmm_)))|exact to_));(·intro _;(first|exact ybf|(refine .inl ?_;(exact hd_one' hle45 (List.mem_append_left _ tmm_)))|exact to_));intro _)|(first|(refine tqs_ ?_ ?_ ?_;(·(first|exact ybf|(refine .inl ?_;(exact hd_one' hle45 (List.mem_append_left _ tmm_)))|exact to_));(·(first|exact ybf|(refine .inl ?_;(exact hd_one' hle45 (List.mem_append_left _ tmm_)))|exact to_))))|(apply ybn;(·(first|(exact tk_)|exact tq_));(·rfl);(·rfl);(·rfl);(·(first|exact ybf|(refine .inl ?_;(exact hd_one' hle45 (List.mem_append_left _ tmm_)))|exact to_))))|refine ycg ?_))
        refine gx_putn ?_
      refine gx_end hok hnd rfl rfl (fun D w s => hd_one' hle45 (List.mem_append_left _ tmm_) w s) (fun D hD => ?_) _ _ hD
      obtain ⟨b11, b12, rfl⟩ := two hD
      refine rx_to (F' := [(0, .slice (some ⟨bs, o, none⟩) row.length capr), (3, .pointer (some ⟨bv, 0, none⟩)), (4, .pointer (some ⟨bc, 0, none⟩)), (6, .pointer (some ⟨b3, 0, none⟩)), (7, .int .i64 (sl : Nat)), (8, .int .i64 (i : Nat)), (9, .int .i64 k), (11, .pointer (some ⟨b11, 0, none⟩)), (12, .pointer (some ⟨b12, 0, none⟩)), (76, .agg (bcs ek).toArray), (77, sbv g), (78, .int .i64 0)]) (L' := [clR bc 7 bv 1 ((sl : Int) + 1) bm, cmR bm (mput K (bstr [110, (k : Int)]) (.int .i64 (n.getD k 0 + 1))), nmR bn (addX true N [110, (k : Int)]), usR bu (U ++ [(7, (sl : Int) + 1)]), tbR bt T1, Res.blk b10 (.cells (cxc zeroU (.slice none 0 0)).toArray 42 (0, 0)), Res.blk b3 (.cells (up n).toArray 31 (0, 0)), Res.blk b11 (.cells (bcs (List.replicate 32 0)).toArray 43 (0, 0)), Res.blk b12 (.cells (sbc zSb).toArray 47 (0, 0))]) ts_ rfl ?_
      repeat' (refine ycf ?_;(first|(first|(apply ybm;(·(first|(exact tk_)|exact tq_));(·rfl);(·rfl);(·(exact hd_one' hle45 tmm_)))|refine ybl rfl rfl ?_|((fail_if_success (refine ybi rfl ?_));refine ybj rfl ?_ ?_<;>(intro ht;rw [ht];first|replace ht := oet_ ht|replace ht := oef_ ht|skip))|(refine tb_ ?_ ?_ ?_;(·(first|exact ybf|(refine .inl ?_;(exact hd_one' hle45 tmm_))|exact to_));(·intro _;(first|exact ybf|(refine .inl ?_;(exact hd_one' hle45 tmm_))|exact to_));intro _)|(first|(first|(refine ybg 7 rfl rfl rfl (by show (bcs ek).toArray.size = 32;simpa using hol) (by show 0 + (bcs ek).toArray.size ≤ _;rw [List.size_toArray, hol];exact nble rfl) (List.all_eq_true.2 (bcs_one ek)) (ybh (by show (bcs ek).length = _;rw [hol];rfl)) rfl rfl ?_ ?_ ?_;(·(first|exact ybf|(refine .inl ?_;(exact hd_one' hle45 tmm_))|exact to_));(·(first|exact ybf|(refine .inl ?_;(exact hd_one' hle45 tmm_))|exact to_)))|(refine ybg 8 rfl rfl rfl (sbc_sz g) (sbc_fit rfl) (sbc_one hg.one.1 hg.one.2) (ybh (sbc_all rfl)) rfl rfl ?_ ?_ ?_;(·(first|exact ybf|(refine .inl ?_;(exact hd_one' hle45 tmm_))|exact to_));(·(first|exact ybf|(refine .inl ?_;(exact hd_one' hle45 tmm_))|exact to_))))|(refine tqs_ ?_ ?_ ?_;(·(first|exact ybf|(refine .inl ?_;(exact hd_one' hle45 tmm_))|exact to_));(·(first|exact ybf|(refine .inl ?_;(exact hd_one' hle45 tmm_))|exact to_))))|(apply ybn;(·(first|(exact tk_)|exact tq_));(·rfl);(·rfl);(·rfl);(·(first|exact ybf|(refine .inl ?_;(exact hd_one' hle45 tmm_))|exact to_))))|refine ycg ?_))
      have hdc5 : ∀ L, CellAt h5 L bs (o + i * 25 + 4) (.bool false) := fun L => by
        have hel5 : ∀ L, Cells h5 L ⟨bs, o + i * 25, none⟩ (acc x) := fun L => (hrm.mono hle45).elem acc_len i hc.1 |> fun c => by rw [hx] at c; exact c
        have := ac_del (hel5 L)
        rwa [hdel] at this
      repeat' (first|(refine ycf ?_;apply ybk;(·first|(exact tk_)|(apply yae;(·rfl);(·(first|exact hdc5 _|exact cell_up3 (yaz 6 rfl) cn (by omega)))));(·rfl);(·rfl))|(refine ybg 6 rfl rfl rfl rfl (fit_up3 (n := 3) hnl (i := k) (by omega) (by omega)) rfl (spl_up3 (i := k) (by omega) (by omega)) rfl rfl ?_ ?_ ?_;(·(first|exact ybf|(refine .inl ?_;(exact hd_one' hle45 tmm_))|exact to_));(·(first|exact ybf|(refine .inl ?_;(exact hd_one' hle45 tmm_))|exact to_)))|refine t1_ ?_|(refine ta_ ?_;intro _)|((fail_if_success (refine ybi rfl ?_));refine ybj rfl ?_ ?_<;>(intro ht;rw [ht];first|replace ht := oet_ ht|replace ht := oef_ ht|skip))|(refine ych ?_;first|(refine ybw rfl ?_ ?_<;>intro ht)|(refine ybx rfl ?_ ?_<;>intro ht)))
      have cn' : (n.set k (n.getD k 0 + 1))[k]? = some (n.getD k 0 + 1) := by rw [List.getElem?_set]; simp [hnl, hk3']
      have hgd : g.d = (7, n.getD k 0 + 1) := congrArg (fun a : Ab => a.1) heg
      have hct : (((U ++ [((7 : Int), (sl : Int) + 1)]).length : Nat) : Int) = (sl : Int) + 1 := by rw [List.length_append, pU]; simp
      refine cx_region_drawW [Res.blk b12 (.cells (sbc g).toArray 47 (0, 0)), Res.blk b3 (.cells (up (n.set k (n.getD k 0 + 1))).toArray 31 (0, 0))] [13, 19] rfl (by kernel_rfl) ?_
      repeat' (refine ycf ?_;(first|(first|(apply ybm;(·(first|(exact tk_)|(apply yae;(·rfl);(·(exact cell_up3 (yaz 1 rfl) cn' (by omega))))|exact tq_));(·rfl);(·rfl);(·(exact hd_two tmm_ tmm_)))|refine ybl rfl rfl ?_|((fail_if_success (refine ybi rfl ?_));refine ybj rfl ?_ ?_<;>(intro ht;rw [ht];first|replace ht := oet_ ht|replace ht := oef_ ht|skip))|(refine tb_ ?_ ?_ ?_;(·(first|exact ybf|(refine .inl ?_;(exact hd_two tmm_ tmm_))|exact to_));(·intro _;(first|exact ybf|(refine .inl ?_;(exact hd_two tmm_ tmm_))|exact to_));intro _)|(first|(refine tqs_ ?_ ?_ ?_;(·(first|exact ybf|(refine .inl ?_;(exact hd_two tmm_ tmm_))|exact to_));(·(first|exact ybf|(refine .inl ?_;(exact hd_two tmm_ tmm_))|exact to_))))|(apply ybn;(·(first|(exact tk_)|(apply yae;(·rfl);(·(exact cell_up3 (yaz 1 rfl) cn' (by omega))))|exact tq_));(·rfl);(·rfl);(·rfl);(·(first|exact ybf|(refine .inl ?_;(exact hd_two tmm_ tmm_))|exact to_))))|refine ycg ?_))
      refine ybm (yad (vs := dcs g.d) rfl (sb_dot (yaz 0 rfl)) rfl) rfl rfl (hd_two tmm_ tmm_) ?_
      repeat' (refine ycf ?_;(first|(first|(apply ybm;(·(first|(exact tk_)|(apply yae;(·rfl);(·(exact cell_up3 (yaz 1 rfl) cn' (by omega))))|exact tq_));(·rfl);(·rfl);(·(exact hd_two tmm_ tmm_)))|refine ybl rfl rfl ?_|((fail_if_success (refine ybi rfl ?_));refine ybj rfl ?_ ?_<;>(intro ht;rw [ht];first|replace ht := oet_ ht|replace ht := oef_ ht|skip))|(refine tb_ ?_ ?_ ?_;(·(first|exact ybf|(refine .inl ?_;(exact hd_two tmm_ tmm_))|exact to_));(·intro _;(first|exact ybf|(refine .inl ?_;(exact hd_two tmm_ tmm_))|exact to_));intro _)|(first|(refine tqs_ ?_ ?_ ?_;(·(first|exact ybf|(refine .inl ?_;(exact hd_two tmm_ tmm_))|exact to_));(·(first|exact ybf|(refine .inl ?_;(exact hd_two tmm_ tmm_))|exact to_))))|(apply ybn;(·(first|(exact tk_)|(apply yae;(·rfl);(·(exact cell_up3 (yaz 1 rfl) cn' (by omega))))|exact tq_));(·rfl);(·rfl);(·rfl);(·(first|exact ybf|(refine .inl ?_;(exact hd_two tmm_ tmm_))|exact to_))))|refine ycg ?_))
      refine ybm (qv_neq_agg (t := true) rfl rfl (fun w => by have := dot_eq g.d (7, n.getD k 0 + 1) w; rwa [decide_eq_true hgd] at this)) rfl rfl (hd_two tmm_ tmm_) ?_
      repeat' (refine ycf ?_;(first|(first|(apply ybm;(·(first|(exact tk_)|(apply yae;(·rfl);(·(exact cell_up3 (yaz 1 rfl) cn' (by omega))))|exact tq_));(·rfl);(·rfl);(·(exact hd_two tmm_ tmm_)))|refine ybl rfl rfl ?_|((fail_if_success (refine ybi rfl ?_));refine ybj rfl ?_ ?_<;>(intro ht;rw [ht];first|replace ht := oet_ ht|replace ht := oef_ ht|skip))|(refine tb_ ?_ ?_ ?_;(·(first|exact ybf|(refine .inl ?_;(exact hd_two tmm_ tmm_))|exact to_));(·intro _;(first|exact ybf|(refine .inl ?_;(exact hd_two tmm_ tmm_))|exact to_));intro _)|(first|(refine tqs_ ?_ ?_ ?_;(·(first|exact ybf|(refine .inl ?_;(exact hd_two tmm_ tmm_))|exact to_));(·(first|exact ybf|(refine .inl ?_;(exact hd_two tmm_ tmm_))|exact to_))))|(apply ybn;(·(first|(exact tk_)|(apply yae;(·rfl);(·(exact cell_up3 (yaz 1 rfl) cn' (by omega))))|exact tq_));(·rfl);(·rfl);(·rfl);(·(first|exact ybf|(refine .inl ?_;(exact hd_two tmm_ tmm_))|exact to_))))|refine ycg ?_))
      refine rx_call_l (ycp Tryz.func10 rfl (by kernel_rfl) rfl) (perm_split 1) (Sealed_sp bc 7 bv 1 ((sl : Int) + 1) bm h5) rfl rfl rfl (.inl (hd_two tmm_ tmm_)) (fun _ _ _ => .inl (hd_two tmm_ tmm_)) ?_
      intro _ _ _
      repeat' (refine ycf ?_;(first|(first|(apply ybm;(·(first|(exact tk_)|(apply yae;(·rfl);(·(exact cell_up3 (yaz 1 rfl) cn' (by omega))))|exact tq_));(·rfl);(·rfl);(·(exact hd_two tmm_ tmm_)))|refine ybl rfl rfl ?_|((fail_if_success (refine ybi rfl ?_));refine ybj rfl ?_ ?_<;>(intro ht;rw [ht];first|replace ht := oet_ ht|replace ht := oef_ ht|skip))|(refine tb_ ?_ ?_ ?_;(·(first|exact ybf|(refine .inl ?_;(exact hd_two tmm_ tmm_))|exact to_));(·intro _;(first|exact ybf|(refine .inl ?_;(exact hd_two tmm_ tmm_))|exact to_));intro _)|(first|(refine tqs_ ?_ ?_ ?_;(·(first|exact ybf|(refine .inl ?_;(exact hd_two tmm_ tmm_))|exact to_));(·(first|exact ybf|(refine .inl ?_;(exact hd_two tmm_ tmm_))|exact to_))))|(apply ybn;(·(first|(exact tk_)|(apply yae;(·rfl);(·(exact cell_up3 (yaz 1 rfl) cn' (by omega))))|exact tq_));(·rfl);(·rfl);(·rfl);(·(first|exact ybf|(refine .inl ?_;(exact hd_two tmm_ tmm_))|exact to_))))|refine ycg ?_))
      refine rx_call_l (Li := [usR bu (U ++ [((7 : Int), (sl : Int) + 1)])]) (ycp Tryz.func11 rfl (by kernel_rfl) rfl) (perm_at (k := 3) rfl) (Count_sp bv true (key1 1) bn bu bt (U ++ [((7 : Int), (sl : Int) + 1)]) rfl (by rw [List.length_append, pU]; simp; omega) h5 (hv3.mono hle45)) rfl rfl rfl (.inl (hd_two tmm_ tmm_)) (fun _ _ _ => .inl (hd_two tmm_ tmm_)) ?_
      intro _ _ _
      rw [hct]
      repeat' (refine ycf ?_;(first|(first|(apply ybm;(·(first|(exact tk_)|(apply yae;(·rfl);(·(exact cell_up3 (yaz 1 rfl) cn' (by omega))))|exact tq_));(·rfl);(·rfl);(·(exact hd_two tmm_ tmm_)))|refine ybl rfl rfl ?_|((fail_if_success (refine ybi rfl ?_));refine ybj rfl ?_ ?_<;>(intro ht;rw [ht];first|replace ht := oet_ ht|replace ht := oef_ ht|skip))|(refine tb_ ?_ ?_ ?_;(·(first|exact ybf|(refine .inl ?_;(exact hd_two tmm_ tmm_))|exact to_));(·intro _;(first|exact ybf|(refine .inl ?_;(exact hd_two tmm_ tmm_))|exact to_));intro _)|(first|(refine tqs_ ?_ ?_ ?_;(·(first|exact ybf|(refine .inl ?_;(exact hd_two tmm_ tmm_))|exact to_));(·(first|exact ybf|(refine .inl ?_;(exact hd_two tmm_ tmm_))|exact to_))))|(apply ybn;(·(first|(exact tk_)|(apply yae;(·rfl);(·(exact cell_up3 (yaz 1 rfl) cn' (by omega))))|exact tq_));(·rfl);(·rfl);(·rfl);(·(first|exact ybf|(refine .inl ?_;(exact hd_two tmm_ tmm_))|exact to_))))|refine ycg ?_))
      repeat' (first|(refine ycf ?_;apply ybk;(·first|(exact tk_)|(apply yae;(·rfl);(·(exact cell_up3 (yaz 1 rfl) cn' (by omega)))));(·rfl);(·rfl))|refine t1_ ?_|(refine ta_ ?_;intro _)|((fail_if_success (refine ybi rfl ?_));refine ybj rfl ?_ ?_<;>(intro ht;rw [ht];first|replace ht := oet_ ht|replace ht := oef_ ht|skip))|(refine ych ?_;first|(refine ybw rfl ?_ ?_<;>intro ht)|(refine ybx rfl ?_ ?_<;>intro ht)))
      refine nx_round (i + 1, ⟨h5, n.set k (n.getD k 0 + 1), sl + 1, mput K (bstr [110, (k : Int)]) (.int .i64 (n.getD k 0 + 1)), addX true N [110, (k : Int)], U ++ [(7, (sl : Int) + 1)], T1⟩) ⟨by show i + 1 ≤ row.length; omega, by show i + 1 ≤ 14; omega, Le.trans p3 hle45, by rw [hT1]; exact p4.step h5 hk3' 1 _ _ _ _⟩ (by show 14 - (i + 1) < 14 - i; omega) ts_ (fun _ s => s.picks [6, 1, 1, 1, 0, 0])
  ·
    repeat' (first|(refine ycf ?_;apply ybk;(·first|(exact tk_)|(apply yae;(·rfl);(·(exact cell_up3 (yaz 1 rfl) cn' (by omega)))));(·rfl);(·rfl))|refine t1_ ?_|(refine ta_ ?_;intro _)|((fail_if_success (refine ybi rfl ?_));refine ybj rfl ?_ ?_<;>(intro ht;rw [ht];first|replace ht := oet_ ht|replace ht := oef_ ht|skip))|(refine ych ?_;first|(refine ybw rfl ?_ ?_<;>intro ht)|(refine ybx rfl ?_ ?_<;>intro ht)))
    all_goals exact nx_ret1 rfl (rv_tmp rfl) (fun w' s' => ⟨hh, rfl, s'.nil⟩)
end Go.Proofs.YtaofgcahmfailaaGreatDoor
end

section
namespace Go.Ck
open Go Go.ChangeShapes
set_option linter.unusedVariables false
section
variable {H : Type} {enc : TypeId × Value → H} {P : Program} {w : World} {base : Nat} {spare : Nat → Bool} {held : Bool}
theorem trod_fields {t : TypeId} {fs : Array Field} {fuel : Nat} {cs : List Value} {x : DataW H × List MemPlace} (ht : P.underlying t = some (.struct fs)) (h : DataW.trod enc P w base spare held fuel t cs = some x) :
    cs.length = P.cellsOf t ∧ ∀ f ∈ fs.toList, ∃ m y, DataW.trod enc P w base spare held m f.type ((cs.drop f.offset).take (P.cellsOf f.type)) = some y := by
  cases fuel with
  | zero => simp [DataW.trod] at h
  | succ n =>
    unfold DataW.trod at h
    simp only [ht] at h
    split at h
    · rename_i hl
      obtain ⟨xs, hxs, _⟩ := Option.map_eq_some_iff.1 h
      refine ⟨hl, fun f hf => ?_⟩
      obtain ⟨i, hi, rfl⟩ := List.getElem_of_mem hf
      have := mapM_some_get hxs i _ (List.getElem?_eq_getElem hi)
      have hlen := mapM_some_length hxs
      rw [List.getElem?_eq_getElem (by omega)] at this
      exact ⟨n, _, this⟩
    · cases h
theorem trod_elems {t e : TypeId} {k fuel : Nat} {cs : List Value} {x : DataW H × List MemPlace} (ht : P.underlying t = some (.array k e)) (h : DataW.trod enc P w base spare held fuel t cs = some x) :
    cs.length = P.cellsOf t ∧ ∀ i, i < k → ∃ m y, DataW.trod enc P w base spare held m e ((cs.drop (i * P.cellsOf e)).take (P.cellsOf e)) = some y := by
  cases fuel with
  | zero => simp [DataW.trod] at h
  | succ n =>
    unfold DataW.trod at h
    simp only [ht] at h
    split at h
    · rename_i hl
      obtain ⟨xs, hxs, _⟩ := Option.map_eq_some_iff.1 h
      refine ⟨hl, fun i hi => ?_⟩
      have := mapM_some_get hxs i i (by simp [hi])
      have hlen := mapM_some_length hxs
      rw [List.getElem?_eq_getElem (by simp at hlen; omega)] at this
      exact ⟨n, _, this⟩
    · cases h
end
end Go.Ck
end

section
namespace Go.Ck
open Go Go.ChangeShapes
set_option linter.unusedVariables false
set_option maxHeartbeats 1000000
section
variable {H : Type} {enc : TypeId × Value → H} {P : Program} {w : World} {base : Nat} {spare : Nat → Bool} {held : Bool}
theorem cells_get' {a : Addr} {n : Nat} {cs : List Value} (h : w.cells? base a n = some cs) {j : Nat} {u : Value} (hj : cs[j]? = some u) : w.cell? (a.add j) = some u := by
  unfold World.cells? at h
  split at h
  · have hl := mapM_some_length h
    have hjl : j < cs.length := (List.getElem?_eq_some_iff.1 hj).1
    have := mapM_some_get h j j (by rw [List.length_range] at hl; exact List.getElem?_range (by omega))
    rw [this, hj]
  · cases h
theorem trod_slice_of {T e k : Nat} {α : Type} {en : α → List Value} {R : α → Prop} (tu : P.underlying T = some (.slice e)) (hc : P.cellsOf e = k) (hk0 : 0 < k) (hlen : ∀ x, (en x).length = k)
    (hel : ∀ (m : Nat) (cs : List Value) (y : DataW H × List MemPlace), DataW.trod enc P w base spare held m e cs = some y → ∃ x : α, R x ∧ cs = en x)
    {m : Nat} {cs : List Value} {y : DataW H × List MemPlace} (h : DataW.trod enc P w base spare held m T cs = some y) :
    ∃ (v : Value) (l : List α), cs = [v] ∧ Sc (fun b => w.heap[b]?) k v l.length (l.flatMap en) ∧ l.length ≤ maxLen ∧ ∀ x ∈ l, R x := by
  subst hc
  rcases Go.Deep.open_slice tu h with ⟨rfl, _⟩ | ⟨a, len, cap, q, n, D, Pl, rfl, _, h1, h2, hk, _, hall⟩
  · exact ⟨_, [], rfl, Sc.nil _ _ none 0, Nat.zero_le _, fun x hx => by cases hx⟩
  · have hkl : len ≤ q := by rw [hk]; split <;> omega
    have hex : ∀ i, i < len → ∃ d : α, R d ∧ w.cells? base (a.add (i * P.cellsOf e)) (P.cellsOf e) = some (en d) := fun i hi => by
      obtain ⟨cs', e1, e2⟩ := hall i (by omega)
      obtain ⟨d, hr, rfl⟩ := hel _ _ _ e2
      exact ⟨d, hr, e1⟩
    generalize P.cellsOf e = k at hex hk0 hlen ⊢
    by_cases h0 : len = 0
    · subst h0
      exact ⟨_, [], rfl, ⟨by simp, some a, cap, rfl, Nat.zero_le _, .inl rfl⟩, Nat.zero_le _, fun x hx => by cases hx⟩
    obtain ⟨d0, _⟩ := hex 0 (by omega)
    obtain ⟨f, hf'⟩ : ∃ f : Nat → α, ∀ i, i < len → R (f i) ∧ w.cells? base (a.add (i * k)) k = some (en (f i)) := by
      classical
      exact ⟨fun i => if hi : i < len then (hex i hi).choose else d0, fun i hi => by
        dsimp only
        rw [dif_pos hi]
        exact (hex i hi).choose_spec⟩
    have hf := fun i hi => (hf' i hi).2
    refine ⟨_, (List.range len).map f, rfl, ⟨?_, some a, cap, by simp, by simpa using h1, ?_⟩, by simp; omega, fun x hx => ?_⟩
    · rw [flat_len hlen]
    · refine .inr ?_
      have hc00 : 0 < (en (f 0)).length := by rw [hlen]; exact hk0
      have hc0 := cells_get' (hf 0 (by omega)) (j := 0) (List.getElem?_eq_getElem hc00)
      obtain ⟨b, o, sp⟩ := a
      have hadd : ∀ i j, ((⟨b, o, sp⟩ : Addr).add i).add j = (⟨b, o, sp⟩ : Addr).add (i + j) := fun i j => Go.Deep.add_add _ i j
      rw [hadd] at hc0
      have hblk : ((⟨b, o, sp⟩ : Addr).add (0 * k + 0)) = ⟨b, o, sp⟩ := by simp [Addr.add]
      rw [hblk] at hc0
      unfold World.cell? at hc0
      split at hc0
      · rename_i c e fz hb
        split at hc0
        · cases hc0
        · rename_i hsp
          have hsp' : sp = none := by simpa using hsp
          subst hsp'
          refine ⟨b, o, c, e, fz, rfl, hb, fun j u hj => ?_⟩
          have hjl : j < len * k := by
            have := (List.getElem?_eq_some_iff.1 hj).1
            rw [flat_len hlen] at this
            simpa using this
          have hjk : j / k < len := Nat.div_lt_of_lt_mul (by rw [Nat.mul_comm]; exact hjl)
          have hd : j / k < ((List.range len).map f).length := by simpa using hjk
          have e1 : (((List.range len).map f).flatMap en)[j]? = (en (f (j / k)))[j % k]? := by
            have := flat_at hlen ((List.range len).map f) (j / k) hd
            have e3 : ((List.range len).map f)[j / k] = f (j / k) := by simp
            rw [e3] at this
            rw [← this, List.getElem?_take_of_lt (Nat.mod_lt _ hk0), List.getElem?_drop]
            congr 1
            rw [Nat.mul_comm]
            exact (Nat.div_add_mod j k).symm
          rw [e1] at hj
          have := cells_get' (hf (j / k) hjk) hj
          rw [hadd, Addr.add_off] at this
          unfold World.cell? at this
          simp only [hb] at this
          simp only [Option.isSome_none, Bool.false_eq_true, if_false] at this
          have ej : j / k * k + j % k = j := by rw [Nat.mul_comm]; exact Nat.div_add_mod j k
          rw [ej] at this
          exact this
      · cases hc0
    · obtain ⟨i, hi, rfl⟩ := List.mem_map.1 hx
      exact (hf' i (by simpa using hi)).1
end
end Go.Ck
end

section
namespace Go.Proofs.YtaofgcahmfailaaGreatDoor
open Go Go.Ck Go.ChangeShapes
set_option maxRecDepth 100000
set_option maxHeartbeats 1000000
set_option linter.unusedVariables false
theorem cellsDot : Tryz.prog.cellsOf 45 = 2 := by kernel_rfl
theorem cellsInt : Tryz.prog.cellsOf 3 = 1 := by kernel_rfl
theorem cellsArr : Tryz.prog.cellsOf 34 = 16 := by kernel_rfl
theorem cellsSl : Tryz.prog.cellsOf 35 = 1 := by kernel_rfl
theorem cellsCx : Tryz.prog.cellsOf 37 = 17 := by kernel_rfl
section
variable {H : Type} {enc : TypeId × Value → H} {w : World} {base : Nat} {spare : Nat → Bool} {held : Bool}
theorem trod_dot {m : Nat} {cs : List Value} {y : DataW H × List MemPlace} (h : DataW.trod enc Tryz.prog w base spare held m 45 cs = some y) : ∃ d : Dt, cs = dcs d := by
  obtain ⟨hl, hf⟩ := trod_fields Tryz.underlying45 h
  rw [cellsDot] at hl
  match cs, hl with
  | [a, b], _ =>
    obtain ⟨m1, y1, h1⟩ := hf _ (List.mem_cons_self ..)
    obtain ⟨m2, y2, h2⟩ := hf _ (List.mem_cons_of_mem _ (List.mem_cons_self ..))
    rw [cellsInt] at h1 h2
    obtain ⟨n1, e1, _⟩ := DataW.trod_int Tryz.underlying3 h1
    obtain ⟨n2, e2, _⟩ := DataW.trod_int Tryz.underlying3 h2
    simp at e1 e2
    exact ⟨(n1, n2), by rw [e1, e2]; rfl⟩
theorem trod_up {m : Nat} {cs : List Value} {y : DataW H × List MemPlace} (h : DataW.trod enc Tryz.prog w base spare held m 34 cs = some y) : ∃ u : List Int, u.length = 16 ∧ cs = up u := by
  obtain ⟨hl, hf⟩ := trod_elems Tryz.underlying34 h
  rw [cellsArr] at hl
  have hc : ∀ i (hi : i < cs.length), ∃ n, cs[i] = .int .i64 n := fun i hi => by
    obtain ⟨m1, y1, h1⟩ := hf i (by omega)
    rw [cellsInt, Nat.mul_one] at h1
    obtain ⟨n1, e1, _⟩ := DataW.trod_int Tryz.underlying3 h1
    have e2 : (List.drop i cs).take 1 = [cs[i]] := by
      rw [List.drop_eq_getElem_cons hi]; rfl
    rw [e2] at e1
    exact ⟨n1, by simpa using e1⟩
  clear hf h
  have key : ∀ cs : List Value, (∀ i (hi : i < cs.length), ∃ n, cs[i] = .int .i64 n) → ∃ u : List Int, u.length = cs.length ∧ cs = up u := by
    intro cs
    induction cs with
    | nil => intro _; exact ⟨[], rfl, rfl⟩
    | cons c cs ih =>
      intro hc
      obtain ⟨n, hn⟩ := hc 0 (by simp)
      obtain ⟨u, h1, h2⟩ := ih fun i hi => by
        have := hc (i + 1) (by simpa using hi)
        simpa using this
      simp only [List.getElem_cons_zero] at hn
      exact ⟨n :: u, by simp [h1], by rw [hn, h2]; rfl⟩
  obtain ⟨u, h1, h2⟩ := key cs hc
  exact ⟨u, by omega, h2⟩
theorem cells_get {a : Addr} {n : Nat} {cs : List Value} (h : w.cells? base a n = some cs) {j : Nat} {u : Value} (hj : cs[j]? = some u) : w.cell? (a.add j) = some u := by
  unfold World.cells? at h
  split at h
  · have hl := mapM_some_length h
    have hjl : j < cs.length := (List.getElem?_eq_some_iff.1 hj).1
    have := mapM_some_get h j j (by rw [List.length_range] at hl; exact List.getElem?_range (by omega))
    rw [this, hj]
  · cases h
theorem trod_ds {m : Nat} {cs : List Value} {y : DataW H × List MemPlace} (h : DataW.trod enc Tryz.prog w base spare held m 35 cs = some y) : ∃ (v : Value) (l : List Dt), cs = [v] ∧ Ds (fun b => w.heap[b]?) v l ∧ l.length ≤ maxLen := by
  rcases Go.Deep.open_slice Tryz.underlying35 h with ⟨rfl, _⟩ | ⟨a, len, cap, k, n, D, Pl, rfl, _, h1, h2, hk, _, hall⟩
  · exact ⟨_, [], rfl, Sc.nil _ 2 none 0, Nat.zero_le _⟩
  · have hkl : len ≤ k := by rw [hk]; split <;> omega
    have hex : ∀ i, i < len → ∃ d : Dt, w.cells? base (a.add (i * 2)) 2 = some (dcs d) := fun i hi => by
      obtain ⟨cs', e1, e2⟩ := hall i (by omega)
      rw [cellsDot] at e1
      obtain ⟨d, rfl⟩ := trod_dot e2
      exact ⟨d, e1⟩
    obtain ⟨f, hf⟩ := Go.Deep.choose_lt hex
    refine ⟨_, (List.range len).map f, rfl, ⟨?_, some a, cap, by simp, by simpa using h1, ?_⟩, by simp; omega⟩
    · rw [flat_len dcs_len]
    · by_cases h0 : len = 0
      · subst h0; exact .inl rfl
      · refine .inr ?_
        have hc0 := cells_get (hf 0 (by omega)) (j := 0) (u := .int .i64 (f 0).1) rfl
        obtain ⟨b, o, sp⟩ := a
        have hadd : ∀ i j, ((⟨b, o, sp⟩ : Addr).add i).add j = (⟨b, o, sp⟩ : Addr).add (i + j) := fun i j => Go.Deep.add_add _ i j
        rw [hadd] at hc0
        have hblk : ((⟨b, o, sp⟩ : Addr).add (0 * 2 + 0)) = ⟨b, o, sp⟩ := by simp [Addr.add]
        rw [hblk] at hc0
        unfold World.cell? at hc0
        split at hc0
        · rename_i c e fz hb
          split at hc0
          · cases hc0
          · rename_i hsp
            have hsp' : sp = none := by simpa using hsp
            subst hsp'
            refine ⟨b, o, c, e, fz, rfl, hb, fun j u hj => ?_⟩
            have hjl : j < len * 2 := by
              have := (List.getElem?_eq_some_iff.1 hj).1
              rw [flat_len dcs_len] at this
              simpa using this
            have hd : j / 2 < ((List.range len).map f).length := by simp; omega
            have e1 : (((List.range len).map f).flatMap dcs)[j]? = (dcs (f (j / 2)))[j % 2]? := by
              have := flat_at dcs_len ((List.range len).map f) (j / 2) hd
              have e3 : ((List.range len).map f)[j / 2] = f (j / 2) := by simp
              rw [e3] at this
              rw [← this, List.getElem?_take_of_lt (by omega), List.getElem?_drop]
              congr 1; omega
            rw [e1] at hj
            have := cells_get (hf (j / 2) (by omega)) hj
            rw [hadd, Addr.add_off] at this
            unfold World.cell? at this
            simp only [hb] at this
            simp only [Option.isSome_none, Bool.false_eq_true, if_false] at this
            have ej : j / 2 * 2 + j % 2 = j := by omega
            rw [ej] at this
            exact this
        · cases hc0
end
end Go.Proofs.YtaofgcahmfailaaGreatDoor
end

section
namespace Go.Proofs.YtaofgcahmfailaaGreatDoor
open Go Go.Ck Go.ChangeShapes
set_option maxRecDepth 100000
set_option maxHeartbeats 1000000
set_option linter.unusedVariables false
theorem cellsByte : Tryz.prog.cellsOf 5 = 1 := by kernel_rfl
theorem bcs_flat (l : List Int) : l.flatMap (fun n => [Value.int .u8 n]) = bcs l := by
  induction l with
  | nil => rfl
  | cons x l ih => rw [List.flatMap_cons, ih]; rfl
theorem trod_bs {H : Type} {enc : TypeId × Value → H} {w : World} {base : Nat} {spare : Nat → Bool} {held : Bool} {m : Nat} {cs : List Value} {y : DataW H × List MemPlace} (h : DataW.trod enc Tryz.prog w base spare held m 33 cs = some y) :
    ∃ (v : Value) (l : List Int), cs = [v] ∧ Bs8 (fun b => w.heap[b]?) v l ∧ Bytes l ∧ l.length ≤ maxLen := by
  obtain ⟨v, l, h1, h2, h3, h4⟩ := trod_slice_of (en := fun n : Int => [Value.int .u8 n]) (R := fun n => 0 ≤ n ∧ n < 256) Tryz.underlying33 cellsByte (by decide) (fun _ => rfl) (fun m cs y hy => by
    obtain ⟨n, e1, _, e3⟩ := DataW.trod_int Tryz.underlying5 hy
    obtain ⟨q1, q2⟩ := (Lit.wf_int_iff .u8 n).1 e3
    have m1 : IntKind.u8.min = 0 := by decide
    have m2 : IntKind.u8.max = 255 := by decide
    exact ⟨n, ⟨by omega, by omega⟩, e1⟩) h
  rw [bcs_flat] at h2
  exact ⟨v, l, h1, h2, h4, h3⟩
end Go.Proofs.YtaofgcahmfailaaGreatDoor
end

section
namespace Go.Proofs.YtaofgcahmfailaaGreatDoor
open Go Go.Ck Go.ChangeShapes
set_option maxRecDepth 100000
set_option maxHeartbeats 1000000
set_option linter.unusedVariables false
theorem cellsStr : Tryz.prog.cellsOf 9 = 1 := by kernel_rfl
theorem cellsRs : Tryz.prog.cellsOf 77 = 20 := by kernel_rfl
section
variable {H : Type} {enc : TypeId × Value → H} {w : World} {base : Nat} {spare : Nat → Bool} {held : Bool}
theorem trod_cxc {m : Nat} {cs : List Value} {y : DataW H × List MemPlace} (h : DataW.trod enc Tryz.prog w base spare held m 37 cs = some y) : ∃ (u : List Int) (l : List Dt) (mv : Value), u.length = 16 ∧ cs = cxc u mv ∧ Ds (fun b => w.heap[b]?) mv l ∧ l.length ≤ maxLen := by
  obtain ⟨hl, hf⟩ := trod_fields Tryz.underlying37 h
  rw [cellsCx] at hl
  obtain ⟨m1, y1, h1⟩ := hf _ (List.mem_cons_self ..)
  obtain ⟨m2, y2, h2⟩ := hf _ (List.mem_cons_of_mem _ (List.mem_cons_self ..))
  rw [cellsArr] at h1
  rw [cellsSl] at h2
  obtain ⟨u, hu, e1⟩ := trod_up h1
  obtain ⟨mv, l, e2, hs, hlm⟩ := trod_ds h2
  refine ⟨u, l, mv, hu, ?_, hs, hlm⟩
  have e3 : cs = (cs.drop 0).take 16 ++ (cs.drop 16).take 1 := by
    rw [List.drop_zero]
    have e4 : (cs.drop 16).take 1 = cs.drop 16 := List.take_of_length_le (by simp; omega)
    rw [e4, List.take_append_drop]
  rw [e3, e1, e2]
  rfl
theorem bytes_of_string (s : ByteArray) : ∃ b : List Int, Bytes b ∧ bstr b = s ∧ b.length = s.size := by
  refine ⟨s.data.toList.map fun x => (x.toNat : Int), fun b hb => ?_, ?_, by simp⟩
  · obtain ⟨x, _, rfl⟩ := List.mem_map.1 hb
    have := x.toNat_lt
    constructor <;> omega
  · unfold bstr
    rw [List.map_map]
    have : ((fun n : Int => UInt8.ofNat n.toNat) ∘ fun x : UInt8 => (x.toNat : Int)) = id := by
      funext x
      simp
    rw [this, List.map_id]
theorem trod_rs1 {m : Nat} {cs : List Value} {y : DataW H × List MemPlace} (h : DataW.trod enc Tryz.prog w base spare held m 77 cs = some y) : ∃ x : Sb, (Rv (fun b => w.heap[b]?) x ∧ x.l.length ≤ maxLen ∧ x.b.length ≤ maxLen) ∧ cs = sbc x := by
  obtain ⟨hl, hf⟩ := trod_fields Tryz.underlying77 h
  rw [cellsRs] at hl
  obtain ⟨m1, y1, h1⟩ := hf _ (List.mem_cons_self ..)
  obtain ⟨m2, y2, h2⟩ := hf _ (List.mem_cons_of_mem _ (List.mem_cons_self ..))
  obtain ⟨m3, y3, h3⟩ := hf _ (List.mem_cons_of_mem _ (List.mem_cons_of_mem _ (List.mem_cons_self ..)))
  rw [cellsDot] at h1
  rw [cellsCx] at h2
  rw [cellsStr] at h3
  obtain ⟨d, e1⟩ := trod_dot h1
  obtain ⟨u, l, mv, hu, e2, hds, hll⟩ := trod_cxc h2
  obtain ⟨s, e3, _, hs⟩ := DataW.trod_string Tryz.underlying9 h3
  obtain ⟨b, hb, hbs, hbl⟩ := bytes_of_string s
  refine ⟨⟨d, u, hu, l, mv, b, .string s⟩, ⟨⟨hds, by rw [hbs], hb⟩, hll, by show b.length ≤ maxLen; rw [hbl]; exact hs⟩, ?_⟩
  have q : cs = (cs.drop 0).take 2 ++ ((cs.drop 2).take 17 ++ (cs.drop 19).take 1) := by
    rw [List.drop_zero]
    have e4 : (cs.drop 19).take 1 = cs.drop 19 := List.take_of_length_le (by simp; omega)
    have e5 : (cs.drop 2).take 17 ++ cs.drop 19 = cs.drop 2 := by
      have : cs.drop 19 = (cs.drop 2).drop 17 := by rw [List.drop_drop]
      rw [this, List.take_append_drop]
    rw [e4, e5, List.take_append_drop]
  rw [q]
  show _ = dcs d ++ (cxc u mv ++ [.string s])
  rw [← e3, ← e2, ← e1]
theorem trod_rs {m : Nat} {cs : List Value} {y : DataW H × List MemPlace} (h : DataW.trod enc Tryz.prog w base spare held m 39 cs = some y) :
    ∃ (v : Value) (l : List Sb), cs = [v] ∧ Rs (fun b => w.heap[b]?) v l ∧ l.length ≤ maxLen ∧ ∀ x ∈ l, x.l.length ≤ maxLen ∧ x.b.length ≤ maxLen := by
  obtain ⟨v, l, h1, h2, h3, h4⟩ := trod_slice_of (en := sbc) (R := fun x => Rv (fun b => w.heap[b]?) x ∧ x.l.length ≤ maxLen ∧ x.b.length ≤ maxLen) Tryz.underlying39 cellsRs (by decide) sbc_len (fun m cs y hy => trod_rs1 hy) h
  exact ⟨v, l, h1, ⟨h2, fun x hx => (h4 x hx).1⟩, h3, fun x hx => (h4 x hx).2⟩
end
end Go.Proofs.YtaofgcahmfailaaGreatDoor
end

section
namespace Go.Proofs.YtaofgcahmfailaaGreatDoor
open Go Go.Ck Go.ChangeShapes
set_option maxRecDepth 100000
set_option maxHeartbeats 1000000
set_option linter.unusedVariables false
theorem cellsAct : Tryz.prog.cellsOf 41 = 25 := by kernel_rfl
theorem cellsAct1 : Tryz.prog.cellsOf 3 = 1 := by kernel_rfl
theorem cellsAct2 : Tryz.prog.cellsOf 33 = 1 := by kernel_rfl
theorem cellsAct3 : Tryz.prog.cellsOf 4 = 1 := by kernel_rfl
theorem cellsAct4 : Tryz.prog.cellsOf 38 = 1 := by kernel_rfl
theorem cellsAct5 : Tryz.prog.cellsOf 39 = 1 := by kernel_rfl
section
variable {H : Type} {enc : TypeId × Value → H} {w : World} {base : Nat} {spare : Nat → Bool} {held : Bool}
theorem up_flat (l : List Int) : l.flatMap (fun n => [Value.int .i64 n]) = up l := by
  induction l with
  | nil => rfl
  | cons a l ih => rw [List.flatMap_cons, ih]; rfl
theorem trod_is {m : Nat} {cs : List Value} {y : DataW H × List MemPlace} (h : DataW.trod enc Tryz.prog w base spare held m 38 cs = some y) :
    ∃ (v : Value) (l : List Int), cs = [v] ∧ Sc (fun b => w.heap[b]?) 1 v l.length (up l) ∧ l.length ≤ maxLen := by
  obtain ⟨v, l, h1, h2, h3, h4⟩ := trod_slice_of (en := fun n : Int => [Value.int .i64 n]) (R := fun _ => True) Tryz.underlying38 cellsAct1 (by decide) (fun _ => rfl) (fun m cs y hy => by
    obtain ⟨n, e, _⟩ := DataW.trod_int Tryz.underlying3 hy
    exact ⟨n, trivial, e⟩) h
  rw [up_flat] at h2
  exact ⟨v, l, h1, h2, h3⟩
theorem trod_act1 {m : Nat} {cs : List Value} {y : DataW H × List MemPlace} (h : DataW.trod enc Tryz.prog w base spare held m 41 cs = some y) : ∃ x : ActD, (Av (fun b => w.heap[b]?) x ∧ x.val.length ≤ maxLen) ∧ cs = acc x := by
  obtain ⟨hl, hf⟩ := trod_fields Tryz.underlying41 h
  rw [cellsAct] at hl
  match cs, hl with
  | [c0, c1, c2, c3, c4, c5, c6, c7, c8, c9, c10, c11, c12, c13, c14, c15, c16, c17, c18, c19, c20, c21, c22, c23, c24], _ =>
    obtain ⟨m1, y1, h1⟩ := hf _ (List.mem_of_getElem? (i := 0) rfl)
    obtain ⟨m2, y2, h2⟩ := hf _ (List.mem_of_getElem? (i := 1) rfl)
    obtain ⟨m3, y3, h3⟩ := hf _ (List.mem_of_getElem? (i := 2) rfl)
    obtain ⟨m4, y4, h4⟩ := hf _ (List.mem_of_getElem? (i := 3) rfl)
    obtain ⟨m5, y5, h5⟩ := hf _ (List.mem_of_getElem? (i := 4) rfl)
    obtain ⟨m6, y6, h6⟩ := hf _ (List.mem_of_getElem? (i := 5) rfl)
    obtain ⟨m7, y7, h7⟩ := hf _ (List.mem_of_getElem? (i := 6) rfl)
    obtain ⟨m8, y8, h8⟩ := hf _ (List.mem_of_getElem? (i := 7) rfl)
    obtain ⟨m9, y9, h9⟩ := hf _ (List.mem_of_getElem? (i := 8) rfl)
    dsimp only at h1 h2 h3 h4 h5 h6 h7 h8 h9
    rw [cellsAct1] at h1 h2 h3 h8
    rw [cellsAct2] at h4
    rw [cellsAct3] at h5
    rw [cellsCx] at h6
    rw [cellsAct4] at h7
    rw [cellsAct5] at h9
    obtain ⟨n1, e1, _⟩ := DataW.trod_int Tryz.underlying3 h1
    obtain ⟨n2, e2, _⟩ := DataW.trod_int Tryz.underlying3 h2
    obtain ⟨n3, e3, _⟩ := DataW.trod_int Tryz.underlying3 h3
    obtain ⟨v4, l4, e4, s4, b4, k4⟩ := trod_bs h4
    obtain ⟨b5, e5, _⟩ := DataW.trod_bool Tryz.underlying4 h5
    obtain ⟨u, l, mv, hu, e6, hds, hll⟩ := trod_cxc h6
    obtain ⟨v7, l7, e7, s7, k7⟩ := trod_is h7
    obtain ⟨n8, e8, _⟩ := DataW.trod_int Tryz.underlying3 h8
    obtain ⟨v9, l9, e9, s9, k9, _⟩ := trod_rs h9
    simp only [List.drop, List.take, List.cons.injEq, and_true] at e1 e2 e3 e4 e5 e6 e7 e8 e9
    refine ⟨⟨n1, n2, n3, l4, v4, b5, u, hu, l, mv, l7, v7, n8, l9, v9⟩, ⟨⟨s4, b4, hds, s7, s9⟩, k4⟩, ?_⟩
    unfold acc
    dsimp only
    rw [e1, e2, e3, e4, e5, e7, e8, e9, ← e6]
    rfl
theorem trod_acts {m : Nat} {cs : List Value} {y : DataW H × List MemPlace} (h : DataW.trod enc Tryz.prog w base spare held m 22 cs = some y) :
    ∃ (v : Value) (l : List ActD), cs = [v] ∧ Acts (fun b => w.heap[b]?) v l ∧ l.length ≤ maxLen ∧ ∀ x ∈ l, x.val.length ≤ maxLen := by
  obtain ⟨v, l, h1, h2, h3, h4⟩ := trod_slice_of (en := acc) (R := fun x => Av (fun b => w.heap[b]?) x ∧ x.val.length ≤ maxLen) Tryz.underlying22 cellsAct (by decide) acc_len (fun m cs y hy => trod_act1 hy) h
  exact ⟨v, l, h1, ⟨h2, fun x hx => (h4 x hx).1⟩, h3, fun x hx => (h4 x hx).2⟩
end
end Go.Proofs.YtaofgcahmfailaaGreatDoor
end

section
namespace Go.Proofs.YtaofgcahmfailaaGreatDoor.clientNumbers
open Go Go.Ck Go.ChangeShapes Go.WideShapes Go.ChangeAt Go.RowKit
set_option maxRecDepth 100000
set_option maxHeartbeats 1000000
set_option linter.unusedVariables false
theorem laidOut : laidOutB Tryz.prog = true := by kernel_rfl
theorem own : ownKnob Tryz.prog.godebug = none := by kernel_rfl
theorem door_met (os : Os) (args : Array Value) : laidMetH Tryz.prog Rows.clientNumbersRow.laid ((World.doorLaid Tryz.prog 400 os).forCall (fun _ _ => 0) ⟨#[], args, []⟩).memory :=
  laidMetH_of_parts3 (fuel := 8) (laidMet_of_run' 8 (by kernel_rfl) (by kernel_rfl)) (by kernel_rfl) (by kernel_rfl)
theorem contract (H : Type) (enc : TypeId × Value → H) (W : World) (base : Nat) (args : Array Value) (ds gs : List (DataW H)) (before : List MemPlace)
    (hval : ∀ (j : Nat) t v, Tryz.f3.params[j]? = some t → args[j]? = some v → Value.okWide Tryz.prog W .any base t v)
    (hW : DataW.Whole enc Tryz.prog Tryz.f3.params.toList Rows.clientNumbersSpec.vars false W args.toList ds gs before) (hL : laidMetH Tryz.prog Rows.clientNumbersRow.laid W) :
    Calls Tryz.prog 3 args W fun e W' => ∃ v, e = .returned v ∧ Rows.clientNumbersSpec.post enc Tryz.prog Tryz.f3 false true false false W args v W' := by
  have hW' := hW
  obtain ⟨p, q, hA0, hV, rfl, hfz, hnd⟩ := hW
  have hA : DataW.TrodAll enc Tryz.prog W 0 (fun _ => true) true Tryz.f3.params.toList args.toList ds p := hA0
  rw [Tryz.params3] at hA hval
  obtain ⟨v0, vs0, d0, ds0, p0, q0, hargs0, rfl, rfl, h0, r0⟩ := trodAll_cons hA
  obtain ⟨rfl, rfl, rfl⟩ := trodAll_nil r0
  obtain rfl : args = #[v0] := by cases args; simp_all
  obtain ⟨rfl, rfl⟩ := trodVars_none hV
  obtain ⟨a0, len0, cap0, rfl⟩ := okWide_slice Tryz.underlying22 (hval 0 22 v0 rfl rfl)
  obtain ⟨fu0, g0⟩ := id h0
  obtain ⟨sv0, l0, hsv0, hd0, hl0, hll0⟩ := trod_acts g0
  obtain rfl : Value.slice a0 len0 cap0 = sv0 := by
    have e : (Value.slice a0 len0 cap0).cells.toList = [Value.slice a0 len0 cap0] := rfl
    rw [e] at hsv0
    exact (List.cons.inj hsv0).1
  have hl0 : l0.length ≤ 9223372036854775807 := by unfold maxLen at hl0; omega
  have hll0 : ∀ x ∈ l0, x.val.length ≤ 9223372036854775807 := fun x hx => by have := hll0 x hx; unfold maxLen at this; omega
  have hst : St ⟨W, fun b => W.heap[b]?, []⟩ (fun b => W.heap[b]?) [] W := St.start (L := []) ⟨fun b o hb => hb, fun r hr => (by cases hr)⟩ (by simp [doms]) (fun b hb => (by simp [doms] at hb))
  refine (ClientNumbers_sp _ l0 _ hd0 hl0 hll0 W hst).mono fun e W' ⟨h', he, s'⟩ => ?_
  subst he
  have hb : Below W.heap.size W W' := ⟨s'.os, s'.tape, s'.output, s'.size, fun k hk => s'.keep k hk (by simp)⟩
  simp only [List.append_nil] at hW'
  have hlt0 : ∀ x ∈ p0, x.block < W.heap.size := fun x hx => by simpa using hW'.lt x (by simp [hx])
  exact ⟨_, rfl, _, _, _, [], p0, [], hW', trodAll_cons_mk (shut_bool Tryz.underlying4 _) trodAll_mk0,
    by
      have h := (trodAll_cons_mk (Below.trod laidOut (by kernel_rfl) (oet_ (by kernel_rfl)) h0 hb hlt0) trodAll_mk0)
      simp only [List.append_nil] at h
      exact h,
    rfl, hb.frame _, fun h => by cases h⟩
set_option maxRecDepth 100000 in
theorem lifted (os : Os) (started : os.Started) (H : Type) (enc : TypeId × Value → H) :
    ReturnsInHanded {} Tryz.checked os 3 .any (fun w args => (Rows.clientNumbersSpec.pre enc Tryz.prog Tryz.f3 Rows.clientNumbersRow.domain false w args ∧ laidMetH Tryz.prog Rows.clientNumbersRow.laid w) ∧ sizedMet enc Tryz.prog Tryz.f3 (OpenSpec.ofChange Rows.clientNumbersSpec) false w args) (Rows.clientNumbersSpec.post enc Tryz.prog Tryz.f3 false true false false) := by
  refine returnsInHanded_of_change_and (C := Tryz.checked) (X := fun w _ => laidMetH Tryz.prog Rows.clientNumbersRow.laid w) (fun _ _ _ hh h => h.of_heap hh) own started (by kernel_rfl) Tryz.func3
    (ChangeSpec.witness_shaped (enc := enc) (C := Tryz.checked) (os := os) (X := fun w _ => laidMetH Tryz.prog Rows.clientNumbersRow.laid w) false (World.doorLaid Tryz.prog 400 os) #[.slice none 0 0] 8 rfl (World.shaped_of_RefB (by kernel_rfl) (by kernel_rfl)) (by kernel_rfl) (by kernel_rfl) (by kernel_rfl) (door_met os _)) ?_
  intro W base args ds gs before hval hW _ _ hL _
  exact contract H enc W base args ds gs before hval hW hL
theorem over : Rows.ClientNumbersSaid :=
  OpenClaim.holds_of_wide 3 Tryz.f3 rfl rfl rfl rfl rfl rfl rfl ⟨rfl, rfl, rfl, rfl, rfl⟩ rfl rfl rfl rfl rfl (by kernel_rfl) Tryz.func3 (by kernel_rfl)
    (oet_ (by kernel_rfl)) (by unfold Func.isWrapper;first|(rw [if_pos (by decide +kernel)];kernel_rfl)|(rw [if_neg (by decide +kernel)];exact ⟨rfl, rfl⟩))
    (fun os started H enc _ => lifted os started H enc)
theorem proved : Rows.ClientNumbersCardSaid :=
  Claim7.holds_tied_plain_at .later [] Rows.clientNumbersCard.laidKinds true Rows.clientNumbersCard.stood.harness false
    over (fun _ h => by cases h) (by kernel_rfl) (fun _ h => by cases h) clientNumbers_row_tie rfl ⟨rfl, rfl⟩ (by kernel_rfl) rfl
    (fun f fn hf hfn => by
      obtain rfl : f = 3 := Option.some.inj ((show Tryz.prog.funcNamed "casket/casketlaw27.ClientNumbers" = some 3 by kernel_rfl).symm.trans hf) |>.symm
      obtain rfl : fn = Tryz.f3 := (Option.some.inj (Tryz.func3.symm.trans hfn)).symm
      exact ⟨by kernel_rfl, fun j t ht => by
        rw [Tryz.params3] at ht
        have hm : t ∈ [22] := by simpa using Array.mem_of_getElem? ht
        have hall : ([22].all fun u => !Tryz.prog.wantsStandIn u) = true := by kernel_rfl
        exact (show Tryz.prog.wantsStandIn t = false by simpa using List.all_eq_true.1 hall t hm)⟩)
    (by kernel_rfl)
end Go.Proofs.YtaofgcahmfailaaGreatDoor.clientNumbers
end
