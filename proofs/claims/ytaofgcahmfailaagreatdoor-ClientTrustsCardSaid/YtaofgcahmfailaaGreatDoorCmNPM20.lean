/-
  Part 20 of a proof: CmB CmK CmL CmM.
  Conditions: each theorem states its own.
-/
import Derived.Test.YtaofgcahmfailaaGreatDoorCmNPM19
set_option maxRecDepth 100000
set_option linter.unusedVariables false
set_option linter.unusedSimpArgs false
section
namespace Go.Proofs.YtaofgcahmfailaaGreatDoor
open Go Go.Ck
set_option maxHeartbeats 1000000
theorem siblings7_sp (bW bv c1 c2 d1 d2 : Nat) (lv : Value) (Ls : List Sb) (ac : ActD) (h : View) (hL : Rs h lv Ls) (hb : ∀ s ∈ Ls, 0 < s.b.length ∧ s.b.length ≤ 900000) (hLl : Ls.length ≤ 1000) (hx : Av h ac) (hw : ac.which.length ≤ 9223372036854775807) (w : World) (s : St ⟨w, h, doms [wlR bW bv c1 c2 d1 d2 lv]⟩ h [wlR bW bv c1 c2 d1 d2 lv] w) :
    Calls Tryz.prog 21 [.pointer (some ⟨bW, 0, none⟩), .agg (acc ac).toArray].toArray w fun e w' => ∃ x : View × Value × List Sb, e = .returned x.2.1 ∧ St ⟨w, h, doms [wlR bW bv c1 c2 d1 d2 lv]⟩ x.1 [Res.row 77 20 x.2.1 x.2.2.length (x.2.2.flatMap sbc), wlR bW bv c1 c2 d1 d2 lv] w' ∧
      (x.2.2.length ≤ 4 ∧ ∀ s ∈ x.2.2, Rv x.1 s ∧ s.b.length ≤ 900000 ∧ ∃ y ∈ Ls, s.l = y.l) := by
  have hal := acc_len ac
  have hone := acc_oneT hx
  obtain ⟨_, adl, capl, rfl, hcapl, _⟩ := id hL.1
  obtain ⟨adw, capw, hwv, hcw⟩ : ∃ a c, ac.wv = .slice a ac.which.length c ∧ ac.which.length ≤ c := by
    obtain ⟨_, a, c, e, e', _⟩ := hx.is
    exact ⟨a, c, e, e'⟩
  refine calls_enter Tryz.func21 rfl Tryz.ntmps21 rfl s ?_
  repeat' (first|(refine ybg 0 rfl rfl rfl (by show (acc ac).toArray.size = 25;rw [List.size_toArray, hal]) (by show 0 + (acc ac).toArray.size ≤ 25;rw [List.size_toArray, hal];omega) hone (ybh (by show (acc ac).length = 25;rw [hal])) rfl rfl ?_ ?_ ?_;(·(exact to_));(·(exact to_)))|refine t1_ ?_|(refine ta_ ?_;intro _)|((fail_if_success (refine ybi rfl ?_));refine ybj rfl ?_ ?_<;>(intro ht;rw [ht];first|replace ht := oet_ ht|replace ht := oef_ ht|skip))|(refine ych ?_;first|(refine ybw rfl ?_ ?_<;>intro ht)|(refine ybx rfl ?_ ?_<;>intro ht)))
  rename_i b3
  refine cx_row 77 20 ?_
  refine cx_loop (X := Nat × View × Value × List Sb) (fun y => [(0, .pointer (some ⟨bW, 0, none⟩)), (3, .pointer (some ⟨b3, 0, none⟩)), (5, y.2.2.1), (6, .int .i64 (y.1 : Nat))]) (fun y => y.2.1)
    (fun y => [Res.row 77 20 y.2.2.1 y.2.2.2.length (y.2.2.2.flatMap sbc), Res.blk b3 (.cells (acc ac).toArray 41 (0, 0)), wlR bW bv c1 c2 d1 d2 (.slice adl Ls.length capl)])
    (fun y => y.1 ≤ 4 ∧ y.1 ≤ ac.which.length ∧ Le h y.2.1 ∧ y.2.2.2.length ≤ y.1 ∧ ∀ o ∈ y.2.2.2, Rv y.2.1 o ∧ o.b.length ≤ 900000 ∧ ∃ y ∈ Ls, o.l = y.l) (fun y => 4 - y.1) (0, h, .slice none 0 0, []) ⟨Nat.zero_le _, Nat.zero_le _, Le.refl _, Nat.le_refl _, fun o ho => (by cases ho)⟩ ts_ (fun _ s => s) ?_
  rintro ⟨k, hk, vo, O⟩ ⟨p1, p0, p2, p3, p4⟩
  dsimp only at p1 p0 p2 p3 p4 ⊢
  by_cases hkl : k < ac.which.length
  · by_cases hk4 : k < 4
    · by_cases hL0 : 0 < Ls.length
      · obtain ⟨bs, o, rfl⟩ := hL.1.ad (by omega) (by omega)
        obtain ⟨bw, ow, rfl⟩ : ∃ b o, adw = some ⟨b, o, none⟩ := (by have := hx.is; rw [hwv] at this; exact this.ad (by omega) (by omega))
        have hiw : Sc hk 1 (.slice (some ⟨bw, ow, none⟩) ac.which.length capw) ac.which.length (up ac.which) := by
          have := hx.is.mono p2
          rw [hwv] at this
          exact this
        have hwc : (up ac.which)[k]? = some (.int .i64 ac.which[k]) := by simp [up, hkl]
        have hu64 := u64_bd ac.which[k]
        obtain ⟨j, hj, hjl⟩ : ∃ j : Nat, (IntKind.u64.wrap ac.which[k]).tmod (Ls.length : Int) = (j : Int) ∧ j < Ls.length := ⟨(IntKind.u64.wrap ac.which[k] % (Ls.length : Int)).toNat, by rw [Int.tmod_eq_emod_of_nonneg hu64.1]; have := Int.emod_nonneg (IntKind.u64.wrap ac.which[k]) (b := (Ls.length : Int)) (by omega); omega, by
          have := Int.emod_nonneg (IntKind.u64.wrap ac.which[k]) (b := (Ls.length : Int)) (by omega)
          have := Int.emod_lt_of_pos (IntKind.u64.wrap ac.which[k]) (b := (Ls.length : Int)) (by omega)
          omega⟩
        have wj : IntKind.i64.wrap (j : Int) = (j : Int) := by rw [IntKind.wrap_i64]; omega
        have wl : IntKind.u64.wrap (Ls.length : Int) = (Ls.length : Int) := by simp only [IntKind.wrap, IntKind.bits, IntKind.signed]; simp; omega
        have hel : ∀ L, Cells hk L ⟨bs, o + j * 20, none⟩ (sbc Ls[j]) := fun L => (hL.1.mono p2).elem sbc_len j hjl
        have hmem := List.getElem_mem hjl
        have hxv : Rv hk Ls[j] := (hL.2 _ hmem).mono p2
        have hb9 := hb _ hmem
        generalize Ls[j] = e0 at hel hmem hxv hb9
        have hxl := sbc_len e0
        have hone := hxv.one
        repeat' (first|(refine ycf ?_;apply ybk;(·first|(first|exact tk_|(apply qv_nilCheck;rfl))|(apply yae;(·rfl);(·(first|exact ac_whichT (yaz 1 rfl) hwv|exact yay 2 rfl rfl))));(·rfl);(·rfl))|refine t1_ ?_|(refine ta_ ?_;intro _)|((fail_if_success (refine ybi rfl ?_));refine ybj rfl ?_ ?_<;>(intro ht;rw [ht];first|replace ht := oet_ ht|replace ht := oef_ ht|skip))|(refine ych ?_;first|(refine ybw rfl ?_ ?_<;>intro ht)|(refine ybx rfl ?_ ?_<;>intro ht)))
        refine cx_region_draw' rfl (by kernel_rfl) ?_
        repeat' (refine ycf ?_;(first|(first|(apply ybm;(·(first|(first|exact tk_|(apply qv_nilCheck;rfl)|(refine qv_remr rfl rfl (by omega) hj)|(refine qv_convert_int' rfl wj)|(refine qv_convert_int' rfl wl)|(refine qv_convert_int' rfl rfl)|(apply yad;(·rfl);(·exact hel _);(·exact hxl)))|(apply yae;(·rfl);(·(first|exact ac_whichT (yaz 1 rfl) hwv|exact yay 2 rfl rfl|exact cellat_eq (hiw.cells.cell hwc) (by omega))))|exact tq_));(·rfl);(·rfl);(·(exact th_)))|refine ybl rfl rfl ?_|((fail_if_success (refine ybi rfl ?_));refine ybj rfl ?_ ?_<;>(intro ht;rw [ht];first|replace ht := oet_ ht|replace ht := oef_ ht|skip))|(refine tb_ ?_ ?_ ?_;(·(exact to_));(·intro _;(exact to_));intro _)|(first|(refine ybg 0 rfl rfl rfl (sbc_sz e0) (sbc_fit rfl) (sbc_one hone.1 hone.2) (ybh (sbc_all rfl)) rfl rfl ?_ ?_ ?_;(·(exact to_));(·(exact to_)))|(refine tqs_ ?_ ?_ ?_;(·(exact to_));(·(exact to_))))|(apply ybn;(·(first|(first|exact tk_|(apply qv_nilCheck;rfl)|(refine qv_remr rfl rfl (by omega) hj)|(refine qv_convert_int' rfl wj)|(refine qv_convert_int' rfl wl)|(refine qv_convert_int' rfl rfl)|(apply yad;(·rfl);(·exact hel _);(·exact hxl)))|(apply yae;(·rfl);(·(first|exact ac_whichT (yaz 1 rfl) hwv|exact yay 2 rfl rfl|exact cellat_eq (hiw.cells.cell hwc) (by omega))))|exact tq_));(·rfl);(·rfl);(·rfl);(·(exact to_))))|refine ycg ?_))
        rename_i b7
        refine yby ?_
        refine ybo ?_
        refine cx_cut (X := View × Sb) (fun y => [(0, .pointer (some ⟨bW, 0, none⟩)), (3, .pointer (some ⟨b3, 0, none⟩)), (5, vo), (6, .int .i64 (k : Nat)), (7, .pointer (some ⟨b7, 0, none⟩))]) (fun y => y.1)
          (fun y => [Res.blk b7 (.cells (sbc y.2).toArray 77 (0, 0)), Res.row 77 20 vo O.length (O.flatMap sbc), Res.blk b3 (.cells (acc ac).toArray 41 (0, 0)), wlR bW bv c1 c2 d1 d2 (.slice (some ⟨bs, o, none⟩) Ls.length capl)])
          (fun y => Le hk y.1 ∧ Rv y.1 y.2 ∧ y.2.l = e0.l ∧ y.2.b.length ≤ e0.b.length) ?_ ?_
        · by_cases hodd : k % 2 = 1
          · have hk2 : (k : Int).tmod 2 = 1 := by rw [Int.tmod_eq_emod_of_nonneg (by omega)]; omega
            repeat' (first|(refine ycf ?_;apply ybk;(·first|(first|(refine qv_remr rfl rfl (by decide) hk2)|exact tk_|(apply yad;(·rfl);(·exact yaz 0 rfl);(·exact hxl)))|(apply yae;(·rfl);(·(exact ac_byT (yaz 2 rfl)))));(·rfl);(·rfl))|refine t1_ ?_|(refine ta_ ?_;intro _)|((fail_if_success (refine ybi rfl ?_));refine ybj rfl ?_ ?_<;>(intro ht;rw [ht];first|replace ht := oet_ ht|replace ht := oef_ ht|skip))|(refine ych ?_;first|(refine ybw rfl ?_ ?_<;>intro ht)|(refine ybx rfl ?_ ?_<;>intro ht)))
            (refine yco (ycp Tryz.func31 rfl (by kernel_rfl) rfl) (changed7_sp e0 ac.by' hk hxv hb9.1 hb9.2) rfl rfl rfl ?_ ?_ ?_; (· (exact to_)); (· intro _ _ hle; (exact to_)); intro x px hle)
            obtain ⟨h8, z⟩ := x
            dsimp only at px hle ⊢
            have hle8 : Le hk h8 := hle
            obtain ⟨hz, hzl, hzb⟩ := px
            clear hle
            have hzn := sbc_len z
            have hzo := hz.one
            repeat' (first|(refine ycf ?_;apply ybk;(·first|(exact tk_));(·rfl);(·rfl))|(refine ybg 0 rfl rfl rfl (sbc_sz z) (by show 0 + (Value.agg (sbc z).toArray).cells.size ≤ (sbc e0).toArray.size;rw [sbc_sz, List.size_toArray, hxl];omega) (sbc_one hzo.1 hzo.2) (ybh (sbc_all (by show (sbc e0).length = 20;exact hxl))) rfl rfl ?_ ?_ ?_;(·(exact to_));(·(exact to_)))|refine t1_ ?_|(refine ta_ ?_;intro _)|((fail_if_success (refine ybi rfl ?_));refine ybj rfl ?_ ?_<;>(intro ht;rw [ht];first|replace ht := oet_ ht|replace ht := oef_ ht|skip))|(refine ych ?_;first|(refine ybw rfl ?_ ?_<;>intro ht)|(refine ybx rfl ?_ ?_<;>intro ht)))
            exact nx_cut (h8, z) ⟨hle8, hz, hzl, hzb⟩ ts_ (fun _ s => s)
          · have hk2 : (k : Int).tmod 2 = 0 := by rw [Int.tmod_eq_emod_of_nonneg (by omega)]; omega
            repeat' (first|(refine ycf ?_;apply ybk;(·first|(first|(refine qv_remr rfl rfl (by decide) hk2)|exact tk_));(·rfl);(·rfl))|refine t1_ ?_|(refine ta_ ?_;intro _)|((fail_if_success (refine ybi rfl ?_));refine ybj rfl ?_ ?_<;>(intro ht;rw [ht];first|replace ht := oet_ ht|replace ht := oef_ ht|skip))|(refine ych ?_;first|(refine ybw rfl ?_ ?_<;>intro ht)|(refine ybx rfl ?_ ?_<;>intro ht)))
            exact nx_cut (hk, e0) ⟨Le.refl _, hxv, rfl, Nat.le_refl _⟩ ts_ (fun _ s => s)
        · rintro ⟨h8, z⟩ ⟨hle8, hz, hzl, hzb⟩
          dsimp only at hle8 hz hzl hzb ⊢
          have hzn := sbc_len z
          have hzo := hz.one
          refine yby ?_
          repeat' (first|(refine ycf ?_;apply ybk;(·first|(first|exact tk_|(apply yad;(·rfl);(·exact yaz 0 rfl);(·exact hzn))));(·rfl);(·rfl))|refine t1_ ?_|(refine ta_ ?_;intro _)|((fail_if_success (refine ybi rfl ?_));refine ybj rfl ?_ ?_<;>(intro ht;rw [ht];first|replace ht := oet_ ht|replace ht := oef_ ht|skip))|(refine ych ?_;first|(refine ybw rfl ?_ ?_<;>intro ht)|(refine ybx rfl ?_ ?_<;>intro ht)))
          refine yba (ybd rfl rfl rfl (ybe rfl (sbc_sz z))) rfl rfl rfl ybf (fun _ => ybf) ?_
          intro b9
          refine rx_append (sz := 20) 2 rfl rfl rfl (yaz 0 rfl) (by show (sbc z).length = 1 * 20; omega) (fun u hu => List.all_eq_true.1 (sbc_one hzo.1 hzo.2) u hu) rfl (by omega) (by unfold maxLen; omega) (by omega) rfl rfl rfl ybf (fun _ => ybf) ?_
          intro v9 _
          repeat' (first|(refine ycf ?_;apply ybk;(·first|(exact tk_));(·rfl);(·rfl))|refine t1_ ?_|(refine ta_ ?_;intro _)|((fail_if_success (refine ybi rfl ?_));refine ybj rfl ?_ ?_<;>(intro ht;rw [ht];first|replace ht := oet_ ht|replace ht := oef_ ht|skip))|(refine ych ?_;first|(refine ybw rfl ?_ ?_<;>intro ht)|(refine ybx rfl ?_ ?_<;>intro ht)))
          refine nx_round (k + 1, h8, v9, O ++ [z]) ⟨by show k + 1 ≤ 4; omega, by show k + 1 ≤ _; omega, p2.trans hle8, by show (O ++ [z]).length ≤ k + 1; rw [List.length_append, List.length_singleton]; omega, fun o ho => ?_⟩ (by show 4 - (k + 1) < 4 - k; omega) ts_ (fun _ s => ?_)
          · rcases List.mem_append.1 ho with ho | ho
            · obtain ⟨q1, q2, q3⟩ := p4 o ho
              exact ⟨q1.mono hle8, q2, q3⟩
            · rw [List.mem_singleton.1 ho]
              exact ⟨hz, by omega, e0, hmem, hzl⟩
          · have s2 := s.picks [2, 2, 2]
            dsimp only
            rw [List.length_append, List.flatMap_append, show [z].flatMap sbc = sbc z by simp]
            exact s2
      · have hL1 : Ls.length = 0 := by omega
        rw [hL1] at hcapl ⊢
        repeat' (first|(refine ycf ?_;apply ybk;(·first|(first|exact tk_|(apply qv_nilCheck;rfl))|(apply yae;(·rfl);(·(first|exact ac_whichT (yaz 1 rfl) hwv|exact yay 2 rfl rfl))));(·rfl);(·rfl))|refine t1_ ?_|(refine ta_ ?_;intro _)|((fail_if_success (refine ybi rfl ?_));refine ybj rfl ?_ ?_<;>(intro ht;rw [ht];first|replace ht := oet_ ht|replace ht := oef_ ht|skip))|(refine ych ?_;first|(refine ybw rfl ?_ ?_<;>intro ht)|(refine ybx rfl ?_ ?_<;>intro ht)))
        exact nx_ret1 rfl (rv_tmp rfl) (fun w' s' => ⟨(hk, vo, O), rfl, s'.picks [0, 1], (by show O.length ≤ 4; omega), p4⟩)
    · have hk4' : k = 4 := by omega
      repeat' (first|(refine ycf ?_;apply ybk;(·first|(first|exact tk_|(apply qv_nilCheck;rfl))|(apply yae;(·rfl);(·(first|exact ac_whichT (yaz 1 rfl) hwv|exact yay 2 rfl rfl))));(·rfl);(·rfl))|refine t1_ ?_|(refine ta_ ?_;intro _)|((fail_if_success (refine ybi rfl ?_));refine ybj rfl ?_ ?_<;>(intro ht;rw [ht];first|replace ht := oet_ ht|replace ht := oef_ ht|skip))|(refine ych ?_;first|(refine ybw rfl ?_ ?_<;>intro ht)|(refine ybx rfl ?_ ?_<;>intro ht)))
      exact nx_ret1 rfl (rv_tmp rfl) (fun w' s' => ⟨(hk, vo, O), rfl, s'.picks [0, 1], (by show O.length ≤ 4; omega), p4⟩)
  · have hk5 : k = ac.which.length := by omega
    repeat' (first|(refine ycf ?_;apply ybk;(·first|(first|exact tk_|(apply qv_nilCheck;rfl))|(apply yae;(·rfl);(·(first|exact ac_whichT (yaz 1 rfl) hwv|exact yay 2 rfl rfl))));(·rfl);(·rfl))|refine t1_ ?_|(refine ta_ ?_;intro _)|((fail_if_success (refine ybi rfl ?_));refine ybj rfl ?_ ?_<;>(intro ht;rw [ht];first|replace ht := oet_ ht|replace ht := oef_ ht|skip))|(refine ych ?_;first|(refine ybw rfl ?_ ?_<;>intro ht)|(refine ybx rfl ?_ ?_<;>intro ht)))
    exact nx_ret1 rfl (rv_tmp rfl) (fun w' s' => ⟨(hk, vo, O), rfl, s'.picks [0, 1], (by show O.length ≤ 4; omega), p4⟩)
end Go.Proofs.YtaofgcahmfailaaGreatDoor
end

section
namespace Go.Proofs.YtaofgcahmfailaaGreatDoor
open Go Go.Ck
set_option maxHeartbeats 4000000
theorem loop2_sp (w0 : World) (h0 : View) (R1 R2 R3 : Res) (v6 v7 : Value) (bW bv c1 c2 d1 d2 b3 : Nat) (lv : Value) (Ls : List Sb) (ac : ActD) (v17 : Value) (S : List Sb) (hS4 : S.length ≤ 4) (h : View) (hL : Rs h lv Ls) (hLl : Ls.length ≤ 1000) (hb : ∀ s ∈ Ls, s.b.length ≤ 900000) (hx : Av h ac) (hrl : ac.raw.length ≤ 9223372036854775807)
    (hrw : ∀ s ∈ ac.raw, s.l.length ≤ 8796093022208 ∧ s.b.length ≤ 140737488355328) (hS : ∀ s ∈ S, Rv h s ∧ s.l.length ≤ 8796093022208 ∧ s.b.length ≤ 140737488355328) (L0 : List Res) (hL0 : L0 = [rowLT v17 S, Res.blk b3 (.cells (acc ac).toArray 41 (0, 0)), wlR bW bv c1 c2 d1 d2 lv, R1, R2, R3]) :
    CX Tryz.prog 327 ⟨w0, h0, []⟩ (cGet (cBlk 2 (cGet Tryz.f5.body))) [(3, .pointer (some ⟨b3, 0, none⟩)), (5, .pointer (some ⟨bW, 0, none⟩)), (6, v6), (7, v7), (17, v17), (18, .int .i64 0)] h L0
      (PEnds (X := Value × List Sb) 327 ⟨w0, h0, []⟩ (fun z => [(3, .pointer (some ⟨b3, 0, none⟩)), (5, .pointer (some ⟨bW, 0, none⟩)), (6, v6), (7, v7), (17, z.1)]) (fun z => h)
        (fun z => [rowLT z.1 z.2, Res.blk b3 (.cells (acc ac).toArray 41 (0, 0)), wlR bW bv c1 c2 d1 d2 lv, R1, R2, R3]) (fun z => z.2.length ≤ 6 ∧ ∀ s ∈ z.2, Rv h s ∧ s.l.length ≤ 8796093022208 ∧ s.b.length ≤ 140737488355328)) := by
  subst hL0
  obtain ⟨_, adl, capl, rfl, hcapl, _⟩ := id hL.1
  obtain ⟨adr, capr, hrv, hcr⟩ : ∃ a c, ac.rv = .slice a ac.raw.length c ∧ ac.raw.length ≤ c := by
    obtain ⟨_, a, c, e, e', _⟩ := hx.rs.1
    exact ⟨a, c, e, e'⟩
  refine ybq ?_
  refine cx_loop (X := Nat × Value × List Sb) (fun z => [(3, .pointer (some ⟨b3, 0, none⟩)), (5, .pointer (some ⟨bW, 0, none⟩)), (6, v6), (7, v7), (17, z.2.1), (18, .int .i64 (z.1 : Nat))]) (fun z => h) (fun z => [rowLT z.2.1 z.2.2, Res.blk b3 (.cells (acc ac).toArray 41 (0, 0)), wlR bW bv c1 c2 d1 d2 (.slice adl Ls.length capl), R1, R2, R3])
    (fun z => z.1 ≤ 2 ∧ z.1 ≤ ac.raw.length ∧ z.2.2.length ≤ 4 + z.1 ∧ ∀ s ∈ z.2.2, Rv h s ∧ s.l.length ≤ 8796093022208 ∧ s.b.length ≤ 140737488355328) (fun z => 2 - z.1) (0, v17, S) ⟨Nat.zero_le _, Nat.zero_le _, hS4, hS⟩ ts_ (fun _ s => s) ?_
  rintro ⟨i, vo, O⟩ ⟨p1, p2, p3, p4⟩
  dsimp only at p1 p2 p3 p4 ⊢
  by_cases hir : i < ac.raw.length
  · by_cases hi2 : i < 2
    · obtain ⟨br, o, rfl⟩ : ∃ b o, adr = some ⟨b, o, none⟩ := (by have := hx.rs.1; rw [hrv] at this; exact this.ad (by omega) (by omega))
      have hrs : Sc h 20 (.slice (some ⟨br, o, none⟩) ac.raw.length capr) ac.raw.length (ac.raw.flatMap sbc) := by
        have := hx.rs.1
        rw [hrv] at this
        exact this
      have hel : ∀ L, Cells h L ⟨br, o + i * 20, none⟩ (sbc ac.raw[i]) := fun L => hrs.elem sbc_len i hir
      have hmem := List.getElem_mem hir
      have hxv : Rv h ac.raw[i] := hx.rs.2 _ hmem
      have hlim := hrw _ hmem
      generalize ac.raw[i] = e0 at hel hmem hxv hlim
      have hxl := sbc_len e0
      have hone := hxv.one
      by_cases hL0 : 0 < Ls.length
      · obtain ⟨bl, ol, rfl⟩ := hL.1.ad (by omega) (by omega)
        have hl0 : ∀ L, Cells h L ⟨bl, ol + 0 * 20, none⟩ (sbc Ls[0]) := fun L => hL.1.elem sbc_len 0 hL0
        have hm0 := List.getElem_mem hL0
        have hv0 : Rv h Ls[0] := hL.2 _ hm0
        have hb0 := hb _ hm0
        generalize Ls[0] = e1 at hl0 hm0 hv0 hb0
        iterate 60 (first|(first|(refine ycf ?_;apply ybk;(·first|(first|exact tk_|(apply qv_nilCheck;rfl)|(apply yad;(·rfl);(·exact hel _);(·exact hxl)))|(apply yae;(·rfl);(·(first|exact ac_rawT (yaz 1 rfl) hrv|exact ac_rawT (yaz 2 rfl) hrv|exact yay 3 rfl rfl|exact sb_body' (hl0 _) hv0.bs))));(·rfl);(·rfl))|(first|(refine ybg 0 rfl rfl rfl (sbc_sz e0) (sbc_fit rfl) (sbc_one hone.1 hone.2) (ybh (sbc_all rfl)) rfl rfl ?_ ?_ ?_;(·(exact to_));(·(exact to_)))|(refine ybg 0 rfl rfl rfl rfl (by show 0 + 19 + 1 ≤ (sbc e0).toArray.size;rw [List.size_toArray, hxl];omega) rfl (spl_sb19 e0 e1.b rfl) rfl rfl ?_ ?_ ?_;(·(exact to_));(·(exact to_))))|refine t1_ ?_|(refine ta_ ?_;intro _)|((fail_if_success (refine ybi rfl ?_));refine ybj rfl ?_ ?_<;>(intro ht;rw [ht];first|replace ht := oet_ ht|replace ht := oef_ ht|skip))|(refine ych ?_;first|(refine ybw rfl ?_ ?_<;>intro ht)|(refine ybx rfl ?_ ?_<;>intro ht)))|skip)
        obtain ⟨z, hzd⟩ : ∃ z : Sb, z = ⟨e0.d, e0.u, e0.hu, e0.l, e0.mv, e1.b, .string (bstr e1.b)⟩ := ⟨_, rfl⟩
        rw [← hzd]
        have hz : Rv h z ∧ z.l.length ≤ 8796093022208 ∧ z.b.length ≤ 140737488355328 := by rw [hzd]; exact ⟨⟨hxv.ds, rfl, hv0.by8⟩, hlim.1, by show e1.b.length ≤ _; omega⟩
        have hzo := hz.1.one
        have hzl := sbc_len z
        repeat' (first|(refine ycf ?_;apply ybk;(·first|(first|exact tk_|(apply yad (vs := sbc z);(·rfl);(·exact yaz 0 rfl);(·exact hzl))));(·rfl);(·rfl))|refine t1_ ?_|(refine ta_ ?_;intro _)|((fail_if_success (refine ybi rfl ?_));refine ybj rfl ?_ ?_<;>(intro ht;rw [ht];first|replace ht := oet_ ht|replace ht := oef_ ht|skip))|(refine ych ?_;first|(refine ybw rfl ?_ ?_<;>intro ht)|(refine ybx rfl ?_ ?_<;>intro ht)))
        refine yba (ybd rfl rfl rfl (ybe rfl (sbc_sz z))) rfl rfl rfl ybf (fun _ => ybf) ?_
        intro bs1
        refine rx_append (sz := 20) 2 rfl rfl rfl (yaz 0 rfl) (by show (sbc z).length = 1 * 20; omega) (fun u hu => List.all_eq_true.1 (sbc_one hzo.1 hzo.2) u hu) rfl (by omega) (by unfold maxLen; omega) (by omega) rfl rfl rfl ybf (fun _ => ybf) ?_
        intro v9 _
        repeat' (first|(refine ycf ?_;apply ybk;(·first|(exact tk_));(·rfl);(·rfl))|refine t1_ ?_|(refine ta_ ?_;intro _)|((fail_if_success (refine ybi rfl ?_));refine ybj rfl ?_ ?_<;>(intro ht;rw [ht];first|replace ht := oet_ ht|replace ht := oef_ ht|skip))|(refine ych ?_;first|(refine ybw rfl ?_ ?_<;>intro ht)|(refine ybx rfl ?_ ?_<;>intro ht)))
        refine nx_round (i + 1, v9, O ++ [z]) ⟨by show i + 1 ≤ 2; omega, by show i + 1 ≤ _; omega, by show (O ++ [z]).length ≤ 4 + (i + 1); rw [List.length_append, List.length_singleton]; omega, fun s hs => ?_⟩ (by show 2 - (i + 1) < 2 - i; omega) ts_ (fun _ s => ?_)
        · rcases List.mem_append.1 hs with hs | hs
          · exact p4 s hs
          · rw [List.mem_singleton.1 hs]
            exact hz
        · have s2 := s.picks [2, 2, 2, 2, 2, 2]
          dsimp only
          show St _ _ [Res.row _ _ v9 (O ++ [z]).length ((O ++ [z]).flatMap sbc), _, _, _, _, _] _
          rw [List.length_append, List.flatMap_append, show [z].flatMap sbc = sbc z by simp]
          exact s2
      · obtain ⟨z, hzd⟩ : ∃ z : Sb, z = e0 := ⟨_, rfl⟩
        rw [← hzd] at hel hxl hone hxv hlim
        have hz : Rv h z ∧ z.l.length ≤ 8796093022208 ∧ z.b.length ≤ 140737488355328 := ⟨hxv, hlim⟩
        have hzo := hz.1.one
        have hzl := sbc_len z
        repeat' (first|(refine ycf ?_;apply ybk;(·first|(first|exact tk_|(apply qv_nilCheck;rfl)|(apply yad;(·rfl);(·exact hel _);(·exact hzl))|(apply yad (vs := sbc z);(·rfl);(·exact yaz 0 rfl);(·exact hzl)))|(apply yae;(·rfl);(·(first|exact ac_rawT (yaz 1 rfl) hrv|exact ac_rawT (yaz 2 rfl) hrv|exact yay 3 rfl rfl))));(·rfl);(·rfl))|(refine ybg 0 rfl rfl rfl (sbc_sz z) (sbc_fit rfl) (sbc_one hone.1 hone.2) (ybh (sbc_all rfl)) rfl rfl ?_ ?_ ?_;(·(exact to_));(·(exact to_)))|refine t1_ ?_|(refine ta_ ?_;intro _)|((fail_if_success (refine ybi rfl ?_));refine ybj rfl ?_ ?_<;>(intro ht;rw [ht];first|replace ht := oet_ ht|replace ht := oef_ ht|skip))|(refine ych ?_;first|(refine ybw rfl ?_ ?_<;>intro ht)|(refine ybx rfl ?_ ?_<;>intro ht)))
        refine yba (ybd rfl rfl rfl (ybe rfl (sbc_sz z))) rfl rfl rfl ybf (fun _ => ybf) ?_
        intro bs1
        refine rx_append (sz := 20) 2 rfl rfl rfl (yaz 0 rfl) (by show (sbc z).length = 1 * 20; omega) (fun u hu => List.all_eq_true.1 (sbc_one hzo.1 hzo.2) u hu) rfl (by omega) (by unfold maxLen; omega) (by omega) rfl rfl rfl ybf (fun _ => ybf) ?_
        intro v9 _
        repeat' (first|(refine ycf ?_;apply ybk;(·first|(exact tk_)|(apply yae;(·rfl);(·(first|exact ac_rawT (yaz 1 rfl) hrv|exact ac_rawT (yaz 2 rfl) hrv|exact yay 3 rfl rfl))));(·rfl);(·rfl))|(refine ybg 0 rfl rfl rfl (sbc_sz z) (sbc_fit rfl) (sbc_one hone.1 hone.2) (ybh (sbc_all rfl)) rfl rfl ?_ ?_ ?_;(·(exact to_));(·(exact to_)))|refine t1_ ?_|(refine ta_ ?_;intro _)|((fail_if_success (refine ybi rfl ?_));refine ybj rfl ?_ ?_<;>(intro ht;rw [ht];first|replace ht := oet_ ht|replace ht := oef_ ht|skip))|(refine ych ?_;first|(refine ybw rfl ?_ ?_<;>intro ht)|(refine ybx rfl ?_ ?_<;>intro ht)))
        refine nx_round (i + 1, v9, O ++ [z]) ⟨by show i + 1 ≤ 2; omega, by show i + 1 ≤ _; omega, by show (O ++ [z]).length ≤ 4 + (i + 1); rw [List.length_append, List.length_singleton]; omega, fun s hs => ?_⟩ (by show 2 - (i + 1) < 2 - i; omega) ts_ (fun _ s => ?_)
        · rcases List.mem_append.1 hs with hs | hs
          · exact p4 s hs
          · rw [List.mem_singleton.1 hs]
            exact hz
        · have s2 := s.picks [2, 2, 2, 2, 2, 2]
          dsimp only
          show St _ _ [Res.row _ _ v9 (O ++ [z]).length ((O ++ [z]).flatMap sbc), _, _, _, _, _] _
          rw [List.length_append, List.flatMap_append, show [z].flatMap sbc = sbc z by simp]
          exact s2
    · repeat' (first|(refine ycf ?_;apply ybk;(·first|(exact tk_)|(apply yae;(·rfl);(·(first|exact ac_rawT (yaz 1 rfl) hrv|exact ac_rawT (yaz 2 rfl) hrv|exact yay 3 rfl rfl))));(·rfl);(·rfl))|(refine ybg 0 rfl rfl rfl (sbc_sz z) (sbc_fit rfl) (sbc_one hone.1 hone.2) (ybh (sbc_all rfl)) rfl rfl ?_ ?_ ?_;(·(exact to_));(·(exact to_)))|refine t1_ ?_|(refine ta_ ?_;intro _)|((fail_if_success (refine ybi rfl ?_));refine ybj rfl ?_ ?_<;>(intro ht;rw [ht];first|replace ht := oet_ ht|replace ht := oef_ ht|skip))|(refine ych ?_;first|(refine ybw rfl ?_ ?_<;>intro ht)|(refine ybx rfl ?_ ?_<;>intro ht)))
      exact nx_ends (vo, O) ⟨by show O.length ≤ 6; omega, p4⟩ ts_ (fun _ s => s)
  · repeat' (first|(refine ycf ?_;apply ybk;(·first|(exact tk_)|(apply yae;(·rfl);(·(first|exact ac_rawT (yaz 1 rfl) hrv|exact ac_rawT (yaz 2 rfl) hrv|exact yay 3 rfl rfl))));(·rfl);(·rfl))|(refine ybg 0 rfl rfl rfl (sbc_sz z) (sbc_fit rfl) (sbc_one hone.1 hone.2) (ybh (sbc_all rfl)) rfl rfl ?_ ?_ ?_;(·(exact to_));(·(exact to_)))|refine t1_ ?_|(refine ta_ ?_;intro _)|((fail_if_success (refine ybi rfl ?_));refine ybj rfl ?_ ?_<;>(intro ht;rw [ht];first|replace ht := oet_ ht|replace ht := oef_ ht|skip))|(refine ych ?_;first|(refine ybw rfl ?_ ?_<;>intro ht)|(refine ybx rfl ?_ ?_<;>intro ht)))
    exact nx_ends (vo, O) ⟨by show O.length ≤ 6; omega, p4⟩ ts_ (fun _ s => s)
end Go.Proofs.YtaofgcahmfailaaGreatDoor
end

section
namespace Go.Proofs.YtaofgcahmfailaaGreatDoor
open Go Go.Ck
set_option maxHeartbeats 4000000
abbrev rowIT (v : Value) (O : List Sb) : Res := Res.row 47 20 v O.length (O.flatMap sbc)
theorem loop3_sp (w0 : World) (h0 : View) (R1 R2 R3 R4 R5 : Res) (v3 v5 v6 v7 : Value) (v17 : Value) (S : List Sb) (hS6 : S.length ≤ 6) (h : View) (hR : Rs h v17 S) (hS : ∀ s ∈ S, s.l.length ≤ 8796093022208 ∧ s.b.length ≤ 140737488355328) (L0 : List Res) (hL0 : L0 = [rowIT (.slice none 0 0) [], R1, R2, R3, R4, R5]) :
    CX Tryz.prog 327 ⟨w0, h0, []⟩ (cGet (cBlk 4 (cGet Tryz.f5.body))) [(3, v3), (5, v5), (6, v6), (7, v7), (17, v17), (20, .slice none 0 0), (21, .int .i64 0)] h L0
      (PEnds (X := View × Value × List Sb) 327 ⟨w0, h0, []⟩ (fun z => [(3, v3), (5, v5), (6, v6), (7, v7), (20, z.2.1)]) (fun z => z.1)
        (fun z => [rowIT z.2.1 z.2.2, R1, R2, R3, R4, R5]) (fun z => Le h z.1 ∧ z.2.2.map Sb.a = S.map Sb.a ∧ ∀ s ∈ z.2.2, Sv z.1 s)) := by
  subst hL0
  obtain ⟨hs, hsv⟩ := hR
  obtain ⟨_, adl, capl, rfl, hcapl, _⟩ := id hs
  refine ybq ?_
  refine cx_loop (X := Nat × View × Value × List Sb) (fun z => [(3, v3), (5, v5), (6, v6), (7, v7), (17, .slice adl S.length capl), (20, z.2.2.1), (21, .int .i64 (z.1 : Nat))]) (fun z => z.2.1) (fun z => [rowIT z.2.2.1 z.2.2.2, R1, R2, R3, R4, R5])
    (fun z => z.1 ≤ S.length ∧ Le h z.2.1 ∧ z.2.2.2.map Sb.a = (S.take z.1).map Sb.a ∧ ∀ s ∈ z.2.2.2, Sv z.2.1 s) (fun z => S.length - z.1) (0, h, .slice none 0 0, []) ⟨Nat.zero_le _, Le.refl _, rfl, fun s hs => (by cases hs)⟩ ts_ (fun _ s => s) ?_
  rintro ⟨i, hh, vo, O⟩ ⟨p1, p2, p3, p4⟩
  dsimp only at p1 p2 p3 p4 ⊢
  have hOl : O.length = i := by
    have := congrArg List.length p3
    simp at this
    omega
  by_cases hir : i < S.length
  · obtain ⟨br, o, rfl⟩ := hs.ad (by omega) (by omega)
    have hel : ∀ L, Cells hh L ⟨br, o + i * 20, none⟩ (sbc S[i]) := fun L => (hs.mono p2).elem sbc_len i hir
    have hmem := List.getElem_mem hir
    have hxv : Rv hh S[i] := (hsv _ hmem).mono p2
    have hlim := hS _ hmem
    have htk : (S.take (i + 1)).map Sb.a = O.map Sb.a ++ [S[i].a] := by rw [List.take_succ_eq_append_getElem hir, List.map_append, ← p3]; rfl
    generalize S[i] = e0 at hel hmem hxv hlim htk
    have hxl := sbc_len e0
    repeat' (first|(refine ycf ?_;apply ybk;(·first|(first|exact tk_|(apply yad;(·rfl);(·exact hel _);(·exact hxl))));(·rfl);(·rfl))|refine t1_ ?_|(refine ta_ ?_;intro _)|((fail_if_success (refine ybi rfl ?_));refine ybj rfl ?_ ?_<;>(intro ht;rw [ht];first|replace ht := oet_ ht|replace ht := oef_ ht|skip))|(refine ych ?_;first|(refine ybw rfl ?_ ?_<;>intro ht)|(refine ybx rfl ?_ ?_<;>intro ht)))
    (refine yco (ycp Tryz.func22 rfl (by kernel_rfl) rfl) (one7_sp e0 hh hxv hlim.1) rfl rfl rfl ?_ ?_ ?_; (· (exact to_)); (· intro _ _ hle; (exact to_)); intro x px hle)
    obtain ⟨h8, z⟩ := x
    dsimp only at px hle ⊢
    have hle8 : Le hh h8 := hle
    obtain ⟨hz, hza⟩ := px
    clear hle
    have hzl := sbc_len z
    have hzo := hz.one
    repeat' (first|(refine ycf ?_;apply ybk;(·first|(exact tk_));(·rfl);(·rfl))|refine t1_ ?_|(refine ta_ ?_;intro _)|((fail_if_success (refine ybi rfl ?_));refine ybj rfl ?_ ?_<;>(intro ht;rw [ht];first|replace ht := oet_ ht|replace ht := oef_ ht|skip))|(refine ych ?_;first|(refine ybw rfl ?_ ?_<;>intro ht)|(refine ybx rfl ?_ ?_<;>intro ht)))
    refine yba (ybd rfl rfl rfl (ybe rfl (sbc_sz z))) rfl rfl rfl ybf (fun _ => ybf) ?_
    intro bs1
    refine rx_append (sz := 20) 1 rfl rfl rfl (yaz 0 rfl) (by show (sbc z).length = 1 * 20; omega) (fun u hu => List.all_eq_true.1 (sbc_one hzo.1 hzo.2) u hu) rfl (by omega) (by unfold maxLen; omega) (by omega) rfl rfl rfl ybf (fun _ => ybf) ?_
    intro v9 _
    repeat' (first|(refine ycf ?_;apply ybk;(·first|(exact tk_));(·rfl);(·rfl))|refine t1_ ?_|(refine ta_ ?_;intro _)|((fail_if_success (refine ybi rfl ?_));refine ybj rfl ?_ ?_<;>(intro ht;rw [ht];first|replace ht := oet_ ht|replace ht := oef_ ht|skip))|(refine ych ?_;first|(refine ybw rfl ?_ ?_<;>intro ht)|(refine ybx rfl ?_ ?_<;>intro ht)))
    refine nx_round (i + 1, h8, v9, O ++ [z]) ⟨by show i + 1 ≤ _; omega, p2.trans hle8, ?_, fun s hs => ?_⟩ (by show S.length - (i + 1) < S.length - i; omega) ts_ (fun _ s => ?_)
    · dsimp only
      rw [htk, List.map_append, show [z].map Sb.a = [z.a] by rfl, hza]
    · rcases List.mem_append.1 hs with hs | hs
      · exact (p4 s hs).mono hle8
      · rw [List.mem_singleton.1 hs]
        exact hz
    · have s2 := s.picks [1, 1, 1, 1, 1, 1]
      dsimp only
      show St _ _ [Res.row _ _ v9 (O ++ [z]).length ((O ++ [z]).flatMap sbc), _, _, _, _, _] _
      rw [List.length_append, List.flatMap_append, show [z].flatMap sbc = sbc z by simp]
      exact s2
  · obtain rfl : i = S.length := by omega
    rw [List.take_length] at p3
    repeat' (first|(refine ycf ?_;apply ybk;(·first|(exact tk_));(·rfl);(·rfl))|refine t1_ ?_|(refine ta_ ?_;intro _)|((fail_if_success (refine ybi rfl ?_));refine ybj rfl ?_ ?_<;>(intro ht;rw [ht];first|replace ht := oet_ ht|replace ht := oef_ ht|skip))|(refine ych ?_;first|(refine ybw rfl ?_ ?_<;>intro ht)|(refine ybx rfl ?_ ?_<;>intro ht)))
    exact nx_ends (hh, vo, O) ⟨p2, p3, p4⟩ ts_ (fun _ s => s)
end Go.Proofs.YtaofgcahmfailaaGreatDoor
end

section
namespace Go.Proofs.YtaofgcahmfailaaGreatDoor
open Go Go.Ck
set_option maxHeartbeats 4000000
theorem r46_sp (w0 : World) (h0 : View) (R1 R2 R3 R4 : Res) (v5 v20 v22 v23 v25 v26 : Value) (b3 : Nat) (ac : ActD) (va vm vg : Value) (AA V : List Vl) (MM : List (List Int)) (i k : Nat) (b : Bool) (h : View) (hi : i < V.length) (hk : k < AA.length) (hkm : k < MM.length) (hVl : V.length ≤ 1000) (hAl : AA.length ≤ 1000) (hMl : MM.length ≤ 1000)
    (hA : Sc h 22 va AA.length (AA.flatMap vlc)) (hM : Sc h 1 vm MM.length (MM.flatMap fun x => [.string (bstr x)])) (hV : Vs h vg V) (hav : ∀ v ∈ AA, Vr h v ∧ Bytes v.b ∧ v.l.length ≤ 34) (hmy : ∀ m ∈ MM, Bytes m) (hVb : Bytes V[i].b ∧ V[i].l.length ≤ 34) (L0 : List Res)
    (hL0 : L0 = [Res.blk b3 (.cells (acc ac).toArray 41 (0, 0)), R1, R2, R3, R4]) :
    CX Tryz.prog 327 ⟨w0, h0, []⟩ (cGet (cReg 46 (cGet Tryz.f5.body))) [(3, .pointer (some ⟨b3, 0, none⟩)), (5, v5), (6, va), (7, vm), (20, v20), (22, v22), (23, v23), (24, vg), (25, v25), (26, v26), (27, .int .i64 (i : Nat)), (28, .bool b), (29, .int .i64 (k : Nat))] h L0
      (PEnds (X := View × Bool) 327 ⟨w0, h0, []⟩ (fun z => [(3, .pointer (some ⟨b3, 0, none⟩)), (5, v5), (6, va), (7, vm), (20, v20), (22, v22), (23, v23), (24, vg), (25, v25), (26, v26), (27, .int .i64 (i : Nat)), (28, .bool z.2), (29, .int .i64 (k : Nat))]) (fun z => z.1)
        (fun z => [Res.blk b3 (.cells (acc ac).toArray 41 (0, 0)), R1, R2, R3, R4]) (fun z => Le h z.1 ∧ ((b = true ∨ (MM[k] = nmB ac.name ∧ V[i].t = AA[k].t)) → z.2 = true))) := by
  subst hL0
  obtain ⟨_, ada, capa, rfl, hcapa, _⟩ := id hA
  obtain ⟨_, adm, capm, rfl, hcapm, _⟩ := id hM
  obtain ⟨_, adv, capv, rfl, hcapv, _⟩ := id hV.1
  obtain ⟨ba, oa, rfl⟩ := hA.ad (by omega) (by omega)
  obtain ⟨bm, om, rfl⟩ := hM.ad (by omega) (by omega)
  obtain ⟨bv, ov, rfl⟩ := hV.1.ad (by omega) (by omega)
  have ela : ∀ L, Cells h L ⟨ba, oa + k * 22, none⟩ (vlc AA[k]) := fun L => hA.elem vlc_len k hk
  have elm : ∀ L, Cells h L ⟨bm, om + k * 1, none⟩ [.string (bstr MM[k])] := fun L => Sc.elem (enc := fun x : List Int => [Value.string (bstr x)]) (fun _ => rfl) hM k hkm
  have elv : ∀ L, Cells h L ⟨bv, ov + i * 22, none⟩ (vlc V[i]) := fun L => hV.1.elem vlc_len i hi
  have hva := hav _ (List.getElem_mem hk)
  have hvm := hmy _ (List.getElem_mem hkm)
  have hvv := hV.2 _ (List.getElem_mem hi)
  generalize AA[k] = xa at ela hva ⊢
  generalize MM[k] = m at elm hvm ⊢
  generalize V[i] = z at elv hvv hVb ⊢
  have hxl := vlc_len xa
  have hzl := vlc_len z
  refine cx_region_drawW [Res.blk b3 (.cells (acc ac).toArray 41 (0, 0))] [8, 9, 16, 21, 24] rfl (by kernel_rfl) ?_
  cases b
  · skip
    repeat' (refine ycf ?_;(first|(first|(apply ybm;(·(first|(first|exact tk_|(apply yad;(·rfl);(·exact elv _);(·exact hzl))|(apply yad;(·rfl);(·exact ela _);(·exact hxl)))|(apply yae;(·rfl);(·(first|exact ac_name (yaz 0 rfl)|exact cellat_eq ((elm _).cell (j := 0) rfl) (by omega))))|exact tq_));(·rfl);(·rfl);(·(first|exact hd_one' (Le.refl h) tmm_|exact hd_one' hle tmm_)))|refine ybl rfl rfl ?_|((fail_if_success (refine ybi rfl ?_));refine ybj rfl ?_ ?_<;>(intro ht;rw [ht];first|replace ht := oet_ ht|replace ht := oef_ ht|skip))|(refine tb_ ?_ ?_ ?_;(·(first|exact ybf|(refine .inl ?_;(first|exact hd_one' (Le.refl h) tmm_|exact hd_one' hle tmm_))|exact to_));(·intro _;(first|exact ybf|(refine .inl ?_;(first|exact hd_one' (Le.refl h) tmm_|exact hd_one' hle tmm_))|exact to_));intro _)|(first|(refine tqs_ ?_ ?_ ?_;(·(first|exact ybf|(refine .inl ?_;(first|exact hd_one' (Le.refl h) tmm_|exact hd_one' hle tmm_))|exact to_));(·(first|exact ybf|(refine .inl ?_;(first|exact hd_one' (Le.refl h) tmm_|exact hd_one' hle tmm_))|exact to_))))|(apply ybn;(·(first|(first|exact tk_|(apply yad;(·rfl);(·exact elv _);(·exact hzl))|(apply yad;(·rfl);(·exact ela _);(·exact hxl)))|(apply yae;(·rfl);(·(first|exact ac_name (yaz 0 rfl)|exact cellat_eq ((elm _).cell (j := 0) rfl) (by omega))))|exact tq_));(·rfl);(·rfl);(·rfl);(·(first|exact ybf|(refine .inl ?_;(first|exact hd_one' (Le.refl h) tmm_|exact hd_one' hle tmm_))|exact to_))))|refine ycg ?_))
    (refine yco (ycp Tryz.func14 rfl (by kernel_rfl) rfl) (name7_sp ac.name h) rfl rfl rfl ?_ ?_ ?_;(·(first|exact ybf|(refine .inl ?_;(first|exact hd_one' (Le.refl h) tmm_|exact hd_one' hle tmm_))|exact to_));(·intro _ _ hle;(first|exact ybf|(refine .inl ?_;(first|exact hd_one' (Le.refl h) tmm_|exact hd_one' hle tmm_))|exact to_));intro x px hle)
    obtain ⟨h3, vn⟩ := x
    dsimp only at px hle ⊢
    have hle3 : Le h h3 := hle
    have hn3 : Bs8 h3 vn (nmB ac.name) := px
    clear px hle
    have hstr := bstr_eqC hvm (nmB_by ac.name)
    by_cases hmn : m = nmB ac.name
    · rw [decide_eq_true hmn] at hstr
      have V7 := value7_sp z h3 (hvv.mono hle3)
      have SM := same27_sp z.r xa h3 (hvv.mono hle3).r (hva.1.mono hle3) hVb.1 hva.2.1 (by show z.l.length ≤ _; omega) (by omega)
      repeat' (refine ycf ?_;(first|(first|(apply ybm;(·(first|(first|exact tk_|(exact qv_str_bs rfl hn3)|(exact qv_eql_str rfl rfl hstr)|(apply yad;(·rfl);(·exact elv _);(·exact hzl))|(apply yad;(·rfl);(·exact ela _);(·exact hxl)))|exact tq_));(·rfl);(·rfl);(·(exact hd_one' hle3 tmm_)))|refine ybl rfl rfl ?_|((fail_if_success (refine ybi rfl ?_));refine ybj rfl ?_ ?_<;>(intro ht;rw [ht];first|replace ht := oet_ ht|replace ht := oef_ ht|skip))|(refine tb_ ?_ ?_ ?_;(·(first|exact ybf|(refine .inl ?_;(exact hd_one' hle3 tmm_))|exact to_));(·intro _;(first|exact ybf|(refine .inl ?_;(exact hd_one' hle3 tmm_))|exact to_));intro _)|(first|(refine tqs_ ?_ ?_ ?_;(·(first|exact ybf|(refine .inl ?_;(exact hd_one' hle3 tmm_))|exact to_));(·(first|exact ybf|(refine .inl ?_;(exact hd_one' hle3 tmm_))|exact to_))))|(apply ybn;(·(first|(first|exact tk_|(exact qv_str_bs rfl hn3)|(exact qv_eql_str rfl rfl hstr)|(apply yad;(·rfl);(·exact elv _);(·exact hzl))|(apply yad;(·rfl);(·exact ela _);(·exact hxl)))|exact tq_));(·rfl);(·rfl);(·rfl);(·(first|exact ybf|(refine .inl ?_;(exact hd_one' hle3 tmm_))|exact to_))))|refine ycg ?_))
      (refine ycn (ycp Tryz.func18 rfl (by kernel_rfl) rfl) (V7) rfl rfl rfl ?_ ?_;(·(first|exact ybf|(refine .inl ?_;(exact hd_one' hle3 tmm_))|exact to_)))
      repeat' (refine ycf ?_;(first|(first|(apply ybm;(·(first|(first|exact tk_|(exact qv_str_bs rfl hn3)|(exact qv_eql_str rfl rfl hstr)|(apply yad;(·rfl);(·exact elv _);(·exact hzl))|(apply yad;(·rfl);(·exact ela _);(·exact hxl)))|exact tq_));(·rfl);(·rfl);(·(exact hd_one' hle3 tmm_)))|refine ybl rfl rfl ?_|((fail_if_success (refine ybi rfl ?_));refine ybj rfl ?_ ?_<;>(intro ht;rw [ht];first|replace ht := oet_ ht|replace ht := oef_ ht|skip))|(refine tb_ ?_ ?_ ?_;(·(first|exact ybf|(refine .inl ?_;(exact hd_one' hle3 tmm_))|exact to_));(·intro _;(first|exact ybf|(refine .inl ?_;(exact hd_one' hle3 tmm_))|exact to_));intro _)|(first|(refine tqs_ ?_ ?_ ?_;(·(first|exact ybf|(refine .inl ?_;(exact hd_one' hle3 tmm_))|exact to_));(·(first|exact ybf|(refine .inl ?_;(exact hd_one' hle3 tmm_))|exact to_))))|(apply ybn;(·(first|(first|exact tk_|(exact qv_str_bs rfl hn3)|(exact qv_eql_str rfl rfl hstr)|(apply yad;(·rfl);(·exact elv _);(·exact hzl))|(apply yad;(·rfl);(·exact ela _);(·exact hxl)))|exact tq_));(·rfl);(·rfl);(·rfl);(·(first|exact ybf|(refine .inl ?_;(exact hd_one' hle3 tmm_))|exact to_))))|refine ycg ?_))
      (refine ycn (ycp Tryz.func17 rfl (by kernel_rfl) rfl) (SM) rfl rfl rfl ?_ ?_;(·(first|exact ybf|(refine .inl ?_;(exact hd_one' hle3 tmm_))|exact to_)))
      repeat' (refine ycf ?_;(first|(first|(apply ybm;(·(first|(exact tk_)|exact tq_));(·rfl);(·rfl);(·(exact hd_one' hle3 tmm_)))|refine ybl rfl rfl ?_|((fail_if_success (refine ybi rfl ?_));refine ybj rfl ?_ ?_<;>(intro ht;rw [ht];first|replace ht := oet_ ht|replace ht := oef_ ht|skip))|(refine tb_ ?_ ?_ ?_;(·(first|exact ybf|(refine .inl ?_;(exact hd_one' hle3 tmm_))|exact to_));(·intro _;(first|exact ybf|(refine .inl ?_;(exact hd_one' hle3 tmm_))|exact to_));intro _)|(first|(refine tqs_ ?_ ?_ ?_;(·(first|exact ybf|(refine .inl ?_;(exact hd_one' hle3 tmm_))|exact to_));(·(first|exact ybf|(refine .inl ?_;(exact hd_one' hle3 tmm_))|exact to_))))|(apply ybn;(·(first|(exact tk_)|exact tq_));(·rfl);(·rfl);(·rfl);(·(first|exact ybf|(refine .inl ?_;(exact hd_one' hle3 tmm_))|exact to_))))|refine ycg ?_))
      exact nx_ends (h3, decide (z.r.t = xa.t)) ⟨hle3, fun e => by rcases e with e | e; (· cases e); (· exact decide_eq_true e.2)⟩ ts_ (fun _ s => s)
    · rw [decide_eq_false hmn] at hstr
      repeat' (refine ycf ?_;(first|(first|(apply ybm;(·(first|(first|exact tk_|(exact qv_str_bs rfl hn3)|(exact qv_eql_str rfl rfl hstr))|exact tq_));(·rfl);(·rfl);(·(exact hd_one' hle3 tmm_)))|refine ybl rfl rfl ?_|((fail_if_success (refine ybi rfl ?_));refine ybj rfl ?_ ?_<;>(intro ht;rw [ht];first|replace ht := oet_ ht|replace ht := oef_ ht|skip))|(refine tb_ ?_ ?_ ?_;(·(first|exact ybf|(refine .inl ?_;(exact hd_one' hle3 tmm_))|exact to_));(·intro _;(first|exact ybf|(refine .inl ?_;(exact hd_one' hle3 tmm_))|exact to_));intro _)|(first|(refine tqs_ ?_ ?_ ?_;(·(first|exact ybf|(refine .inl ?_;(exact hd_one' hle3 tmm_))|exact to_));(·(first|exact ybf|(refine .inl ?_;(exact hd_one' hle3 tmm_))|exact to_))))|(apply ybn;(·(first|(first|exact tk_|(exact qv_str_bs rfl hn3)|(exact qv_eql_str rfl rfl hstr))|exact tq_));(·rfl);(·rfl);(·rfl);(·(first|exact ybf|(refine .inl ?_;(exact hd_one' hle3 tmm_))|exact to_))))|refine ycg ?_))
      exact nx_ends (h3, false) ⟨hle3, fun e => by rcases e with e | e; (· cases e); (· exact absurd e.1 hmn)⟩ ts_ (fun _ s => s)
  · skip
    repeat' (refine ycf ?_;(first|(first|(apply ybm;(·(first|(first|exact tk_|(apply yad;(·rfl);(·exact elv _);(·exact hzl))|(apply yad;(·rfl);(·exact ela _);(·exact hxl)))|(apply yae;(·rfl);(·(first|exact ac_name (yaz 0 rfl)|exact cellat_eq ((elm _).cell (j := 0) rfl) (by omega))))|exact tq_));(·rfl);(·rfl);(·(first|exact hd_one' (Le.refl h) tmm_|exact hd_one' hle tmm_)))|refine ybl rfl rfl ?_|((fail_if_success (refine ybi rfl ?_));refine ybj rfl ?_ ?_<;>(intro ht;rw [ht];first|replace ht := oet_ ht|replace ht := oef_ ht|skip))|(refine tb_ ?_ ?_ ?_;(·(first|exact ybf|(refine .inl ?_;(first|exact hd_one' (Le.refl h) tmm_|exact hd_one' hle tmm_))|exact to_));(·intro _;(first|exact ybf|(refine .inl ?_;(first|exact hd_one' (Le.refl h) tmm_|exact hd_one' hle tmm_))|exact to_));intro _)|(first|(refine tqs_ ?_ ?_ ?_;(·(first|exact ybf|(refine .inl ?_;(first|exact hd_one' (Le.refl h) tmm_|exact hd_one' hle tmm_))|exact to_));(·(first|exact ybf|(refine .inl ?_;(first|exact hd_one' (Le.refl h) tmm_|exact hd_one' hle tmm_))|exact to_))))|(apply ybn;(·(first|(first|exact tk_|(apply yad;(·rfl);(·exact elv _);(·exact hzl))|(apply yad;(·rfl);(·exact ela _);(·exact hxl)))|(apply yae;(·rfl);(·(first|exact ac_name (yaz 0 rfl)|exact cellat_eq ((elm _).cell (j := 0) rfl) (by omega))))|exact tq_));(·rfl);(·rfl);(·rfl);(·(first|exact ybf|(refine .inl ?_;(first|exact hd_one' (Le.refl h) tmm_|exact hd_one' hle tmm_))|exact to_))))|refine ycg ?_))
    exact nx_ends (h, true) ⟨Le.refl _, fun _ => rfl⟩ ts_ (fun _ s => s)
theorem loop5_sp (w0 : World) (h0 : View) (R1 R2 R3 R4 : Res) (v5 v20 v22 v23 v25 v26 : Value) (b3 : Nat) (ac : ActD) (va vm vg : Value) (AA V : List Vl) (MM : List (List Int)) (i : Nat) (h : View) (hi : i < V.length) (hAM : AA.length = MM.length) (hVl : V.length ≤ 1000) (hAl : AA.length ≤ 1000)
    (hA : Sc h 22 va AA.length (AA.flatMap vlc)) (hM : Sc h 1 vm MM.length (MM.flatMap fun x => [.string (bstr x)])) (hV : Vs h vg V) (hav : ∀ v ∈ AA, Vr h v ∧ Bytes v.b ∧ v.l.length ≤ 34) (hmy : ∀ m ∈ MM, Bytes m) (hVb : Bytes V[i].b ∧ V[i].l.length ≤ 34)
    (hin : ∃ j : Nat, MM[j]? = some (nmB ac.name) ∧ (AA.map Vl.t)[j]? = some V[i].t) (L0 : List Res)
    (hL0 : L0 = [Res.blk b3 (.cells (acc ac).toArray 41 (0, 0)), R1, R2, R3, R4]) :
    CX Tryz.prog 327 ⟨w0, h0, []⟩ (cGet (cBlk 8 (cGet Tryz.f5.body))) [(3, .pointer (some ⟨b3, 0, none⟩)), (5, v5), (6, va), (7, vm), (20, v20), (22, v22), (23, v23), (24, vg), (25, v25), (26, v26), (27, .int .i64 (i : Nat)), (28, .bool false), (29, .int .i64 0)] h L0
      (PEnds (X := View) 327 ⟨w0, h0, []⟩ (fun z => [(3, .pointer (some ⟨b3, 0, none⟩)), (5, v5), (6, va), (7, vm), (20, v20), (22, v22), (23, v23), (24, vg), (25, v25), (26, v26), (27, .int .i64 (i : Nat)), (28, .bool true)]) (fun z => z)
        (fun z => [Res.blk b3 (.cells (acc ac).toArray 41 (0, 0)), R1, R2, R3, R4]) (fun z => Le h z)) := by
  subst hL0
  obtain ⟨_, ada, capa, rfl, hcapa, _⟩ := id hA
  refine ybq ?_
  refine cx_loop (X := Nat × View × Bool) (fun z => [(3, .pointer (some ⟨b3, 0, none⟩)), (5, v5), (6, .slice ada AA.length capa), (7, vm), (20, v20), (22, v22), (23, v23), (24, vg), (25, v25), (26, v26), (27, .int .i64 (i : Nat)), (28, .bool z.2.2), (29, .int .i64 (z.1 : Nat))]) (fun z => z.2.1) (fun z => [Res.blk b3 (.cells (acc ac).toArray 41 (0, 0)), R1, R2, R3, R4])
    (fun z => z.1 ≤ AA.length ∧ Le h z.2.1 ∧ ((∃ j : Nat, j < z.1 ∧ MM[j]? = some (nmB ac.name) ∧ (AA.map Vl.t)[j]? = some V[i].t) → z.2.2 = true)) (fun z => AA.length - z.1) (0, h, false) ⟨Nat.zero_le _, Le.refl _, fun ⟨j, hj, _⟩ => absurd hj (Nat.not_lt_zero _)⟩ ts_ (fun _ s => s) ?_
  rintro ⟨k, hh, b⟩ ⟨p1, p2, p3⟩
  dsimp only at p1 p2 p3 ⊢
  by_cases hk : k < AA.length
  · refine ybo ?_
    refine cx_cut (X := Unit) (fun _ => [(3, .pointer (some ⟨b3, 0, none⟩)), (5, v5), (6, .slice ada AA.length capa), (7, vm), (20, v20), (22, v22), (23, v23), (24, vg), (25, v25), (26, v26), (27, .int .i64 (i : Nat)), (28, .bool b), (29, .int .i64 (k : Nat))]) (fun _ => hh) (fun _ => [Res.blk b3 (.cells (acc ac).toArray 41 (0, 0)), R1, R2, R3, R4]) (fun _ => True) ?_ ?_
    · repeat' (first|(refine ycf ?_;apply ybk;(·first|(exact tk_)|(apply yae;(·rfl);(·(first|exact ac_name (yaz 0 rfl)|exact cellat_eq ((elm _).cell (j := 0) rfl) (by omega)))));(·rfl);(·rfl))|refine t1_ ?_|(refine ta_ ?_;intro _)|((fail_if_success (refine ybi rfl ?_));refine ybj rfl ?_ ?_<;>(intro ht;rw [ht];first|replace ht := oet_ ht|replace ht := oef_ ht|skip))|(refine ych ?_;first|(refine ybw rfl ?_ ?_<;>intro ht)|(refine ybx rfl ?_ ?_<;>intro ht)))
      exact nx_cut () trivial ts_ (fun _ s => s)
    · intro _ _
      refine yby ?_
      refine ybo ?_
      refine ybq ?_
      refine cx_piece (r46_sp w0 h0 R1 R2 R3 R4 v5 v20 v22 v23 v25 v26 b3 ac (.slice ada AA.length capa) vm vg AA V MM i k b hh hi hk (by omega) hVl hAl (by omega) (hA.mono p2) (hM.mono p2) (hV.mono p2) (fun v hv => ⟨(hav v hv).1.mono p2, (hav v hv).2⟩) hmy hVb _ rfl) ts_ (fun _ s => s) ?_
      rintro ⟨h3, b2⟩ ⟨q1, q2⟩
      dsimp only at q1 q2 ⊢
      repeat' (first|(refine ycf ?_;apply ybk;(·first|(exact tk_)|(apply yae;(·rfl);(·(first|exact ac_name (yaz 0 rfl)|exact cellat_eq ((elm _).cell (j := 0) rfl) (by omega)))));(·rfl);(·rfl))|refine t1_ ?_|(refine ta_ ?_;intro _)|((fail_if_success (refine ybi rfl ?_));refine ybj rfl ?_ ?_<;>(intro ht;rw [ht];first|replace ht := oet_ ht|replace ht := oef_ ht|skip))|(refine ych ?_;first|(refine ybw rfl ?_ ?_<;>intro ht)|(refine ybx rfl ?_ ?_<;>intro ht)))
      refine nx_round (k + 1, h3, b2) ⟨by show k + 1 ≤ _; omega, p2.trans q1, ?_⟩ (by show AA.length - (k + 1) < AA.length - k; omega) ts_ (fun _ s => s)
      rintro ⟨j, hj, hj1, hj2⟩
      replace hj : j < k + 1 := hj
      by_cases hjk : j < k
      · exact q2 (.inl (p3 ⟨j, hjk, hj1, hj2⟩))
      · obtain rfl : j = k := by omega
        refine q2 (.inr ⟨?_, ?_⟩)
        · rw [List.getElem?_eq_getElem (by omega)] at hj1
          exact Option.some.inj hj1
        · rw [List.getElem?_map, List.getElem?_eq_getElem hk] at hj2
          exact (Option.some.inj hj2).symm
  · have hb : b = true := by
      obtain ⟨j, h1, h2⟩ := hin
      have hj : j < MM.length := (List.getElem?_eq_some_iff.1 h1).1
      exact p3 ⟨j, by omega, h1, h2⟩
    rw [hb]
    repeat' (first|(refine ycf ?_;apply ybk;(·first|(exact tk_)|(apply yae;(·rfl);(·(first|exact ac_name (yaz 0 rfl)|exact cellat_eq ((elm _).cell (j := 0) rfl) (by omega)))));(·rfl);(·rfl))|refine t1_ ?_|(refine ta_ ?_;intro _)|((fail_if_success (refine ybi rfl ?_));refine ybj rfl ?_ ?_<;>(intro ht;rw [ht];first|replace ht := oet_ ht|replace ht := oef_ ht|skip))|(refine ych ?_;first|(refine ybw rfl ?_ ?_<;>intro ht)|(refine ybx rfl ?_ ?_<;>intro ht)))
    exact nx_ends hh p2 ts_ (fun _ s => s)
theorem loop4_sp (w0 : World) (h0 : View) (R1 R2 R3 R4 : Res) (v5 v20 v22 v23 v25 v26 : Value) (b3 : Nat) (ac : ActD) (va vm vg : Value) (AA V : List Vl) (MM : List (List Int)) (h : View) (hAM : AA.length = MM.length) (hVl : V.length ≤ 1000) (hAl : AA.length ≤ 1000)
    (hA : Sc h 22 va AA.length (AA.flatMap vlc)) (hM : Sc h 1 vm MM.length (MM.flatMap fun x => [.string (bstr x)])) (hV : Vs h vg V) (hav : ∀ v ∈ AA, Vr h v ∧ Bytes v.b ∧ v.l.length ≤ 34) (hmy : ∀ m ∈ MM, Bytes m) (hVb : ∀ z ∈ V, Bytes z.b ∧ z.l.length ≤ 34)
    (hin : ∀ z ∈ V, ∃ j : Nat, MM[j]? = some (nmB ac.name) ∧ (AA.map Vl.t)[j]? = some z.t) (L0 : List Res)
    (hL0 : L0 = [Res.blk b3 (.cells (acc ac).toArray 41 (0, 0)), R1, R2, R3, R4]) :
    CX Tryz.prog 327 ⟨w0, h0, []⟩ (cGet (cBlk 6 (cGet Tryz.f5.body))) [(3, .pointer (some ⟨b3, 0, none⟩)), (5, v5), (6, va), (7, vm), (20, v20), (22, v22), (23, v23), (24, vg), (25, v25), (26, v26), (27, .int .i64 0)] h L0
      (PEnds (X := View) 327 ⟨w0, h0, []⟩ (fun z => [(3, .pointer (some ⟨b3, 0, none⟩)), (5, v5), (20, v20), (22, v22), (23, v23), (24, vg), (25, v25), (26, v26)]) (fun z => z)
        (fun z => [Res.blk b3 (.cells (acc ac).toArray 41 (0, 0)), R1, R2, R3, R4]) (fun z => Le h z)) := by
  subst hL0
  obtain ⟨_, adv, capv, rfl, hcapv, _⟩ := id hV.1
  refine ybq ?_
  refine cx_loop (X := Nat × View) (fun z => [(3, .pointer (some ⟨b3, 0, none⟩)), (5, v5), (6, va), (7, vm), (20, v20), (22, v22), (23, v23), (24, .slice adv V.length capv), (25, v25), (26, v26), (27, .int .i64 (z.1 : Nat))]) (fun z => z.2) (fun z => [Res.blk b3 (.cells (acc ac).toArray 41 (0, 0)), R1, R2, R3, R4])
    (fun z => z.1 ≤ V.length ∧ Le h z.2) (fun z => V.length - z.1) (0, h) ⟨Nat.zero_le _, Le.refl _⟩ ts_ (fun _ s => s) ?_
  rintro ⟨i, hh⟩ ⟨p1, p2⟩
  dsimp only at p1 p2 ⊢
  by_cases hi : i < V.length
  · refine ybo ?_
    refine cx_cut (X := Unit) (fun _ => [(3, .pointer (some ⟨b3, 0, none⟩)), (5, v5), (6, va), (7, vm), (20, v20), (22, v22), (23, v23), (24, .slice adv V.length capv), (25, v25), (26, v26), (27, .int .i64 (i : Nat))]) (fun _ => hh) (fun _ => [Res.blk b3 (.cells (acc ac).toArray 41 (0, 0)), R1, R2, R3, R4]) (fun _ => True) ?_ ?_
    · repeat' (first|(refine ycf ?_;apply ybk;(·first|(exact tk_)|(apply yae;(·rfl);(·(first|exact ac_name (yaz 0 rfl)|exact cellat_eq ((elm _).cell (j := 0) rfl) (by omega)))));(·rfl);(·rfl))|refine t1_ ?_|(refine ta_ ?_;intro _)|((fail_if_success (refine ybi rfl ?_));refine ybj rfl ?_ ?_<;>(intro ht;rw [ht];first|replace ht := oet_ ht|replace ht := oef_ ht|skip))|(refine ych ?_;first|(refine ybw rfl ?_ ?_<;>intro ht)|(refine ybx rfl ?_ ?_<;>intro ht)))
      exact nx_cut () trivial ts_ (fun _ s => s)
    · intro _ _
      refine yby ?_
      refine ybo ?_
      refine ybq ?_
      refine ybo ?_
      refine cx_cut (X := Unit) (fun _ => [(3, .pointer (some ⟨b3, 0, none⟩)), (5, v5), (6, va), (7, vm), (20, v20), (22, v22), (23, v23), (24, .slice adv V.length capv), (25, v25), (26, v26), (27, .int .i64 (i : Nat)), (28, .bool false)]) (fun _ => hh) (fun _ => [Res.blk b3 (.cells (acc ac).toArray 41 (0, 0)), R1, R2, R3, R4]) (fun _ => True) ?_ ?_
      · repeat' (first|(refine ycf ?_;apply ybk;(·first|(exact tk_)|(apply yae;(·rfl);(·(first|exact ac_name (yaz 0 rfl)|exact cellat_eq ((elm _).cell (j := 0) rfl) (by omega)))));(·rfl);(·rfl))|refine t1_ ?_|(refine ta_ ?_;intro _)|((fail_if_success (refine ybi rfl ?_));refine ybj rfl ?_ ?_<;>(intro ht;rw [ht];first|replace ht := oet_ ht|replace ht := oef_ ht|skip))|(refine ych ?_;first|(refine ybw rfl ?_ ?_<;>intro ht)|(refine ybx rfl ?_ ?_<;>intro ht)))
        exact nx_cut () trivial ts_ (fun _ s => s)
      · intro _ _
        refine yby ?_
        refine ybo ?_
        refine ybo ?_
        refine cx_cut (X := Unit) (fun _ => [(3, .pointer (some ⟨b3, 0, none⟩)), (5, v5), (6, va), (7, vm), (20, v20), (22, v22), (23, v23), (24, .slice adv V.length capv), (25, v25), (26, v26), (27, .int .i64 (i : Nat)), (28, .bool false), (29, .int .i64 0)]) (fun _ => hh) (fun _ => [Res.blk b3 (.cells (acc ac).toArray 41 (0, 0)), R1, R2, R3, R4]) (fun _ => True) ?_ ?_
        · repeat' (first|(refine ycf ?_;apply ybk;(·first|(exact tk_)|(apply yae;(·rfl);(·(first|exact ac_name (yaz 0 rfl)|exact cellat_eq ((elm _).cell (j := 0) rfl) (by omega)))));(·rfl);(·rfl))|refine t1_ ?_|(refine ta_ ?_;intro _)|((fail_if_success (refine ybi rfl ?_));refine ybj rfl ?_ ?_<;>(intro ht;rw [ht];first|replace ht := oet_ ht|replace ht := oef_ ht|skip))|(refine ych ?_;first|(refine ybw rfl ?_ ?_<;>intro ht)|(refine ybx rfl ?_ ?_<;>intro ht)))
          exact nx_cut () trivial ts_ (fun _ s => s)
        · intro _ _
          refine yby ?_
          have hm := List.getElem_mem hi
          refine cx_piece (loop5_sp w0 h0 R1 R2 R3 R4 v5 v20 v22 v23 v25 v26 b3 ac va vm (.slice adv V.length capv) AA V MM i hh hi hAM hVl hAl (hA.mono p2) (hM.mono p2) (hV.mono p2) (fun v hv => ⟨(hav v hv).1.mono p2, (hav v hv).2⟩) hmy (hVb _ hm) (hin _ hm) _ rfl) ts_ (fun _ s => s) ?_
          rintro h3 q1
          repeat' (first|(refine ycf ?_;apply ybk;(·first|(exact tk_)|(apply yae;(·rfl);(·(first|exact ac_name (yaz 0 rfl)|exact cellat_eq ((elm _).cell (j := 0) rfl) (by omega)))));(·rfl);(·rfl))|refine t1_ ?_|(refine ta_ ?_;intro _)|((fail_if_success (refine ybi rfl ?_));refine ybj rfl ?_ ?_<;>(intro ht;rw [ht];first|replace ht := oet_ ht|replace ht := oef_ ht|skip))|(refine ych ?_;first|(refine ybw rfl ?_ ?_<;>intro ht)|(refine ybx rfl ?_ ?_<;>intro ht)))
          exact nx_round (i + 1, h3) ⟨by show i + 1 ≤ _; omega, p2.trans q1⟩ (by show V.length - (i + 1) < V.length - i; omega) ts_ (fun _ s => s)
  · repeat' (first|(refine ycf ?_;apply ybk;(·first|(exact tk_)|(apply yae;(·rfl);(·(first|exact ac_name (yaz 0 rfl)|exact cellat_eq ((elm _).cell (j := 0) rfl) (by omega)))));(·rfl);(·rfl))|refine t1_ ?_|(refine ta_ ?_;intro _)|((fail_if_success (refine ybi rfl ?_));refine ybj rfl ?_ ?_<;>(intro ht;rw [ht];first|replace ht := oet_ ht|replace ht := oef_ ht|skip))|(refine ych ?_;first|(refine ybw rfl ?_ ?_<;>intro ht)|(refine ybx rfl ?_ ?_<;>intro ht)))
    exact nx_ends hh p2 ts_ (fun _ s => s)
end Go.Proofs.YtaofgcahmfailaaGreatDoor
end
