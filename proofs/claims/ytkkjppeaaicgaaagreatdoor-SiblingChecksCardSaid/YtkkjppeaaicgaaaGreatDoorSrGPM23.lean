/-
  The law SiblingChecks: for every input the call returns true and the argument reads as before; the card ties the two tables of package sha2 to the text.
  Conditions: none.
-/
import Derived.Deep.Slices
import Derived.Carry
import Derived.DataReads
import Derived.DataShut
import Derived.Test.YtkkjppeaaicgaaaGreatDoorRows
import Derived.WalkKit
import Derived.ProofKit
import Derived.OpenShut
import Derived.LaidMore
import Derived.Stop.Joined
import Derived.SevenTiedAt
import Derived.Test.YtkkjppeaaicgaaaGreatDoorCards
import Derived.Test.YtkkjppeaaicgaaaGreatDoorTie
import Derived.Test.YtkkjppeaaicgaaaGreatDoorSrGPM22
section
namespace Go.Proofs.YtkkjppeaaicgaaaGreatDoor
open Go Go.Ck
set_option maxRecDepth 100000
set_option maxHeartbeats 4000000
set_option linter.unusedVariables false
def SeenQ (l : List Ab) (u : List Int) (m : List Dt) (e : Int) : Prop :=
  if checkA l ≠ 0 then e = checkA l ∧ u = zeroU ∧ m = [] else ∃ U T, Inv U T ∧ (∀ x, rightB x = true → hasC U T x = seenA l x) ∧ (if 32 < T.length then e = 11 ∧ u = zeroU ∧ m = [] else e = 0 ∧ u = U ∧ m = T)
theorem seen_q {l : List Sb} (x : Dt) (hx : rightB x = true) : (hasC (upS l l.length) [] x || decide (x ∈ dotS l l.length)) = seenA (l.map Sb.a) x := seen_eq (List.Perm.refl _) x hx
theorem rseen_sp (v : Value) (l : List Sb) (h : View) (hs : Rs h v l) (fl : Fits l) (w : World) (s : St ⟨w, h, []⟩ h [] w) :
    Calls Tryz.prog 10 [v].toArray w fun e w' => ∃ z : View × Value × List Int × List Dt × Int, e = .returned (.tuple #[z.2.1, .int .i64 z.2.2.2.2]) ∧ St ⟨w, h, []⟩ z.1 [] w' ∧ Cx z.1 z.2.1 z.2.2.1 z.2.2.2.1 ∧ SeenQ (l.map Sb.a) z.2.2.1 z.2.2.2.1 z.2.2.2.2 := by
  have CA := rcheck_sp v l h hs (by have := fl.1; omega) (fun x hx => by have := (fl.2 x hx); omega)
  obtain ⟨hs, hsv⟩ := hs
  obtain ⟨_, ad, cap, rfl, hcap, _⟩ := id hs
  refine calls_enter Tryz.func10 rfl Tryz.ntmps10 rfl s ?_
  by_cases hz : checkA (l.map Sb.a) = 0
  ·
    repeat' (first|(refine ycf ?_;apply ybk;(·first|(exact tk_));(·rfl);(·rfl))|refine t1_ ?_|(refine ta_ ?_;intro _)|((fail_if_success (refine ybi rfl ?_));refine ybj rfl ?_ ?_<;>(intro ht;rw [ht];first|replace ht := oet_ ht|replace ht := oef_ ht|skip))|(refine ych ?_;first|(refine ybw rfl ?_ ?_<;>intro ht)|(refine ybx rfl ?_ ?_<;>intro ht)))
    (refine ycn (ycp Tryz.func6 rfl (by kernel_rfl) rfl) (CA) rfl rfl rfl ?_ ?_; (· (exact to_)))
    repeat' (first|(refine ycf ?_;apply ybk;(·first|(exact tk_));(·rfl);(·rfl))|refine t1_ ?_|(refine ta_ ?_;intro _)|((fail_if_success (refine ybi rfl ?_));refine ybj rfl ?_ ?_<;>(intro ht;rw [ht];first|replace ht := oet_ ht|replace ht := oef_ ht|skip))|(refine ych ?_;first|(refine ybw rfl ?_ ?_<;>intro ht)|(refine ybx rfl ?_ ?_<;>intro ht)))
    rename_i b2 b5
    obtain ⟨cl64, cr, _, _⟩ := checkA_ok hz
    rw [List.length_map] at cl64
    have hr : ∀ s ∈ l, rightB s.d = true ∧ checkC s.u s.l = 0 := fun s hs => by
      have := rightA_ok (cr s.a (List.mem_map_of_mem hs))
      exact ⟨this.1, this.2.1⟩
    have h32 : ∀ s ∈ l, s.l.length ≤ 32 := fun s hs => (check_right (hr s hs).2).2.1
    refine cx_row 53 2 ?_
    refine cx_loop (X := Nat × Value) (fun x => [(0, .slice ad l.length cap), (2, .pointer (some ⟨b2, 0, none⟩)), (5, .pointer (some ⟨b5, 0, none⟩)), (6, x.2), (7, .int .i64 (x.1 : Nat))]) (fun _ => h)
      (fun x => [rowD x.2 (dotS l x.1), Res.blk b5 (.cells (up (upS l x.1)).toArray 34 (0, 0)), Res.blk b2 (.cells (cxc zeroU (.slice none 0 0)).toArray 40 (0, 0))])
      (fun x => x.1 ≤ l.length) (fun x => l.length - x.1) (0, .slice none 0 0) (Nat.zero_le _) ts_ (fun _ s => s) ?_
    rintro ⟨k, rv⟩ hk
    dsimp only at hk ⊢
    have hUl := upS_len l k hk
    by_cases hkl : k < l.length
    · obtain ⟨bs, o, rfl⟩ := hs.ad (by omega) (by omega)
      have hel : ∀ L, Cells h L ⟨bs, o + k * 20, none⟩ (sbc l[k]) := fun L => hs.elem sbc_len k hkl
      have hxv : Rv h l[k] := hsv _ (List.getElem_mem hkl)
      have hlim := fl.2 _ (List.getElem_mem hkl)
      have he32 := h32 _ (List.getElem_mem hkl)
      have hU1 := upS_succ hkl
      have hd1 := dotS_succ hkl
      generalize l[k] = e0 at hel hxv hlim hU1 hd1 he32
      generalize upS l k = U at hUl hU1 ⊢
      have hxl := sbc_len e0
      have hmK : ∀ i, i ≤ 16 → (maxK U e0.u i).length = 16 := fun i hi => maxK_len hUl e0.hu hi
      repeat' (first|(refine ycf ?_;apply ybk;(·first|(exact tk_));(·rfl);(·rfl))|refine t1_ ?_|(refine ta_ ?_;intro _)|((fail_if_success (refine ybi rfl ?_));refine ybj rfl ?_ ?_<;>(intro ht;rw [ht];first|replace ht := oet_ ht|replace ht := oef_ ht|skip))|(refine ych ?_;first|(refine ybw rfl ?_ ?_<;>intro ht)|(refine ybx rfl ?_ ?_<;>intro ht)))
      refine cx_loop (X := Nat) (fun i => [(0, .slice (some ⟨bs, o, none⟩) l.length cap), (2, .pointer (some ⟨b2, 0, none⟩)), (5, .pointer (some ⟨b5, 0, none⟩)), (6, rv), (7, .int .i64 (k : Nat)), (8, .int .i64 (i : Nat))]) (fun _ => h)
        (fun i => [rowD rv (dotS l k), Res.blk b5 (.cells (up (maxK U e0.u i)).toArray 34 (0, 0)), Res.blk b2 (.cells (cxc zeroU (.slice none 0 0)).toArray 40 (0, 0))])
        (fun i => i ≤ 16) (fun i => 16 - i) 0 (Nat.zero_le _) ts_ (fun _ s => s) ?_
      intro i hi
      by_cases hi16 : i < 16
      · have hset := maxK_set hUl e0.hu hi16
        have hat := maxK_at hUl e0.hu hi16
        have hKl := hmK i hi
        have hmx : (if e0.u.getD i 0 > U.getD i 0 then e0.u.getD i 0 else U.getD i 0) = maxI (U.getD i 0) (e0.u.getD i 0) := rfl
        have hpc : ∀ L, CellAt h L bs (o + k * 20 + 2 + 0 + i * 1) (.int .i64 (e0.u.getD i 0)) := fun L => by
          have := (sb_past (hel L)).cell (cxc_up (mv := e0.mv) (show i < e0.u.length by rw [e0.hu]; exact hi16))
          rw [Nat.mul_one, Nat.add_zero]
          exact this
        repeat' (first|(refine ycf ?_;apply ybk;(·first|(first|exact tk_|(refine qv_max' rfl rfl rfl))|(apply yae;(·rfl);(·(first|exact hpc _|exact cell_upy hat (yaz 1 rfl) (by omega) (by omega)))));(·rfl);(·rfl))|(refine ybg 1 rfl rfl rfl rfl (fit_up (i := i) (by omega) (by omega)) rfl (spl_up (i := i) (by omega) (by omega)) rfl rfl ?_ ?_ ?_;(·(exact to_));(·(exact to_)))|refine t1_ ?_|(refine ta_ ?_;intro _)|((fail_if_success (refine ybi rfl ?_));refine ybj rfl ?_ ?_<;>(intro ht;rw [ht];first|replace ht := oet_ ht|replace ht := oef_ ht|skip))|(refine ych ?_;first|(refine ybw rfl ?_ ?_<;>intro ht)|(refine ybx rfl ?_ ?_<;>intro ht)))
        refine cx_region_draw' rfl (by kernel_rfl) ?_
        repeat' (refine ycf ?_;(first|(first|(apply ybm;(·(first|(first|exact tk_|(refine qv_max' rfl rfl rfl))|(apply yae;(·rfl);(·(first|exact hpc _|exact cell_upy hat (yaz 1 rfl) (by omega) (by omega))))|exact tq_));(·rfl);(·rfl);(·(exact th_)))|refine ybl rfl rfl ?_|((fail_if_success (refine ybi rfl ?_));refine ybj rfl ?_ ?_<;>(intro ht;rw [ht];first|replace ht := oet_ ht|replace ht := oef_ ht|skip))|(refine tb_ ?_ ?_ ?_;(·(exact to_));(·intro _;(exact to_));intro _)|(first|(refine ybg 1 rfl rfl rfl rfl (fit_up (i := i) (by omega) (by omega)) rfl (spl_up (i := i) (by omega) (by omega)) rfl rfl ?_ ?_ ?_;(·(exact to_));(·(exact to_)))|(refine tqs_ ?_ ?_ ?_;(·(exact to_));(·(exact to_))))|(apply ybn;(·(first|(first|exact tk_|(refine qv_max' rfl rfl rfl))|(apply yae;(·rfl);(·(first|exact hpc _|exact cell_upy hat (yaz 1 rfl) (by omega) (by omega))))|exact tq_));(·rfl);(·rfl);(·rfl);(·(exact to_))))|refine ycg ?_))
        repeat' (first|(refine ycf ?_;apply ybk;(·first|(first|exact tk_|(refine qv_max' rfl rfl rfl))|(apply yae;(·rfl);(·(first|exact hpc _|exact cell_upy hat (yaz 1 rfl) (by omega) (by omega)))));(·rfl);(·rfl))|(refine ybg 1 rfl rfl rfl rfl (fit_up (i := i) (by omega) (by omega)) rfl (spl_up (i := i) (by omega) (by omega)) rfl rfl ?_ ?_ ?_;(·(exact to_));(·(exact to_)))|refine t1_ ?_|(refine ta_ ?_;intro _)|((fail_if_success (refine ybi rfl ?_));refine ybj rfl ?_ ?_<;>(intro ht;rw [ht];first|replace ht := oet_ ht|replace ht := oef_ ht|skip))|(refine ych ?_;first|(refine ybw rfl ?_ ?_<;>intro ht)|(refine ybx rfl ?_ ?_<;>intro ht)))
        refine nx_round (i + 1) (by show i + 1 ≤ _; omega) (by show 16 - (i + 1) < 16 - i; omega) ts_ (fun _ s => ?_)
        rw [← hset]
        exact s
      · have ei : i = 16 := by omega
        subst ei
        rw [maxK_all hUl e0.hu, ← hU1]
        repeat' (first|(refine ycf ?_;apply ybk;(·first|(exact tk_));(·rfl);(·rfl))|refine t1_ ?_|(refine ta_ ?_;intro _)|((fail_if_success (refine ybi rfl ?_));refine ybj rfl ?_ ?_<;>(intro ht;rw [ht];first|replace ht := oet_ ht|replace ht := oef_ ht|skip))|(refine ych ?_;first|(refine ybw rfl ?_ ?_<;>intro ht)|(refine ybx rfl ?_ ?_<;>intro ht)))
        have hdl := dotS_len h32 k hk
        have h32e : e0.l.length ≤ 32 := he32
        obtain ⟨_, adm, capm, hmv, _, _⟩ := id hxv.ds
        have hds := hxv.ds
        rw [hmv] at hds
        have hmc : ∀ L, CellAt h L bs (o + k * 20 + 2 + 16) (.slice adm e0.l.length capm) := fun L => by
          rw [← hmv]
          exact (sb_past (hel L)).cell (cxc_more e0.hu)
        refine cx_region_drawL [] [] rfl (by kernel_rfl) ?_
        repeat' (refine ycf ?_;(first|(first|(apply ybm;(·(first|(first|exact tk_|(apply yad;(·rfl);(·exact sb_dot (hel _));(·rfl)))|(apply yae;(·rfl);(·(exact hmc _)))|exact tq_));(·rfl);(·rfl);(·(exact fun _ s => Hd.sub s (Le.refl _) (fun r hr => by cases hr))))|refine ybl rfl rfl ?_|((fail_if_success (refine ybi rfl ?_));refine ybj rfl ?_ ?_<;>(intro ht;rw [ht];first|replace ht := oet_ ht|replace ht := oef_ ht|skip))|(refine tb_ ?_ ?_ ?_;(·(first|exact ybf|(refine .inl ?_;(exact fun _ s => Hd.sub s (Le.refl _) (fun r hr => by cases hr)))|exact to_));(·intro _;(first|exact ybf|(refine .inl ?_;(exact fun _ s => Hd.sub s (Le.refl _) (fun r hr => by cases hr)))|exact to_));intro _)|(first|(refine tqs_ ?_ ?_ ?_;(·(first|exact ybf|(refine .inl ?_;(exact fun _ s => Hd.sub s (Le.refl _) (fun r hr => by cases hr)))|exact to_));(·(first|exact ybf|(refine .inl ?_;(exact fun _ s => Hd.sub s (Le.refl _) (fun r hr => by cases hr)))|exact to_))))|(apply ybn;(·(first|(first|exact tk_|(apply yad;(·rfl);(·exact sb_dot (hel _));(·rfl)))|(apply yae;(·rfl);(·(exact hmc _)))|exact tq_));(·rfl);(·rfl);(·rfl);(·(first|exact ybf|(refine .inl ?_;(exact fun _ s => Hd.sub s (Le.refl _) (fun r hr => by cases hr)))|exact to_))))|refine ycg ?_))
        refine rx_append (sz := 2) 1 rfl rfl rfl (yaz 0 rfl) rfl (one_dcs [e0.d]) rfl (by omega) (by unfold maxLen; omega) (by omega) rfl rfl rfl ?_ ?_ ?_
        · (first|exact ybf|(refine .inl ?_;(exact fun _ s => Hd.sub s (Le.refl _) (fun r hr => by cases hr)))|exact to_)
        · intro v';(first|exact ybf|(refine .inl ?_;(exact fun _ s => Hd.sub s (Le.refl _) (fun r hr => by cases hr)))|exact to_)
        intro v3 _
        repeat' (refine ycf ?_;(first|(first|(apply ybm;(·(first|(first|exact tk_|(apply yad;(·rfl);(·exact sb_dot (hel _));(·rfl)))|(apply yae;(·rfl);(·(exact hmc _)))|exact tq_));(·rfl);(·rfl);(·(exact fun _ s => Hd.sub s (Le.refl _) (fun r hr => by cases hr))))|refine ybl rfl rfl ?_|((fail_if_success (refine ybi rfl ?_));refine ybj rfl ?_ ?_<;>(intro ht;rw [ht];first|replace ht := oet_ ht|replace ht := oef_ ht|skip))|(refine tb_ ?_ ?_ ?_;(·(first|exact ybf|(refine .inl ?_;(exact fun _ s => Hd.sub s (Le.refl _) (fun r hr => by cases hr)))|exact to_));(·intro _;(first|exact ybf|(refine .inl ?_;(exact fun _ s => Hd.sub s (Le.refl _) (fun r hr => by cases hr)))|exact to_));intro _)|(first|(refine tqs_ ?_ ?_ ?_;(·(first|exact ybf|(refine .inl ?_;(exact fun _ s => Hd.sub s (Le.refl _) (fun r hr => by cases hr)))|exact to_));(·(first|exact ybf|(refine .inl ?_;(exact fun _ s => Hd.sub s (Le.refl _) (fun r hr => by cases hr)))|exact to_))))|(apply ybn;(·(first|(first|exact tk_|(apply yad;(·rfl);(·exact sb_dot (hel _));(·rfl)))|(apply yae;(·rfl);(·(exact hmc _)))|exact tq_));(·rfl);(·rfl);(·rfl);(·(first|exact ybf|(refine .inl ?_;(exact fun _ s => Hd.sub s (Le.refl _) (fun r hr => by cases hr)))|exact to_))))|refine ycg ?_))
        refine rx_append_sc (sz := 2) (m := e0.l.length) (news := e0.l.flatMap dcs) 1 rfl rfl rfl hds (one_dcs _) rfl (by omega) (by unfold maxLen; omega) (by omega) rfl rfl rfl ?_ ?_ ?_
        · (first|exact ybf|(refine .inl ?_;(exact fun _ s => Hd.sub s (Le.refl _) (fun r hr => by cases hr)))|exact to_)
        · intro v';(first|exact ybf|(refine .inl ?_;(exact fun _ s => Hd.sub s (Le.refl _) (fun r hr => by cases hr)))|exact to_)
        intro v4 _
        repeat' (refine ycf ?_;(first|(first|(apply ybm;(·(first|(first|exact tk_|(apply yad;(·rfl);(·exact sb_dot (hel _));(·rfl)))|(apply yae;(·rfl);(·(exact hmc _)))|exact tq_));(·rfl);(·rfl);(·(exact fun _ s => Hd.sub s (Le.refl _) (fun r hr => by cases hr))))|refine ybl rfl rfl ?_|((fail_if_success (refine ybi rfl ?_));refine ybj rfl ?_ ?_<;>(intro ht;rw [ht];first|replace ht := oet_ ht|replace ht := oef_ ht|skip))|(refine tb_ ?_ ?_ ?_;(·(first|exact ybf|(refine .inl ?_;(exact fun _ s => Hd.sub s (Le.refl _) (fun r hr => by cases hr)))|exact to_));(·intro _;(first|exact ybf|(refine .inl ?_;(exact fun _ s => Hd.sub s (Le.refl _) (fun r hr => by cases hr)))|exact to_));intro _)|(first|(refine tqs_ ?_ ?_ ?_;(·(first|exact ybf|(refine .inl ?_;(exact fun _ s => Hd.sub s (Le.refl _) (fun r hr => by cases hr)))|exact to_));(·(first|exact ybf|(refine .inl ?_;(exact fun _ s => Hd.sub s (Le.refl _) (fun r hr => by cases hr)))|exact to_))))|(apply ybn;(·(first|(first|exact tk_|(apply yad;(·rfl);(·exact sb_dot (hel _));(·rfl)))|(apply yae;(·rfl);(·(exact hmc _)))|exact tq_));(·rfl);(·rfl);(·rfl);(·(first|exact ybf|(refine .inl ?_;(exact fun _ s => Hd.sub s (Le.refl _) (fun r hr => by cases hr)))|exact to_))))|refine ycg ?_))
        repeat' (first|(refine ycf ?_;apply ybk;(·first|(exact tk_));(·rfl);(·rfl))|refine t1_ ?_|(refine ta_ ?_;intro _)|((fail_if_success (refine ybi rfl ?_));refine ybj rfl ?_ ?_<;>(intro ht;rw [ht];first|replace ht := oet_ ht|replace ht := oef_ ht|skip))|(refine ych ?_;first|(refine ybw rfl ?_ ?_<;>intro ht)|(refine ybx rfl ?_ ?_<;>intro ht)))
        refine nx_round (k + 1, v4) (by show k + 1 ≤ _; omega) (by show l.length - (k + 1) < l.length - k; omega) ts_ (fun _ s => ?_)
        have s2 := s.tl
        dsimp only
        rw [hd1]
        show St _ h [Res.row _ _ v4 ((dotS l k ++ [e0.d]) ++ e0.l).length (((dotS l k ++ [e0.d]) ++ e0.l).flatMap dcs), _, _] _
        rw [List.length_append, List.length_append, List.flatMap_append, List.flatMap_append]
        exact s2
    · have ek : k = l.length := by omega
      subst ek
      have hRl := dotS_len h32 l.length (Nat.le_refl _)
      have hUb := upS_bd hr _ (Nat.le_refl l.length)
      have hRr : ∀ d ∈ dotS l l.length, rightB d = true := fun d hd => by
        unfold dotS at hd
        rw [List.take_length] at hd
        obtain ⟨s, hs, hd⟩ := List.mem_flatMap.1 hd
        rcases List.mem_cons.1 hd with rfl | hd
        · exact (hr s hs).1
        · exact (check_right (hr s hs).2).2.2 d hd
      have hq := fun x hx => seen_q (l := l) x hx
      generalize upS l l.length = U at hUl hUb hq ⊢
      generalize dotS l l.length = R at hRl hRr hq ⊢
      iterate 6 (first|(refine ycf ?_;apply ybk;(·first|(first|exact tk_|(apply yad (vs := up U);(·rfl);(·exact yaz 0 rfl);(·simp [up, hUl]))));(·rfl);(·rfl))|refine t1_ ?_|(refine ta_ ?_;intro _)|((fail_if_success (refine ybi rfl ?_));refine ybj rfl ?_ ?_<;>(intro ht;rw [ht];first|replace ht := oet_ ht|replace ht := oef_ ht|skip))|(refine ych ?_;first|(refine ybw rfl ?_ ?_<;>intro ht)|(refine ybx rfl ?_ ?_<;>intro ht)))
      refine rx_persist rfl fun h1 hle1 hs1 => ?_
      have hs1' : Ds h1 rv R := hs1
      repeat' (first|(refine ycf ?_;apply ybk;(·first|(first|exact tk_|(apply yad (vs := up U);(·rfl);(·exact yaz 0 rfl);(·simp [up, hUl]))));(·rfl);(·rfl))|refine t1_ ?_|(refine ta_ ?_;intro _)|((fail_if_success (refine ybi rfl ?_));refine ybj rfl ?_ ?_<;>(intro ht;rw [ht];first|replace ht := oet_ ht|replace ht := oef_ ht|skip))|(refine ych ?_;first|(refine ybw rfl ?_ ?_<;>intro ht)|(refine ybx rfl ?_ ?_<;>intro ht)))
      (refine yco (ycp Tryz.func33 rfl (by kernel_rfl) rfl) (refMake_sp U rv R h1 hUl hUb hs1' hRr (by omega)) rfl rfl rfl ?_ ?_ ?_; (· (exact to_)); (· intro _ _ hle; (exact to_)); intro x px hle)
      obtain ⟨h4, v4, er, U', T⟩ := x
      replace hle : Le h1 h4 := hle
      obtain ⟨p1, p2, p3⟩ := px
      dsimp only at p1 p2 p3
      have hcx : ∃ cu cl, Cx h4 v4 cu cl ∧ (if 32 < T.length then er = 11 ∧ cu = zeroU ∧ cl = [] else er = 0 ∧ cu = U' ∧ cl = T) := by
        by_cases h32 : 32 < T.length
        · rw [if_pos h32] at p3
          exact ⟨_, _, p3.2, by rw [if_pos h32]; exact ⟨p3.1, rfl, rfl⟩⟩
        · rw [if_neg h32] at p3
          exact ⟨_, _, p3.2, by rw [if_neg h32]; exact ⟨p3.1, rfl, rfl⟩⟩
      obtain ⟨cu, cl, hcx, hout⟩ := hcx
      obtain ⟨hu', mv', rfl, hs'⟩ := hcx
      obtain ⟨_, ad', cap', rfl, _, _⟩ := id hs'
      repeat' (first|(refine ycf ?_;apply ybk;(·first|(exact tk_));(·rfl);(·rfl))|(refine ybg 1 rfl rfl rfl (cxc_sz hu') (cxc_fit hu') (cxc_one rfl) (ybh (cxc_all hu')) rfl rfl ?_ ?_ ?_;(·(exact to_));(·(exact to_)))|refine t1_ ?_|(refine ta_ ?_;intro _)|((fail_if_success (refine ybi rfl ?_));refine ybj rfl ?_ ?_<;>(intro ht;rw [ht];first|replace ht := oet_ ht|replace ht := oef_ ht|skip))|(refine ych ?_;first|(refine ybw rfl ?_ ?_<;>intro ht)|(refine ybx rfl ?_ ?_<;>intro ht)))
      refine nx_ret2 rfl (rv_cells rfl (yaz 1 rfl) (cxc_all hu')) (rv_tmp rfl) (fun w' s' => ⟨(h4, cxv cu (.slice ad' cl.length cap'), cu, cl, er), rfl, s'.nil, ⟨hu', _, rfl, hs'⟩, ?_⟩)
      unfold SeenQ
      rw [if_neg (by rw [hz]; decide)]
      exact ⟨U', T, p1, fun x hx => (p2 x hx).trans (hq x hx), hout⟩
  ·
    repeat' (first|(refine ycf ?_;apply ybk;(·first|(exact tk_));(·rfl);(·rfl))|refine t1_ ?_|(refine ta_ ?_;intro _)|((fail_if_success (refine ybi rfl ?_));refine ybj rfl ?_ ?_<;>(intro ht;rw [ht];first|replace ht := oet_ ht|replace ht := oef_ ht|skip))|(refine ych ?_;first|(refine ybw rfl ?_ ?_<;>intro ht)|(refine ybx rfl ?_ ?_<;>intro ht)))
    (refine ycn (ycp Tryz.func6 rfl (by kernel_rfl) rfl) (CA) rfl rfl rfl ?_ ?_; (· (exact to_)))
    repeat' (first|(refine ycf ?_;apply ybk;(·first|(exact tk_));(·rfl);(·rfl))|refine t1_ ?_|(refine ta_ ?_;intro _)|((fail_if_success (refine ybi rfl ?_));refine ybj rfl ?_ ?_<;>(intro ht;rw [ht];first|replace ht := oet_ ht|replace ht := oef_ ht|skip))|(refine ych ?_;first|(refine ybw rfl ?_ ?_<;>intro ht)|(refine ybx rfl ?_ ?_<;>intro ht)))
    refine nx_ret2 rfl (rv_cells rfl (yaz 0 rfl) rfl) (rv_tmp rfl) (fun w' s' => ⟨(h, cxv zeroU (.slice none 0 0), zeroU, [], checkA (l.map Sb.a)), rfl, s'.nil, ⟨rfl, _, rfl, Sc.nil h 2 none 0⟩, ?_⟩)
    unfold SeenQ
    rw [if_pos hz]
    exact ⟨rfl, rfl, rfl⟩
end Go.Proofs.YtkkjppeaaicgaaaGreatDoor
end

section
namespace Go.Proofs.YtkkjppeaaicgaaaGreatDoor
open Go Go.Ck
set_option maxRecDepth 100000
set_option maxHeartbeats 8000000
set_option linter.unusedVariables false
theorem encW_len (u : List Int) (l : List Dt) (hu : u.length = 16) : (encW u l).length = 129 + 16 * l.length := by
  unfold encW
  rw [List.length_append, List.length_append, encU_len, num1_len, encL_len, hu]
theorem encS_small {A : List Sb} {l : List Sb} (e : A.map Sb.a = (l.take 20).map fun x => cutA 40 100 x.a) : (encS (A.map Sb.a)).length ≤ 900000 := by
  have h1 : ∀ a ∈ A.map Sb.a, (encA a).length ≤ 900 := fun a ha => by
    have hu : a.2.1.length = 16 := by
      obtain ⟨x, _, rfl⟩ := List.mem_map.1 ha
      exact x.hu
    rw [e] at ha
    obtain ⟨x, _, rfl⟩ := List.mem_map.1 ha
    have h3 : (cutA 40 100 x.a).2.2.1.length ≤ 40 := by show (x.a.2.2.1.take 40).length ≤ 40; simp; omega
    have h4 : (cutA 40 100 x.a).2.2.2.length ≤ 100 := by show (x.a.2.2.2.take 100).length ≤ 100; simp; omega
    rw [encA_len, encW_len _ _ hu]
    omega
  have h2 : (A.map Sb.a).length ≤ 20 := by
    rw [e]; simp; omega
  have h3 : ∀ L : List Ab, (∀ a ∈ L, (encA a).length ≤ 900) → (L.flatMap encA).length ≤ 900 * L.length := fun L => by
    induction L with
    | nil => intro _; simp
    | cons a L ih =>
      intro h
      rw [List.flatMap_cons, List.length_append, List.length_cons]
      have := ih (fun x hx => h x (List.mem_cons_of_mem _ hx))
      have := h a (List.mem_cons_self ..)
      omega
  have h4 := h3 _ h1
  unfold encS
  rw [List.length_append, num1_len]
  omega
theorem seen_same {L : List Ab} {u U : List Int} {m M : List Dt} {e E : Int} (h1 : SeenR L u m e) (h2 : SeenQ L U M E) : e = E ∧ u = U ∧ m = M := by
  unfold SeenR at h1
  unfold SeenQ at h2
  by_cases hz : checkA L ≠ 0
  · rw [if_pos hz] at h1 h2
    exact ⟨h1.1.trans h2.1.symm, h1.2.1.trans h2.2.1.symm, h1.2.2.trans h2.2.2.symm⟩
  · rw [if_neg hz] at h1 h2
    obtain ⟨V, T, i1, i2, i3⟩ := h2
    rcases h1 with ⟨r1, r2, r3, _, r5⟩ | ⟨r1, r2, r3, r4⟩
    · rw [if_pos (r5 V T i1 i2)] at i3
      exact ⟨r1.trans i3.1.symm, r2.trans i3.2.1.symm, r3.trans i3.2.2.symm⟩
    · obtain ⟨e1, e2⟩ := ctx_uniq r2 i1 (fun x hx => (r4 x hx).trans (i2 x hx).symm)
      rw [if_neg (by rw [← e2]; omega)] at i3
      exact ⟨r1.trans i3.1.symm, e1.trans i3.2.1.symm, e2.trans i3.2.2.symm⟩
section
variable {P : Program} {n : Nat} {F : List (Nat × Value)} {h : View} {L : List Res} {dst : Option Nat} {ty : Nat} {pos : String} {af : Array Edge} {gd : Option (Nat × Bool)}
theorem qv_slice_arrL {T len e k b o : Nat} {x : Operand} {l : List Int} [tu : TyU P T (.array len e)] [ts : TyS P e k] (hl : l.length = len) (hx : ev F x = some (.pointer (some ⟨b, o, none⟩))) :
    QV P n F h L ⟨dst, .slice T x none none none, ty, pos, af, gd⟩ (.slice (some ⟨b, o, none⟩) l.length len) := by
  rw [hl]
  exact qv_slice_arr hx
end
theorem SiblingChecks_sp (lv : Value) (l : List Sb) (h : View) (hs : Rs h lv l) (hl : l.length ≤ 9223372036854775807) (hll : ∀ x ∈ l, x.l.length ≤ 9223372036854775807 ∧ x.b.length ≤ 9223372036854775807) (hg : ShG h) (w : World) (s : St ⟨w, h, []⟩ h [] w) :
    Calls Tryz.prog 3 [lv].toArray w fun e w' => ∃ h', e = .returned (.bool true) ∧ St ⟨w, h, []⟩ h' [] w' := by
  refine calls_enter Tryz.func3 rfl Tryz.ntmps3 rfl s ?_
  repeat' (first|refine tw_ ?_|(refine ta_ ?_;intro _)|((fail_if_success (refine ybi rfl ?_));refine ybj rfl ?_ ?_<;>(intro ht;rw [ht];first|replace ht := oet_ ht|replace ht := oef_ ht|skip))|(refine ych ?_;first|(refine ybw rfl ?_ ?_<;>intro ht)|(refine ybx rfl ?_ ?_<;>intro ht)))
  (refine yco (ycp Tryz.func4 rfl (by kernel_rfl) rfl) (stame_sp lv l h hs hl hll) rfl rfl rfl ?_ ?_ ?_; (· (exact to_)); (· intro _ _ hle; (exact to_)); intro x px hle)
  obtain ⟨h1, v1, A⟩ := x
  obtain ⟨hA, eA⟩ := px
  dsimp only at hA eA
  have hle1 : Le h h1 := hle
  clear hle
  have fA := stame_fits eA
  have zA := encS_small eA
  repeat' (first|refine tw_ ?_|(refine ta_ ?_;intro _)|((fail_if_success (refine ybi rfl ?_));refine ybj rfl ?_ ?_<;>(intro ht;rw [ht];first|replace ht := oet_ ht|replace ht := oef_ ht|skip))|(refine ych ?_;first|(refine ybw rfl ?_ ?_<;>intro ht)|(refine ybx rfl ?_ ?_<;>intro ht)))
  (refine yco (ycp Tryz.func5 rfl (by kernel_rfl) rfl) (sto_sp v1 A h1 hA fA) rfl rfl rfl ?_ ?_ ?_; (· (exact to_)); (· intro _ _ hle; (exact to_)); intro x px hle)
  obtain ⟨h2, v2, I⟩ := x
  obtain ⟨hI, eI⟩ := px
  dsimp only at hI eI
  have hle2 : Le h1 h2 := hle
  clear hle
  have fI := fits_eq eI fA
  have hA2 := hA.mono hle2
  have RC := rcheck_sp v1 A h2 hA2 (by have := fA.1; omega) (fun x hx => by have := fA.2 x hx; omega)
  repeat' (first|refine tw_ ?_|(refine ta_ ?_;intro _)|((fail_if_success (refine ybi rfl ?_));refine ybj rfl ?_ ?_<;>(intro ht;rw [ht];first|replace ht := oet_ ht|replace ht := oef_ ht|skip))|(refine ych ?_;first|(refine ybw rfl ?_ ?_<;>intro ht)|(refine ybx rfl ?_ ?_<;>intro ht)))
  (refine ycn (ycp Tryz.func6 rfl (by kernel_rfl) rfl) (RC) rfl rfl rfl ?_ ?_; (· (exact to_)))
  have zI := zA
  rw [← eI] at zI
  have SW := sWrite_sp v2 I h2 hI fI zI
  rw [eI] at SW
  repeat' (first|refine tw_ ?_|(refine ta_ ?_;intro _)|((fail_if_success (refine ybi rfl ?_));refine ybj rfl ?_ ?_<;>(intro ht;rw [ht];first|replace ht := oet_ ht|replace ht := oef_ ht|skip))|(refine ych ?_;first|(refine ybw rfl ?_ ?_<;>intro ht)|(refine ybx rfl ?_ ?_<;>intro ht)))
  (refine yco (ycp Tryz.func7 rfl (by kernel_rfl) rfl) (SW) rfl rfl rfl ?_ ?_ ?_; (· (exact to_)); (· intro _ _ hle; (exact to_)); intro x px hle)
  obtain ⟨h3, v3⟩ := x
  have hle3 : Le h2 h3 := hle
  clear hle
  have b3 := px
  dsimp only at b3
  clear px
  obtain ⟨B, hB⟩ : ∃ B, B = (if checkA (A.map Sb.a) = 0 then encS (A.map Sb.a) else []) := ⟨_, rfl⟩
  rw [← hB] at b3
  obtain ⟨_, ad3, cap3, rfl, _, _⟩ := id b3
  have SD := sDigest_sp v2 I h3 (hI.mono hle3) fI zI (hg.mono (hle1.trans (hle2.trans hle3)))
  rw [eI] at SD
  have hDl : (if checkA (A.map Sb.a) = 0 then shaF (encS (A.map Sb.a)) else List.replicate 32 0).length = 32 := by
    split
    · exact shaF_len _
    · simp
  obtain ⟨D, hD⟩ : ∃ D, D = (if checkA (A.map Sb.a) = 0 then shaF (encS (A.map Sb.a)) else List.replicate 32 0) := ⟨_, rfl⟩
  rw [← hD] at SD hDl
  repeat' (first|refine tw_ ?_|(refine ta_ ?_;intro _)|((fail_if_success (refine ybi rfl ?_));refine ybj rfl ?_ ?_<;>(intro ht;rw [ht];first|replace ht := oet_ ht|replace ht := oef_ ht|skip))|(refine ych ?_;first|(refine ybw rfl ?_ ?_<;>intro ht)|(refine ybx rfl ?_ ?_<;>intro ht)))
  (refine yco (ycp Tryz.func8 rfl (by kernel_rfl) rfl) (SD) rfl rfl rfl ?_ ?_ ?_; (· (exact to_)); (· intro _ _ hle; (exact to_)); intro x px hle)
  have hle4 : Le h3 x := hle
  clear hle px
  generalize x = h4 at hle4 ⊢
  have hI4 := hI.mono (hle3.trans hle4)
  have hA4 := hA2.mono (hle3.trans hle4)
  have b4 := b3.mono hle4
  have SE := sseen_sp v2 I h4 hI4 fI
  rw [eI] at SE
  have hz0 : checkA (A.map Sb.a) = 0 → B = encS (A.map Sb.a) ∧ D = shaF (encS (A.map Sb.a)) := fun hz => by rw [hB, hD, if_pos hz, if_pos hz]; exact ⟨rfl, rfl⟩
  have hz1 : checkA (A.map Sb.a) ≠ 0 → B = [] ∧ D = List.replicate 32 0 := fun hz => by rw [hB, hD, if_neg hz, if_neg hz]; exact ⟨rfl, rfl⟩
  clear hB hD SD SW
  obtain ⟨cz, hcz⟩ : ∃ cz, cz = checkA (A.map Sb.a) := ⟨_, rfl⟩
  rw [← hcz] at hz0 hz1 ⊢
  repeat' (first|(refine ybg 0 rfl rfl rfl (b_sz hDl) (b_fit hDl (by rfl)) (b_one D) (ybh (b_all hDl (by rfl))) rfl rfl ?_ ?_ ?_;(·(exact to_));(·(exact to_)))|refine t1_ ?_|(refine ta_ ?_;intro _)|((fail_if_success (refine ybi rfl ?_));refine ybj rfl ?_ ?_<;>(intro ht;rw [ht];first|replace ht := oet_ ht|replace ht := oef_ ht|skip))|(refine ych ?_;first|(refine ybw rfl ?_ ?_<;>intro ht)|(refine ybx rfl ?_ ?_<;>intro ht)))
  (refine yco (ycp Tryz.func9 rfl (by kernel_rfl) rfl) (SE) rfl rfl rfl ?_ ?_ ?_; (· (exact to_)); (· intro _ _ hle; (exact to_)); intro x px hle)
  obtain ⟨h5, v5, u, m, e5⟩ := x
  obtain ⟨C5, R5⟩ := px
  dsimp only at C5 R5
  have hle5 : Le h4 h5 := hle
  clear hle
  obtain ⟨hu, mv, hv5, s5⟩ := id C5
  subst hv5
  obtain ⟨_, ad5, cap5, hmv, _, _⟩ := id s5
  subst hmv
  have RS := rseen_sp v1 A h5 (hA4.mono hle5) fA
  repeat' (first|(refine ybg 0 rfl rfl rfl (cxc_sz hu) (cxc_fit hu) (cxc_one rfl) (ybh (cxc_all hu)) rfl rfl ?_ ?_ ?_;(·(exact to_));(·(exact to_)))|refine t1_ ?_|(refine ta_ ?_;intro _)|((fail_if_success (refine ybi rfl ?_));refine ybj rfl ?_ ?_<;>(intro ht;rw [ht];first|replace ht := oet_ ht|replace ht := oef_ ht|skip))|(refine ych ?_;first|(refine ybw rfl ?_ ?_<;>intro ht)|(refine ybx rfl ?_ ?_<;>intro ht)))
  (refine yco (ycp Tryz.func10 rfl (by kernel_rfl) rfl) (RS) rfl rfl rfl ?_ ?_ ?_; (· (exact to_)); (· intro _ _ hle; (exact to_)); intro x px hle)
  obtain ⟨h6, v6, U, M, e6⟩ := x
  obtain ⟨C6, R6⟩ := px
  dsimp only at C6 R6
  have hle6 : Le h5 h6 := hle
  clear hle
  obtain ⟨q1, q2, q3⟩ := seen_same R5 R6
  subst q1 q2 q3
  obtain ⟨hu6, mv6, hv6, s6⟩ := id C6
  subst hv6
  obtain ⟨_, ad6, cap6, hmv6, _, _⟩ := id s6
  subst hmv6
  dsimp only
  repeat' (first|(refine ybg 0 rfl rfl rfl (cxc_sz hu) (cxc_fit hu) (cxc_one rfl) (ybh (cxc_all hu)) rfl rfl ?_ ?_ ?_;(·(exact to_));(·(exact to_)))|refine t1_ ?_|(refine ta_ ?_;intro _)|((fail_if_success (refine ybi rfl ?_));refine ybj rfl ?_ ?_<;>(intro ht;rw [ht];first|replace ht := oet_ ht|replace ht := oef_ ht|skip))|(refine ych ?_;first|(refine ybw rfl ?_ ?_<;>intro ht)|(refine ybx rfl ?_ ?_<;>intro ht)))
  (refine ycn (ycp Tryz.func11 rfl (by kernel_rfl) rfl) (sets_sp h6) rfl rfl rfl ?_ ?_; (· (exact to_)))
  have hI6 := hI4.mono (hle5.trans hle6)
  have hA6 := hA4.mono (hle5.trans hle6)
  have b6 := b4.mono (hle5.trans hle6)
  have C56 := C5.mono hle6
  have CI := scheck_sp v2 I h6 hI6 (by have := fI.1; omega) (fun x hx => by have := (fI.2 x hx).1; omega)
  rw [eI, ← hcz] at CI
  have hm62 : m.length ≤ 4611686018427387904 := by
    unfold SeenR at R5
    split at R5
    · rw [R5.2.2]; simp
    · rcases R5 with ⟨_, _, r3, _⟩ | ⟨_, _, r3, _⟩
      · rw [r3]; simp
      · omega
  have S1 := refSame_sp (cxv u (.slice ad5 m.length cap5)) (cxv u (.slice ad6 m.length cap6)) u u m m h6 C56 C6 hm62 hm62
  rw [show (decide (u = u) && decide (m = m)) = true by simp] at S1
  have hfu := fill2 (ad := ad5) (m := m.length) (c := cap5) hu
  repeat' (first|(refine ycf ?_;apply ybk;(·first|(first|exact tk_|(apply yad (vs := up u);(·rfl);(·exact ycm (yaz 1 rfl));(·simp [up, hu]))|(apply yax (cs := cxc u (.slice ad5 m.length cap5));(·rfl);(·exact hfu))|(apply yad;(·rfl);(·exact yaz 0 rfl);(·exact ycj hu)))|(apply yae;(·rfl);(·(exact yck (yaz 1 rfl) hu rfl))));(·rfl);(·rfl))|refine t1_ ?_|(refine ta_ ?_;intro _)|((fail_if_success (refine ybi rfl ?_));refine ybj rfl ?_ ?_<;>(intro ht;rw [ht];first|replace ht := oet_ ht|replace ht := oef_ ht|skip))|(refine ych ?_;first|(refine ybw rfl ?_ ?_<;>intro ht)|(refine ybx rfl ?_ ?_<;>intro ht)))
  (refine ycn (ycp Tryz.func12 rfl (by kernel_rfl) rfl) (CI) rfl rfl rfl ?_ ?_; (· (exact to_)))
  repeat' (first|(refine ycf ?_;apply ybk;(·first|(first|exact tk_|(apply yad (vs := up u);(·rfl);(·exact ycm (yaz 1 rfl));(·simp [up, hu]))|(apply yax (cs := cxc u (.slice ad5 m.length cap5));(·rfl);(·exact hfu))|(apply yad;(·rfl);(·exact yaz 0 rfl);(·exact ycj hu)))|(apply yae;(·rfl);(·(exact yck (yaz 1 rfl) hu rfl))));(·rfl);(·rfl))|refine t1_ ?_|(refine ta_ ?_;intro _)|((fail_if_success (refine ybi rfl ?_));refine ybj rfl ?_ ?_<;>(intro ht;rw [ht];first|replace ht := oet_ ht|replace ht := oef_ ht|skip))|(refine ych ?_;first|(refine ybw rfl ?_ ?_<;>intro ht)|(refine ybx rfl ?_ ?_<;>intro ht)))
  (refine ycn (ycp Tryz.func13 rfl (by kernel_rfl) rfl) (S1) rfl rfl rfl ?_ ?_; (· (exact to_)))
  repeat' (first|(refine ycf ?_;apply ybk;(·first|(first|exact tk_|(apply yad (vs := up u);(·rfl);(·exact ycm (yaz 1 rfl));(·simp [up, hu]))|(apply yax (cs := cxc u (.slice ad5 m.length cap5));(·rfl);(·exact hfu))|(apply yad;(·rfl);(·exact yaz 0 rfl);(·exact ycj hu)))|(apply yae;(·rfl);(·(exact yck (yaz 1 rfl) hu rfl))));(·rfl);(·rfl))|refine t1_ ?_|(refine ta_ ?_;intro _)|((fail_if_success (refine ybi rfl ?_));refine ybj rfl ?_ ?_<;>(intro ht;rw [ht];first|replace ht := oet_ ht|replace ht := oef_ ht|skip))|(refine ych ?_;first|(refine ybw rfl ?_ ?_<;>intro ht)|(refine ybx rfl ?_ ?_<;>intro ht)))
  (refine yco (ycp Tryz.func15 rfl (by kernel_rfl) rfl) (sfrom_sp v2 I h6 hI6 fI) rfl rfl rfl ?_ ?_ ?_; (· (exact to_)); (· intro _ _ hle; (exact to_)); intro x px hle)
  obtain ⟨h7, v7, N⟩ := x
  obtain ⟨hN, eN⟩ := px
  dsimp only at hN eN
  have hle7 : Le h6 h7 := hle
  clear hle
  have fN := fits_eq eN fI
  have SM := same_of hN (hA6.mono hle7) fN fA
  rw [decide_eq_true (show N.map Sb.a = A.map Sb.a by rw [eN, eI])] at SM
  repeat' (first|(refine ycf ?_;apply ybk;(·first|(first|exact tk_|(apply yad (vs := up u);(·rfl);(·exact ycm (yaz 1 rfl));(·simp [up, hu]))|(apply yax (cs := cxc u (.slice ad5 m.length cap5));(·rfl);(·exact hfu))|(apply yad;(·rfl);(·exact yaz 0 rfl);(·exact ycj hu)))|(apply yae;(·rfl);(·(exact yck (yaz 1 rfl) hu rfl))));(·rfl);(·rfl))|refine t1_ ?_|(refine ta_ ?_;intro _)|((fail_if_success (refine ybi rfl ?_));refine ybj rfl ?_ ?_<;>(intro ht;rw [ht];first|replace ht := oet_ ht|replace ht := oef_ ht|skip))|(refine ych ?_;first|(refine ybw rfl ?_ ?_<;>intro ht)|(refine ybx rfl ?_ ?_<;>intro ht)))
  (refine ycn (ycp Tryz.func14 rfl (by kernel_rfl) rfl) (SM) rfl rfl rfl ?_ ?_; (· (exact to_)))
  by_cases hc : cz = 0
  · obtain ⟨g1, g2⟩ := hz0 hc
    subst g1
    subst g2
    subst hc
    have hbE : Bytes (encS (A.map Sb.a)) := bytes_app (putLow_bytes' 1 _) (bytes_flat fun a ha => by
      obtain ⟨x, hx, rfl⟩ := List.mem_map.1 ha
      exact encA_by (hA.2 x hx).by8)
    have hw16 : ∀ a ∈ A.map Sb.a, a.2.1.length = 16 := fun a ha => by
      obtain ⟨x, hx, rfl⟩ := List.mem_map.1 ha
      exact x.hu
    have hput := srS_put hw16 hcz.symm
    have b7 := b6.mono hle7
    have RD := sRead_sp _ (encS (A.map Sb.a)) hbE (by omega) h7 b7
    rw [hput, if_pos rfl] at RD
    repeat' (first|refine tw_ ?_|(refine ta_ ?_;intro _)|((fail_if_success (refine ybi rfl ?_));refine ybj rfl ?_ ?_<;>(intro ht;rw [ht];first|replace ht := oet_ ht|replace ht := oef_ ht|skip))|(refine ych ?_;first|(refine ybw rfl ?_ ?_<;>intro ht)|(refine ybx rfl ?_ ?_<;>intro ht)))
    (refine yco (ycp Tryz.func16 rfl (by kernel_rfl) rfl) (RD) rfl rfl rfl ?_ ?_ ?_; (· (exact to_)); (· intro _ _ hle; (exact to_)); intro x px hle)
    obtain ⟨h8, v8, Y⟩ := x
    obtain ⟨hY, eY⟩ := px
    dsimp only at hY eY
    have hle8 : Le h7 h8 := hle
    clear hle
    have fY : Fits Y := fits_eq eY fA
    have b8 := b7.mono hle8
    have hA8 := hA6.mono (hle7.trans hle8)
    have RW := rWrite_sp v1 A h8 hA8 fA hcz.symm zA
    have RG := rDigest_sp v1 A h8 hA8 fA hcz.symm zA
    repeat' (first|(refine ycf ?_;apply ybk;(·first|(first|exact qv_str_bs rfl b8|(apply qv_eql_str (t := true);(·rfl);(·rfl);(·simp))|exact tk_));(·rfl);(·rfl))|refine t1_ ?_|(refine ta_ ?_;intro _)|((fail_if_success (refine ybi rfl ?_));refine ybj rfl ?_ ?_<;>(intro ht;rw [ht];first|replace ht := oet_ ht|replace ht := oef_ ht|skip))|(refine ych ?_;first|(refine ybw rfl ?_ ?_<;>intro ht)|(refine ybx rfl ?_ ?_<;>intro ht)))
    have hsl := shaF_len (encS (A.map Sb.a))
    generalize shaF (encS (A.map Sb.a)) = G at hsl RG ⊢
    refine cx_region_draw' rfl (by kernel_rfl) ?_
    repeat' (refine ycf ?_;(first|(first|(apply ybm;(·(first|(first|exact qv_str_bs rfl b8|exact qv_slice_arrL hsl rfl|exact qv_str_of rfl (yaz (cs := (bcs G).toArray) 2 rfl)|(apply qv_eql_str (t := true);(·rfl);(·rfl);(·simp))|exact tk_)|exact tq_));(·rfl);(·rfl);(·(first|exact fun _ s => Hd.sub s (Le.refl _) (fun r hr => hr)|exact fun _ s => Hd.sub s hle (fun r hr => hr))))|refine ybl rfl rfl ?_|((fail_if_success (refine ybi rfl ?_));refine ybj rfl ?_ ?_<;>(intro ht;rw [ht];first|replace ht := oet_ ht|replace ht := oef_ ht|skip))|(refine tb_ ?_ ?_ ?_;(·(first|exact ybf|(refine .inl ?_;(first|exact fun _ s => Hd.sub s (Le.refl _) (fun r hr => hr)|exact fun _ s => Hd.sub s hle (fun r hr => hr)))|exact to_));(·intro _;(first|exact ybf|(refine .inl ?_;(first|exact fun _ s => Hd.sub s (Le.refl _) (fun r hr => hr)|exact fun _ s => Hd.sub s hle (fun r hr => hr)))|exact to_));intro _)|(first|(refine tqs_ ?_ ?_ ?_;(·(first|exact ybf|(refine .inl ?_;(first|exact fun _ s => Hd.sub s (Le.refl _) (fun r hr => hr)|exact fun _ s => Hd.sub s hle (fun r hr => hr)))|exact to_));(·(first|exact ybf|(refine .inl ?_;(first|exact fun _ s => Hd.sub s (Le.refl _) (fun r hr => hr)|exact fun _ s => Hd.sub s hle (fun r hr => hr)))|exact to_))))|(apply ybn;(·(first|(first|exact qv_str_bs rfl b8|exact qv_slice_arrL hsl rfl|exact qv_str_of rfl (yaz (cs := (bcs G).toArray) 2 rfl)|(apply qv_eql_str (t := true);(·rfl);(·rfl);(·simp))|exact tk_)|exact tq_));(·rfl);(·rfl);(·rfl);(·(first|exact ybf|(refine .inl ?_;(first|exact fun _ s => Hd.sub s (Le.refl _) (fun r hr => hr)|exact fun _ s => Hd.sub s hle (fun r hr => hr)))|exact to_))))|refine ycg ?_))
    (refine ycn (ycp Tryz.func17 rfl (by kernel_rfl) rfl) (RW) rfl rfl rfl ?_ ?_;(·(first|exact ybf|(refine .inl ?_;(first|exact fun _ s => Hd.sub s (Le.refl _) (fun r hr => hr)|exact fun _ s => Hd.sub s hle (fun r hr => hr)))|exact to_)))
    repeat' (refine ycf ?_;(first|(first|(apply ybm;(·(first|(first|exact qv_str_bs rfl b8|exact qv_slice_arrL hsl rfl|exact qv_str_of rfl (yaz (cs := (bcs G).toArray) 2 rfl)|(apply qv_eql_str (t := true);(·rfl);(·rfl);(·simp))|exact tk_)|exact tq_));(·rfl);(·rfl);(·(first|exact fun _ s => Hd.sub s (Le.refl _) (fun r hr => hr)|exact fun _ s => Hd.sub s hle (fun r hr => hr))))|refine ybl rfl rfl ?_|((fail_if_success (refine ybi rfl ?_));refine ybj rfl ?_ ?_<;>(intro ht;rw [ht];first|replace ht := oet_ ht|replace ht := oef_ ht|skip))|(refine tb_ ?_ ?_ ?_;(·(first|exact ybf|(refine .inl ?_;(first|exact fun _ s => Hd.sub s (Le.refl _) (fun r hr => hr)|exact fun _ s => Hd.sub s hle (fun r hr => hr)))|exact to_));(·intro _;(first|exact ybf|(refine .inl ?_;(first|exact fun _ s => Hd.sub s (Le.refl _) (fun r hr => hr)|exact fun _ s => Hd.sub s hle (fun r hr => hr)))|exact to_));intro _)|(first|(refine tqs_ ?_ ?_ ?_;(·(first|exact ybf|(refine .inl ?_;(first|exact fun _ s => Hd.sub s (Le.refl _) (fun r hr => hr)|exact fun _ s => Hd.sub s hle (fun r hr => hr)))|exact to_));(·(first|exact ybf|(refine .inl ?_;(first|exact fun _ s => Hd.sub s (Le.refl _) (fun r hr => hr)|exact fun _ s => Hd.sub s hle (fun r hr => hr)))|exact to_))))|(apply ybn;(·(first|(first|exact qv_str_bs rfl b8|exact qv_slice_arrL hsl rfl|exact qv_str_of rfl (yaz (cs := (bcs G).toArray) 2 rfl)|(apply qv_eql_str (t := true);(·rfl);(·rfl);(·simp))|exact tk_)|exact tq_));(·rfl);(·rfl);(·rfl);(·(first|exact ybf|(refine .inl ?_;(first|exact fun _ s => Hd.sub s (Le.refl _) (fun r hr => hr)|exact fun _ s => Hd.sub s hle (fun r hr => hr)))|exact to_))))|refine ycg ?_))
    (refine ycn (ycp Tryz.func18 rfl (by kernel_rfl) rfl) (RG) rfl rfl rfl ?_ ?_;(·(first|exact ybf|(refine .inl ?_;(first|exact fun _ s => Hd.sub s (Le.refl _) (fun r hr => hr)|exact fun _ s => Hd.sub s hle (fun r hr => hr)))|exact to_)))
    repeat' (refine ycf ?_;(first|(first|(apply ybm;(·(first|(first|exact qv_str_bs rfl b8|exact qv_slice_arrL hsl rfl|exact qv_str_of rfl (yaz (cs := (bcs G).toArray) 2 rfl)|(apply qv_eql_str (t := true);(·rfl);(·rfl);(·simp))|exact tk_)|exact tq_));(·rfl);(·rfl);(·(first|exact fun _ s => Hd.sub s (Le.refl _) (fun r hr => hr)|exact fun _ s => Hd.sub s hle (fun r hr => hr))))|refine ybl rfl rfl ?_|((fail_if_success (refine ybi rfl ?_));refine ybj rfl ?_ ?_<;>(intro ht;rw [ht];first|replace ht := oet_ ht|replace ht := oef_ ht|skip))|(refine tb_ ?_ ?_ ?_;(·(first|exact ybf|(refine .inl ?_;(first|exact fun _ s => Hd.sub s (Le.refl _) (fun r hr => hr)|exact fun _ s => Hd.sub s hle (fun r hr => hr)))|exact to_));(·intro _;(first|exact ybf|(refine .inl ?_;(first|exact fun _ s => Hd.sub s (Le.refl _) (fun r hr => hr)|exact fun _ s => Hd.sub s hle (fun r hr => hr)))|exact to_));intro _)|(first|(refine tqs_ ?_ ?_ ?_;(·(first|exact ybf|(refine .inl ?_;(first|exact fun _ s => Hd.sub s (Le.refl _) (fun r hr => hr)|exact fun _ s => Hd.sub s hle (fun r hr => hr)))|exact to_));(·(first|exact ybf|(refine .inl ?_;(first|exact fun _ s => Hd.sub s (Le.refl _) (fun r hr => hr)|exact fun _ s => Hd.sub s hle (fun r hr => hr)))|exact to_))))|(apply ybn;(·(first|(first|exact qv_str_bs rfl b8|exact qv_slice_arrL hsl rfl|exact qv_str_of rfl (yaz (cs := (bcs G).toArray) 2 rfl)|(apply qv_eql_str (t := true);(·rfl);(·rfl);(·simp))|exact tk_)|exact tq_));(·rfl);(·rfl);(·rfl);(·(first|exact ybf|(refine .inl ?_;(first|exact fun _ s => Hd.sub s (Le.refl _) (fun r hr => hr)|exact fun _ s => Hd.sub s hle (fun r hr => hr)))|exact to_))))|refine ycg ?_))
    (refine yco (ycp Tryz.func15 rfl (by kernel_rfl) rfl) (sfrom_sp v8 Y h8 hY fY) rfl rfl rfl ?_ ?_ ?_;(·(first|exact ybf|(refine .inl ?_;(first|exact fun _ s => Hd.sub s (Le.refl _) (fun r hr => hr)|exact fun _ s => Hd.sub s hle (fun r hr => hr)))|exact to_));(·intro _ _ hle;(first|exact ybf|(refine .inl ?_;(first|exact fun _ s => Hd.sub s (Le.refl _) (fun r hr => hr)|exact fun _ s => Hd.sub s hle (fun r hr => hr)))|exact to_));intro x px hle)
    obtain ⟨h9, v9, Z⟩ := x
    obtain ⟨hZ, eZ⟩ := px
    dsimp only at hZ eZ
    have hle9 : Le h8 h9 := hle
    have fZ := fits_eq eZ fY
    have SZ := same_of hZ (hA8.mono hle9) fZ fA
    rw [decide_eq_true (show Z.map Sb.a = A.map Sb.a by rw [eZ, eY])] at SZ
    repeat' (refine ycf ?_;(first|(first|(apply ybm;(·(first|(first|exact qv_str_bs rfl b8|exact qv_slice_arrL hsl rfl|exact qv_str_of rfl (yaz (cs := (bcs G).toArray) 2 rfl)|(apply qv_eql_str (t := true);(·rfl);(·rfl);(·simp))|exact tk_)|exact tq_));(·rfl);(·rfl);(·(first|exact fun _ s => Hd.sub s (Le.refl _) (fun r hr => hr)|exact fun _ s => Hd.sub s hle (fun r hr => hr))))|refine ybl rfl rfl ?_|((fail_if_success (refine ybi rfl ?_));refine ybj rfl ?_ ?_<;>(intro ht;rw [ht];first|replace ht := oet_ ht|replace ht := oef_ ht|skip))|(refine tb_ ?_ ?_ ?_;(·(first|exact ybf|(refine .inl ?_;(first|exact fun _ s => Hd.sub s (Le.refl _) (fun r hr => hr)|exact fun _ s => Hd.sub s hle (fun r hr => hr)))|exact to_));(·intro _;(first|exact ybf|(refine .inl ?_;(first|exact fun _ s => Hd.sub s (Le.refl _) (fun r hr => hr)|exact fun _ s => Hd.sub s hle (fun r hr => hr)))|exact to_));intro _)|(first|(refine tqs_ ?_ ?_ ?_;(·(first|exact ybf|(refine .inl ?_;(first|exact fun _ s => Hd.sub s (Le.refl _) (fun r hr => hr)|exact fun _ s => Hd.sub s hle (fun r hr => hr)))|exact to_));(·(first|exact ybf|(refine .inl ?_;(first|exact fun _ s => Hd.sub s (Le.refl _) (fun r hr => hr)|exact fun _ s => Hd.sub s hle (fun r hr => hr)))|exact to_))))|(apply ybn;(·(first|(first|exact qv_str_bs rfl b8|exact qv_slice_arrL hsl rfl|exact qv_str_of rfl (yaz (cs := (bcs G).toArray) 2 rfl)|(apply qv_eql_str (t := true);(·rfl);(·rfl);(·simp))|exact tk_)|exact tq_));(·rfl);(·rfl);(·rfl);(·(first|exact ybf|(refine .inl ?_;(first|exact fun _ s => Hd.sub s (Le.refl _) (fun r hr => hr)|exact fun _ s => Hd.sub s hle (fun r hr => hr)))|exact to_))))|refine ycg ?_))
    (refine ycn (ycp Tryz.func14 rfl (by kernel_rfl) rfl) (SZ) rfl rfl rfl ?_ ?_;(·(first|exact ybf|(refine .inl ?_;(first|exact fun _ s => Hd.sub s (Le.refl _) (fun r hr => hr)|exact fun _ s => Hd.sub s hle (fun r hr => hr)))|exact to_)))
    repeat' (refine ycf ?_;(first|(first|(apply ybm;(·(first|(first|exact qv_str_bs rfl b8|exact qv_slice_arrL hsl rfl|exact qv_str_of rfl (yaz (cs := (bcs G).toArray) 2 rfl)|(apply qv_eql_str (t := true);(·rfl);(·rfl);(·simp))|exact tk_)|exact tq_));(·rfl);(·rfl);(·(first|exact fun _ s => Hd.sub s (Le.refl _) (fun r hr => hr)|exact fun _ s => Hd.sub s hle (fun r hr => hr))))|refine ybl rfl rfl ?_|((fail_if_success (refine ybi rfl ?_));refine ybj rfl ?_ ?_<;>(intro ht;rw [ht];first|replace ht := oet_ ht|replace ht := oef_ ht|skip))|(refine tb_ ?_ ?_ ?_;(·(first|exact ybf|(refine .inl ?_;(first|exact fun _ s => Hd.sub s (Le.refl _) (fun r hr => hr)|exact fun _ s => Hd.sub s hle (fun r hr => hr)))|exact to_));(·intro _;(first|exact ybf|(refine .inl ?_;(first|exact fun _ s => Hd.sub s (Le.refl _) (fun r hr => hr)|exact fun _ s => Hd.sub s hle (fun r hr => hr)))|exact to_));intro _)|(first|(refine tqs_ ?_ ?_ ?_;(·(first|exact ybf|(refine .inl ?_;(first|exact fun _ s => Hd.sub s (Le.refl _) (fun r hr => hr)|exact fun _ s => Hd.sub s hle (fun r hr => hr)))|exact to_));(·(first|exact ybf|(refine .inl ?_;(first|exact fun _ s => Hd.sub s (Le.refl _) (fun r hr => hr)|exact fun _ s => Hd.sub s hle (fun r hr => hr)))|exact to_))))|(apply ybn;(·(first|(first|exact qv_str_bs rfl b8|exact qv_slice_arrL hsl rfl|exact qv_str_of rfl (yaz (cs := (bcs G).toArray) 2 rfl)|(apply qv_eql_str (t := true);(·rfl);(·rfl);(·simp))|exact tk_)|exact tq_));(·rfl);(·rfl);(·rfl);(·(first|exact ybf|(refine .inl ?_;(first|exact fun _ s => Hd.sub s (Le.refl _) (fun r hr => hr)|exact fun _ s => Hd.sub s hle (fun r hr => hr)))|exact to_))))|refine ycg ?_))
    repeat' (first|refine tw_ ?_|(refine ta_ ?_;intro _)|((fail_if_success (refine ybi rfl ?_));refine ybj rfl ?_ ?_<;>(intro ht;rw [ht];first|replace ht := oet_ ht|replace ht := oef_ ht|skip))|(refine ych ?_;first|(refine ybw rfl ?_ ?_<;>intro ht)|(refine ybx rfl ?_ ?_<;>intro ht)))
    exact nx_ret1 rfl (rv_tmp rfl) (fun w' s' => ⟨h9, rfl, s'.nil⟩)
  · obtain ⟨g1, g2⟩ := hz1 hc
    subst g1
    subst g2
    have hEq : ∀ w, (Op.equal 31 (.agg (bcs (List.replicate 32 0)).toArray) (.agg (bcs (List.replicate 32 0)).toArray)).run Tryz.prog w = .ok true w := fun w => by
      have := run_equal_arr (P := Tryz.prog) (T := 31) (k := .u8) (List.replicate 32 (0 : Int)) (List.replicate 32 0) rfl rfl w
      rw [decide_eq_true rfl] at this
      exact this
    repeat' (first|(refine ycf ?_;apply ybk;(·first|(first|exact tk_|(apply qv_build_arr (cs := bcs (List.replicate 32 0));(·rfl);(·rfl))|(apply yad;(·rfl);(·exact yaz 2 rfl);(·exact b_sz hDl))|(apply qv_eql_agg (t := true);(·rfl);(·rfl);(·exact hEq))));(·rfl);(·rfl))|refine t1_ ?_|(refine ta_ ?_;intro _)|((fail_if_success (refine ybi rfl ?_));refine ybj rfl ?_ ?_<;>(intro ht;rw [ht];first|replace ht := oet_ ht|replace ht := oef_ ht|skip))|(refine ych ?_;first|(refine ybw rfl ?_ ?_<;>intro ht)|(refine ybx rfl ?_ ?_<;>intro ht)))
    exact nx_ret1 rfl (rv_tmp rfl) (fun w' s' => ⟨h7, rfl, s'.nil⟩)
end Go.Proofs.YtkkjppeaaicgaaaGreatDoor
end

section
namespace Go.Ck
open Go Go.ChangeShapes
set_option linter.unusedVariables false
section
variable {H : Type} {enc : TypeId × Value → H} {P : Program} {w : World} {base : Nat} {spare : Nat → Bool} {held : Bool}
theorem trod_fields {t : TypeId} {fs : Array Field} {fuel : Nat} {cs : List Value} {x : DataW H × List MemPlace} (ht : P.underlying t = some (.struct fs)) (h : DataW.trod enc P w base spare held fuel t cs = some x) :
    cs.length = P.cellsOf t ∧ ∀ f ∈ fs.toList, ∃ m y, DataW.trod enc P w base spare held m f.type ((cs.drop f.offset).take (P.cellsOf f.type)) = some y := by
  cases fuel with
  | zero => simp [DataW.trod] at h
  | succ n =>
    unfold DataW.trod at h
    simp only [ht] at h
    split at h
    · rename_i hl
      obtain ⟨xs, hxs, _⟩ := Option.map_eq_some_iff.1 h
      refine ⟨hl, fun f hf => ?_⟩
      obtain ⟨i, hi, rfl⟩ := List.getElem_of_mem hf
      have := mapM_some_get hxs i _ (List.getElem?_eq_getElem hi)
      have hlen := mapM_some_length hxs
      rw [List.getElem?_eq_getElem (by omega)] at this
      exact ⟨n, _, this⟩
    · cases h
theorem trod_elems {t e : TypeId} {k fuel : Nat} {cs : List Value} {x : DataW H × List MemPlace} (ht : P.underlying t = some (.array k e)) (h : DataW.trod enc P w base spare held fuel t cs = some x) :
    cs.length = P.cellsOf t ∧ ∀ i, i < k → ∃ m y, DataW.trod enc P w base spare held m e ((cs.drop (i * P.cellsOf e)).take (P.cellsOf e)) = some y := by
  cases fuel with
  | zero => simp [DataW.trod] at h
  | succ n =>
    unfold DataW.trod at h
    simp only [ht] at h
    split at h
    · rename_i hl
      obtain ⟨xs, hxs, _⟩ := Option.map_eq_some_iff.1 h
      refine ⟨hl, fun i hi => ?_⟩
      have := mapM_some_get hxs i i (by simp [hi])
      have hlen := mapM_some_length hxs
      rw [List.getElem?_eq_getElem (by simp at hlen; omega)] at this
      exact ⟨n, _, this⟩
    · cases h
end
end Go.Ck
end

section
namespace Go.Ck
open Go Go.ChangeShapes
set_option linter.unusedVariables false
set_option maxHeartbeats 1000000
section
variable {H : Type} {enc : TypeId × Value → H} {P : Program} {w : World} {base : Nat} {spare : Nat → Bool} {held : Bool}
theorem cells_get' {a : Addr} {n : Nat} {cs : List Value} (h : w.cells? base a n = some cs) {j : Nat} {u : Value} (hj : cs[j]? = some u) : w.cell? (a.add j) = some u := by
  unfold World.cells? at h
  split at h
  · have hl := mapM_some_length h
    have hjl : j < cs.length := (List.getElem?_eq_some_iff.1 hj).1
    have := mapM_some_get h j j (by rw [List.length_range] at hl; exact List.getElem?_range (by omega))
    rw [this, hj]
  · cases h
theorem trod_slice_of {T e k : Nat} {α : Type} {en : α → List Value} {R : α → Prop} (tu : P.underlying T = some (.slice e)) (hc : P.cellsOf e = k) (hk0 : 0 < k) (hlen : ∀ x, (en x).length = k)
    (hel : ∀ (m : Nat) (cs : List Value) (y : DataW H × List MemPlace), DataW.trod enc P w base spare held m e cs = some y → ∃ x : α, R x ∧ cs = en x)
    {m : Nat} {cs : List Value} {y : DataW H × List MemPlace} (h : DataW.trod enc P w base spare held m T cs = some y) :
    ∃ (v : Value) (l : List α), cs = [v] ∧ Sc (fun b => w.heap[b]?) k v l.length (l.flatMap en) ∧ l.length ≤ maxLen ∧ ∀ x ∈ l, R x := by
  subst hc
  rcases Go.Deep.open_slice tu h with ⟨rfl, _⟩ | ⟨a, len, cap, q, n, D, Pl, rfl, _, h1, h2, hk, _, hall⟩
  · exact ⟨_, [], rfl, Sc.nil _ _ none 0, Nat.zero_le _, fun x hx => by cases hx⟩
  · have hkl : len ≤ q := by rw [hk]; split <;> omega
    have hex : ∀ i, i < len → ∃ d : α, R d ∧ w.cells? base (a.add (i * P.cellsOf e)) (P.cellsOf e) = some (en d) := fun i hi => by
      obtain ⟨cs', e1, e2⟩ := hall i (by omega)
      obtain ⟨d, hr, rfl⟩ := hel _ _ _ e2
      exact ⟨d, hr, e1⟩
    generalize P.cellsOf e = k at hex hk0 hlen ⊢
    by_cases h0 : len = 0
    · subst h0
      exact ⟨_, [], rfl, ⟨by simp, some a, cap, rfl, Nat.zero_le _, .inl rfl⟩, Nat.zero_le _, fun x hx => by cases hx⟩
    obtain ⟨d0, _⟩ := hex 0 (by omega)
    obtain ⟨f, hf'⟩ : ∃ f : Nat → α, ∀ i, i < len → R (f i) ∧ w.cells? base (a.add (i * k)) k = some (en (f i)) := by
      classical
      exact ⟨fun i => if hi : i < len then (hex i hi).choose else d0, fun i hi => by
        dsimp only
        rw [dif_pos hi]
        exact (hex i hi).choose_spec⟩
    have hf := fun i hi => (hf' i hi).2
    refine ⟨_, (List.range len).map f, rfl, ⟨?_, some a, cap, by simp, by simpa using h1, ?_⟩, by simp; omega, fun x hx => ?_⟩
    · rw [flat_len hlen]
    · refine .inr ?_
      have hc00 : 0 < (en (f 0)).length := by rw [hlen]; exact hk0
      have hc0 := cells_get' (hf 0 (by omega)) (j := 0) (List.getElem?_eq_getElem hc00)
      obtain ⟨b, o, sp⟩ := a
      have hadd : ∀ i j, ((⟨b, o, sp⟩ : Addr).add i).add j = (⟨b, o, sp⟩ : Addr).add (i + j) := fun i j => Go.Deep.add_add _ i j
      rw [hadd] at hc0
      have hblk : ((⟨b, o, sp⟩ : Addr).add (0 * k + 0)) = ⟨b, o, sp⟩ := by simp [Addr.add]
      rw [hblk] at hc0
      unfold World.cell? at hc0
      split at hc0
      · rename_i c e fz hb
        split at hc0
        · cases hc0
        · rename_i hsp
          have hsp' : sp = none := by simpa using hsp
          subst hsp'
          refine ⟨b, o, c, e, fz, rfl, hb, fun j u hj => ?_⟩
          have hjl : j < len * k := by
            have := (List.getElem?_eq_some_iff.1 hj).1
            rw [flat_len hlen] at this
            simpa using this
          have hjk : j / k < len := Nat.div_lt_of_lt_mul (by rw [Nat.mul_comm]; exact hjl)
          have hd : j / k < ((List.range len).map f).length := by simpa using hjk
          have e1 : (((List.range len).map f).flatMap en)[j]? = (en (f (j / k)))[j % k]? := by
            have := flat_at hlen ((List.range len).map f) (j / k) hd
            have e3 : ((List.range len).map f)[j / k] = f (j / k) := by simp
            rw [e3] at this
            rw [← this, List.getElem?_take_of_lt (Nat.mod_lt _ hk0), List.getElem?_drop]
            congr 1
            rw [Nat.mul_comm]
            exact (Nat.div_add_mod j k).symm
          rw [e1] at hj
          have := cells_get' (hf (j / k) hjk) hj
          rw [hadd, Addr.add_off] at this
          unfold World.cell? at this
          simp only [hb] at this
          simp only [Option.isSome_none, Bool.false_eq_true, if_false] at this
          have ej : j / k * k + j % k = j := by rw [Nat.mul_comm]; exact Nat.div_add_mod j k
          rw [ej] at this
          exact this
      · cases hc0
    · obtain ⟨i, hi, rfl⟩ := List.mem_map.1 hx
      exact (hf' i (by simpa using hi)).1
end
end Go.Ck
end

section
namespace Go.Proofs.YtkkjppeaaicgaaaGreatDoor
open Go Go.Ck Go.ChangeShapes
set_option maxRecDepth 100000
set_option maxHeartbeats 1000000
set_option linter.unusedVariables false
theorem cellsDot : Tryz.prog.cellsOf 53 = 2 := by kernel_rfl
theorem cellsInt : Tryz.prog.cellsOf 3 = 1 := by kernel_rfl
theorem cellsArr : Tryz.prog.cellsOf 34 = 16 := by kernel_rfl
theorem cellsSl : Tryz.prog.cellsOf 35 = 1 := by kernel_rfl
theorem cellsCx : Tryz.prog.cellsOf 40 = 17 := by kernel_rfl
section
variable {H : Type} {enc : TypeId × Value → H} {w : World} {base : Nat} {spare : Nat → Bool} {held : Bool}
theorem trod_dot {m : Nat} {cs : List Value} {y : DataW H × List MemPlace} (h : DataW.trod enc Tryz.prog w base spare held m 53 cs = some y) : ∃ d : Dt, cs = dcs d := by
  obtain ⟨hl, hf⟩ := trod_fields Tryz.underlying53 h
  rw [cellsDot] at hl
  match cs, hl with
  | [a, b], _ =>
    obtain ⟨m1, y1, h1⟩ := hf _ (List.mem_cons_self ..)
    obtain ⟨m2, y2, h2⟩ := hf _ (List.mem_cons_of_mem _ (List.mem_cons_self ..))
    rw [cellsInt] at h1 h2
    obtain ⟨n1, e1, _⟩ := DataW.trod_int Tryz.underlying3 h1
    obtain ⟨n2, e2, _⟩ := DataW.trod_int Tryz.underlying3 h2
    simp at e1 e2
    exact ⟨(n1, n2), by rw [e1, e2]; rfl⟩
theorem trod_up {m : Nat} {cs : List Value} {y : DataW H × List MemPlace} (h : DataW.trod enc Tryz.prog w base spare held m 34 cs = some y) : ∃ u : List Int, u.length = 16 ∧ cs = up u := by
  obtain ⟨hl, hf⟩ := trod_elems Tryz.underlying34 h
  rw [cellsArr] at hl
  have hc : ∀ i (hi : i < cs.length), ∃ n, cs[i] = .int .i64 n := fun i hi => by
    obtain ⟨m1, y1, h1⟩ := hf i (by omega)
    rw [cellsInt, Nat.mul_one] at h1
    obtain ⟨n1, e1, _⟩ := DataW.trod_int Tryz.underlying3 h1
    have e2 : (List.drop i cs).take 1 = [cs[i]] := by
      rw [List.drop_eq_getElem_cons hi]; rfl
    rw [e2] at e1
    exact ⟨n1, by simpa using e1⟩
  clear hf h
  have key : ∀ cs : List Value, (∀ i (hi : i < cs.length), ∃ n, cs[i] = .int .i64 n) → ∃ u : List Int, u.length = cs.length ∧ cs = up u := by
    intro cs
    induction cs with
    | nil => intro _; exact ⟨[], rfl, rfl⟩
    | cons c cs ih =>
      intro hc
      obtain ⟨n, hn⟩ := hc 0 (by simp)
      obtain ⟨u, h1, h2⟩ := ih fun i hi => by
        have := hc (i + 1) (by simpa using hi)
        simpa using this
      simp only [List.getElem_cons_zero] at hn
      exact ⟨n :: u, by simp [h1], by rw [hn, h2]; rfl⟩
  obtain ⟨u, h1, h2⟩ := key cs hc
  exact ⟨u, by omega, h2⟩
theorem cells_get {a : Addr} {n : Nat} {cs : List Value} (h : w.cells? base a n = some cs) {j : Nat} {u : Value} (hj : cs[j]? = some u) : w.cell? (a.add j) = some u := by
  unfold World.cells? at h
  split at h
  · have hl := mapM_some_length h
    have hjl : j < cs.length := (List.getElem?_eq_some_iff.1 hj).1
    have := mapM_some_get h j j (by rw [List.length_range] at hl; exact List.getElem?_range (by omega))
    rw [this, hj]
  · cases h
theorem trod_ds {m : Nat} {cs : List Value} {y : DataW H × List MemPlace} (h : DataW.trod enc Tryz.prog w base spare held m 35 cs = some y) : ∃ (v : Value) (l : List Dt), cs = [v] ∧ Ds (fun b => w.heap[b]?) v l ∧ l.length ≤ maxLen := by
  rcases Go.Deep.open_slice Tryz.underlying35 h with ⟨rfl, _⟩ | ⟨a, len, cap, k, n, D, Pl, rfl, _, h1, h2, hk, _, hall⟩
  · exact ⟨_, [], rfl, Sc.nil _ 2 none 0, Nat.zero_le _⟩
  · have hkl : len ≤ k := by rw [hk]; split <;> omega
    have hex : ∀ i, i < len → ∃ d : Dt, w.cells? base (a.add (i * 2)) 2 = some (dcs d) := fun i hi => by
      obtain ⟨cs', e1, e2⟩ := hall i (by omega)
      rw [cellsDot] at e1
      obtain ⟨d, rfl⟩ := trod_dot e2
      exact ⟨d, e1⟩
    obtain ⟨f, hf⟩ := Go.Deep.choose_lt hex
    refine ⟨_, (List.range len).map f, rfl, ⟨?_, some a, cap, by simp, by simpa using h1, ?_⟩, by simp; omega⟩
    · rw [flat_len dcs_len]
    · by_cases h0 : len = 0
      · subst h0; exact .inl rfl
      · refine .inr ?_
        have hc0 := cells_get (hf 0 (by omega)) (j := 0) (u := .int .i64 (f 0).1) rfl
        obtain ⟨b, o, sp⟩ := a
        have hadd : ∀ i j, ((⟨b, o, sp⟩ : Addr).add i).add j = (⟨b, o, sp⟩ : Addr).add (i + j) := fun i j => Go.Deep.add_add _ i j
        rw [hadd] at hc0
        have hblk : ((⟨b, o, sp⟩ : Addr).add (0 * 2 + 0)) = ⟨b, o, sp⟩ := by simp [Addr.add]
        rw [hblk] at hc0
        unfold World.cell? at hc0
        split at hc0
        · rename_i c e fz hb
          split at hc0
          · cases hc0
          · rename_i hsp
            have hsp' : sp = none := by simpa using hsp
            subst hsp'
            refine ⟨b, o, c, e, fz, rfl, hb, fun j u hj => ?_⟩
            have hjl : j < len * 2 := by
              have := (List.getElem?_eq_some_iff.1 hj).1
              rw [flat_len dcs_len] at this
              simpa using this
            have hd : j / 2 < ((List.range len).map f).length := by simp; omega
            have e1 : (((List.range len).map f).flatMap dcs)[j]? = (dcs (f (j / 2)))[j % 2]? := by
              have := flat_at dcs_len ((List.range len).map f) (j / 2) hd
              have e3 : ((List.range len).map f)[j / 2] = f (j / 2) := by simp
              rw [e3] at this
              rw [← this, List.getElem?_take_of_lt (by omega), List.getElem?_drop]
              congr 1; omega
            rw [e1] at hj
            have := cells_get (hf (j / 2) (by omega)) hj
            rw [hadd, Addr.add_off] at this
            unfold World.cell? at this
            simp only [hb] at this
            simp only [Option.isSome_none, Bool.false_eq_true, if_false] at this
            have ej : j / 2 * 2 + j % 2 = j := by omega
            rw [ej] at this
            exact this
        · cases hc0
end
end Go.Proofs.YtkkjppeaaicgaaaGreatDoor
end

section
namespace Go.Proofs.YtkkjppeaaicgaaaGreatDoor
open Go Go.Ck Go.ChangeShapes
set_option maxRecDepth 100000
set_option maxHeartbeats 1000000
set_option linter.unusedVariables false
theorem cellsStr : Tryz.prog.cellsOf 9 = 1 := by kernel_rfl
theorem cellsRs : Tryz.prog.cellsOf 55 = 20 := by kernel_rfl
section
variable {H : Type} {enc : TypeId × Value → H} {w : World} {base : Nat} {spare : Nat → Bool} {held : Bool}
theorem trod_cxc {m : Nat} {cs : List Value} {y : DataW H × List MemPlace} (h : DataW.trod enc Tryz.prog w base spare held m 40 cs = some y) : ∃ (u : List Int) (l : List Dt) (mv : Value), u.length = 16 ∧ cs = cxc u mv ∧ Ds (fun b => w.heap[b]?) mv l ∧ l.length ≤ maxLen := by
  obtain ⟨hl, hf⟩ := trod_fields Tryz.underlying40 h
  rw [cellsCx] at hl
  obtain ⟨m1, y1, h1⟩ := hf _ (List.mem_cons_self ..)
  obtain ⟨m2, y2, h2⟩ := hf _ (List.mem_cons_of_mem _ (List.mem_cons_self ..))
  rw [cellsArr] at h1
  rw [cellsSl] at h2
  obtain ⟨u, hu, e1⟩ := trod_up h1
  obtain ⟨mv, l, e2, hs, hlm⟩ := trod_ds h2
  refine ⟨u, l, mv, hu, ?_, hs, hlm⟩
  have e3 : cs = (cs.drop 0).take 16 ++ (cs.drop 16).take 1 := by
    rw [List.drop_zero]
    have e4 : (cs.drop 16).take 1 = cs.drop 16 := List.take_of_length_le (by simp; omega)
    rw [e4, List.take_append_drop]
  rw [e3, e1, e2]
  rfl
theorem bytes_of_string (s : ByteArray) : ∃ b : List Int, Bytes b ∧ bstr b = s ∧ b.length = s.size := by
  refine ⟨s.data.toList.map fun x => (x.toNat : Int), fun b hb => ?_, ?_, by simp⟩
  · obtain ⟨x, _, rfl⟩ := List.mem_map.1 hb
    have := x.toNat_lt
    constructor <;> omega
  · unfold bstr
    rw [List.map_map]
    have : ((fun n : Int => UInt8.ofNat n.toNat) ∘ fun x : UInt8 => (x.toNat : Int)) = id := by
      funext x
      simp
    rw [this, List.map_id]
theorem trod_rs1 {m : Nat} {cs : List Value} {y : DataW H × List MemPlace} (h : DataW.trod enc Tryz.prog w base spare held m 55 cs = some y) : ∃ x : Sb, (Rv (fun b => w.heap[b]?) x ∧ x.l.length ≤ maxLen ∧ x.b.length ≤ maxLen) ∧ cs = sbc x := by
  obtain ⟨hl, hf⟩ := trod_fields Tryz.underlying55 h
  rw [cellsRs] at hl
  obtain ⟨m1, y1, h1⟩ := hf _ (List.mem_cons_self ..)
  obtain ⟨m2, y2, h2⟩ := hf _ (List.mem_cons_of_mem _ (List.mem_cons_self ..))
  obtain ⟨m3, y3, h3⟩ := hf _ (List.mem_cons_of_mem _ (List.mem_cons_of_mem _ (List.mem_cons_self ..)))
  rw [cellsDot] at h1
  rw [cellsCx] at h2
  rw [cellsStr] at h3
  obtain ⟨d, e1⟩ := trod_dot h1
  obtain ⟨u, l, mv, hu, e2, hds, hll⟩ := trod_cxc h2
  obtain ⟨s, e3, _, hs⟩ := DataW.trod_string Tryz.underlying9 h3
  obtain ⟨b, hb, hbs, hbl⟩ := bytes_of_string s
  refine ⟨⟨d, u, hu, l, mv, b, .string s⟩, ⟨⟨hds, by rw [hbs], hb⟩, hll, by show b.length ≤ maxLen; rw [hbl]; exact hs⟩, ?_⟩
  have q : cs = (cs.drop 0).take 2 ++ ((cs.drop 2).take 17 ++ (cs.drop 19).take 1) := by
    rw [List.drop_zero]
    have e4 : (cs.drop 19).take 1 = cs.drop 19 := List.take_of_length_le (by simp; omega)
    have e5 : (cs.drop 2).take 17 ++ cs.drop 19 = cs.drop 2 := by
      have : cs.drop 19 = (cs.drop 2).drop 17 := by rw [List.drop_drop]
      rw [this, List.take_append_drop]
    rw [e4, e5, List.take_append_drop]
  rw [q]
  show _ = dcs d ++ (cxc u mv ++ [.string s])
  rw [← e3, ← e2, ← e1]
theorem trod_rs {m : Nat} {cs : List Value} {y : DataW H × List MemPlace} (h : DataW.trod enc Tryz.prog w base spare held m 22 cs = some y) :
    ∃ (v : Value) (l : List Sb), cs = [v] ∧ Rs (fun b => w.heap[b]?) v l ∧ l.length ≤ maxLen ∧ ∀ x ∈ l, x.l.length ≤ maxLen ∧ x.b.length ≤ maxLen := by
  obtain ⟨v, l, h1, h2, h3, h4⟩ := trod_slice_of (en := sbc) (R := fun x => Rv (fun b => w.heap[b]?) x ∧ x.l.length ≤ maxLen ∧ x.b.length ≤ maxLen) Tryz.underlying22 cellsRs (by decide) sbc_len (fun m cs y hy => trod_rs1 hy) h
  exact ⟨v, l, h1, ⟨h2, fun x hx => (h4 x hx).1⟩, h3, fun x hx => (h4 x hx).2⟩
end
end Go.Proofs.YtkkjppeaaicgaaaGreatDoor
end

section
namespace Go.Proofs.YtkkjppeaaicgaaaGreatDoor.siblingChecks
open Go Go.Ck Go.ChangeShapes Go.WideShapes Go.ChangeAt Go.RowKit
set_option maxRecDepth 100000
set_option maxHeartbeats 1000000
set_option linter.unusedVariables false
theorem laidOut : laidOutB Tryz.prog = true := by kernel_rfl
theorem own : ownKnob Tryz.prog.godebug = none := by kernel_rfl
theorem laid_eq : Rows.siblingChecksRow.laid = [("casket/sha2.keys", .agg ((shK.map fun a => (a.toNat : Int)).map fun x => .lit (.int .u32 x))), ("casket/sha2.start", .agg ((shH.map fun a => (a.toNat : Int)).map fun x => .lit (.int .u32 x)))] := by kernel_rfl
theorem upK : (shK.map fun a => (a.toNat : Int)).map (Value.int .u32) = up32 shK := by kernel_rfl
theorem upH : (shH.map fun a => (a.toNat : Int)).map (Value.int .u32) = up32 shH := by kernel_rfl
theorem of_laid {W : World} (h : laidMetH Tryz.prog Rows.siblingChecksRow.laid W) : ShG (fun b => W.heap[b]?) := by
  rw [MakeChecks.laidMetH_plain _ _ _ (by kernel_rfl)] at h
  obtain ⟨ps, h, _⟩ := h
  rw [laid_eq] at h
  obtain ⟨h1, qs, h⟩ := laid_ints (g := 1) (t := 116) (e := 101) (by kernel_rfl) (by kernel_rfl) Tryz.underlying116 Tryz.underlying101 (by kernel_rfl) (by kernel_rfl) h
  obtain ⟨h2, _⟩ := laid_ints (g := 0) (t := 102) (e := 101) (by kernel_rfl) (by kernel_rfl) Tryz.underlying102 Tryz.underlying101 (by kernel_rfl) (by kernel_rfl) h
  rw [upK] at h1
  rw [upH] at h2
  exact ⟨h1, h2⟩
theorem door_met (os : Os) (args : Array Value) : laidMetH Tryz.prog Rows.siblingChecksRow.laid ((World.doorLaid Tryz.prog 400 os).forCall (fun _ _ => 0) ⟨#[], args, []⟩).memory :=
  laidMetH_of_parts3 (fuel := 8) (laidMet_of_run' 8 (by kernel_rfl) (by kernel_rfl)) (by kernel_rfl) (by kernel_rfl)
theorem contract (H : Type) (enc : TypeId × Value → H) (W : World) (base : Nat) (args : Array Value) (ds gs : List (DataW H)) (before : List MemPlace)
    (hval : ∀ (j : Nat) t v, Tryz.f3.params[j]? = some t → args[j]? = some v → Value.okWide Tryz.prog W .any base t v)
    (hW : DataW.Whole enc Tryz.prog Tryz.f3.params.toList Rows.siblingChecksSpec.vars false W args.toList ds gs before) (hL : laidMetH Tryz.prog Rows.siblingChecksRow.laid W) :
    Calls Tryz.prog 3 args W fun e W' => ∃ v, e = .returned v ∧ Rows.siblingChecksSpec.post enc Tryz.prog Tryz.f3 false true false false W args v W' := by
  have hW' := hW
  obtain ⟨p, q, hA0, hV, rfl, hfz, hnd⟩ := hW
  have hA : DataW.TrodAll enc Tryz.prog W 0 (fun _ => true) true Tryz.f3.params.toList args.toList ds p := hA0
  rw [Tryz.params3] at hA hval
  obtain ⟨v0, vs0, d0, ds0, p0, q0, hargs0, rfl, rfl, h0, r0⟩ := trodAll_cons hA
  obtain ⟨rfl, rfl, rfl⟩ := trodAll_nil r0
  obtain rfl : args = #[v0] := by cases args; simp_all
  obtain ⟨rfl, rfl⟩ := trodVars_none hV
  obtain ⟨a0, len0, cap0, rfl⟩ := okWide_slice Tryz.underlying22 (hval 0 22 v0 rfl rfl)
  obtain ⟨fu0, g0⟩ := id h0
  obtain ⟨sv0, l0, hsv0, hd0, hl0, hll0⟩ := trod_rs g0
  obtain rfl : Value.slice a0 len0 cap0 = sv0 := by
    have e : (Value.slice a0 len0 cap0).cells.toList = [Value.slice a0 len0 cap0] := rfl
    rw [e] at hsv0
    exact (List.cons.inj hsv0).1
  have hl0 : l0.length ≤ 9223372036854775807 := by unfold maxLen at hl0; omega
  have hll0 : ∀ x ∈ l0, x.l.length ≤ 9223372036854775807 ∧ x.b.length ≤ 9223372036854775807 := fun x hx => by have := hll0 x hx; unfold maxLen at this; omega
  have hst : St ⟨W, fun b => W.heap[b]?, []⟩ (fun b => W.heap[b]?) [] W := St.start (L := []) ⟨fun b o hb => hb, fun r hr => (by cases hr)⟩ (by simp [doms]) (fun b hb => (by simp [doms] at hb))
  refine (SiblingChecks_sp _ l0 _ hd0 hl0 hll0 (of_laid hL) W hst).mono fun e W' ⟨h', he, s'⟩ => ?_
  subst he
  have hb : Below W.heap.size W W' := ⟨s'.os, s'.tape, s'.output, s'.size, fun k hk => s'.keep k hk (by simp)⟩
  simp only [List.append_nil] at hW'
  have hlt0 : ∀ x ∈ p0, x.block < W.heap.size := fun x hx => by simpa using hW'.lt x (by simp [hx])
  exact ⟨_, rfl, _, _, _, [], p0, [], hW', trodAll_cons_mk (shut_bool Tryz.underlying4 _) trodAll_mk0,
    by
      have h := (trodAll_cons_mk (Below.trod laidOut (by kernel_rfl) (oet_ (by kernel_rfl)) h0 hb hlt0) trodAll_mk0)
      simp only [List.append_nil] at h
      exact h,
    rfl, hb.frame _, fun h => by cases h⟩
set_option maxRecDepth 100000 in
theorem lifted (os : Os) (started : os.Started) (H : Type) (enc : TypeId × Value → H) :
    ReturnsInHanded {} Tryz.checked os 3 .any (fun w args => (Rows.siblingChecksSpec.pre enc Tryz.prog Tryz.f3 Rows.siblingChecksRow.domain false w args ∧ laidMetH Tryz.prog Rows.siblingChecksRow.laid w) ∧ sizedMet enc Tryz.prog Tryz.f3 (OpenSpec.ofChange Rows.siblingChecksSpec) false w args) (Rows.siblingChecksSpec.post enc Tryz.prog Tryz.f3 false true false false) := by
  refine returnsInHanded_of_change_and (C := Tryz.checked) (X := fun w _ => laidMetH Tryz.prog Rows.siblingChecksRow.laid w) (fun _ _ _ hh h => h.of_heap hh) own started (by kernel_rfl) Tryz.func3
    (ChangeSpec.witness_shaped (enc := enc) (C := Tryz.checked) (os := os) (X := fun w _ => laidMetH Tryz.prog Rows.siblingChecksRow.laid w) false (World.doorLaid Tryz.prog 400 os) #[.slice none 0 0] 8 rfl (World.shaped_of_RefB (by kernel_rfl) (by kernel_rfl)) (by kernel_rfl) (by kernel_rfl) (by kernel_rfl) (door_met os _)) ?_
  intro W base args ds gs before hval hW _ _ hL _
  exact contract H enc W base args ds gs before hval hW hL
theorem over : Rows.SiblingChecksSaid :=
  OpenClaim.holds_of_wide 3 Tryz.f3 rfl rfl rfl rfl rfl rfl rfl ⟨rfl, rfl, rfl, rfl, rfl⟩ rfl rfl rfl rfl rfl (by kernel_rfl) Tryz.func3 (by kernel_rfl)
    (oet_ (by kernel_rfl)) (by unfold Func.isWrapper;first|(rw [if_pos (by decide +kernel)];kernel_rfl)|(rw [if_neg (by decide +kernel)];exact ⟨rfl, rfl⟩))
    (fun os started H enc _ => lifted os started H enc)
theorem proved : Rows.SiblingChecksCardSaid :=
  Claim7.holds_tied_plain_at .later [] Rows.siblingChecksCard.laidKinds true Rows.siblingChecksCard.stood.harness false
    over (fun _ h => by cases h) (by kernel_rfl) (fun _ h => by cases h) siblingChecks_row_tie rfl ⟨rfl, rfl⟩ (by kernel_rfl) rfl
    (fun f fn hf hfn => by
      obtain rfl : f = 3 := Option.some.inj ((show Tryz.prog.funcNamed "casket/casketlaw15.SiblingChecks" = some 3 by kernel_rfl).symm.trans hf) |>.symm
      obtain rfl : fn = Tryz.f3 := (Option.some.inj (Tryz.func3.symm.trans hfn)).symm
      exact ⟨by kernel_rfl, fun j t ht => by
        rw [Tryz.params3] at ht
        have hm : t ∈ [22] := by simpa using Array.mem_of_getElem? ht
        have hall : ([22].all fun u => !Tryz.prog.wantsStandIn u) = true := by kernel_rfl
        exact (show Tryz.prog.wantsStandIn t = false by simpa using List.all_eq_true.1 hall t hm)⟩)
    (by kernel_rfl)
end Go.Proofs.YtkkjppeaaicgaaaGreatDoor.siblingChecks
end
