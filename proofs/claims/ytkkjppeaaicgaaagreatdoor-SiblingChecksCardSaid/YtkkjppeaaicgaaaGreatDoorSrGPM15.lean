/-
  Part 15 of a proof: SbR SbS.
  Conditions: each theorem states its own.
-/
import Derived.Test.YtkkjppeaaicgaaaGreatDoorSrGPM14
section
namespace Go.Proofs.YtkkjppeaaicgaaaGreatDoor
open Go Go.Ck
set_option maxRecDepth 100000
set_option maxHeartbeats 4000000
set_option linter.unusedVariables false
theorem tm_ {p : Prop} (h : p := by (first|exact List.mem_of_getElem? (i := 0) rfl | exact List.mem_of_getElem? (i := 1) rfl | exact List.mem_of_getElem? (i := 2) rfl | exact List.mem_of_getElem? (i := 3) rfl)) : p := h
theorem fill3 {d : Dt} {u : List Int} {mv bv : Value} (hu : u.length = 16) (hb : bv.cells = #[bv]) : fillL (fun i : Nat => ([(0, 2), (2, 17), (19, 1)] : List (Nat × Nat))[i]?) ([.int .i64 0, .int .i64 0] ++ (up zeroU ++ [.slice none 0 0, .slice none 0 0])) [(0, .agg (dcs d).toArray), (1, .agg (cxc u mv).toArray), (2, bv)] = some (dcs d ++ (cxc u mv ++ [bv])) := by
  obtain ⟨a0, a1, a2, a3, a4, a5, a6, a7, a8, a9, a10, a11, a12, a13, a14, a15, rfl⟩ := list16 u hu
  unfold fillL fillL fillL fillL
  simp only [hb]
  rfl
theorem sto_sp (v : Value) (l : List Sb) (h : View) (hs : Rs h v l) (fl : Fits l) (w : World) (s : St ⟨w, h, []⟩ h [] w) :
    Calls Tryz.prog 5 [v].toArray w fun e w' => ∃ z : View × Value × List Sb, e = .returned z.2.1 ∧ St ⟨w, h, []⟩ z.1 [] w' ∧ Ss z.1 z.2.1 z.2.2 ∧ z.2.2.map Sb.a = l.map Sb.a := by
  obtain ⟨hs, hsv⟩ := hs
  obtain ⟨_, ad, cap, rfl, hcap, _⟩ := id hs
  have lenl := fl.1
  refine calls_enter Tryz.func5 rfl Tryz.ntmps5 rfl s ?_
  repeat' (first|refine tw_ ?_|(refine ta_ ?_;intro _)|((fail_if_success (refine ybi rfl ?_));refine ybj rfl ?_ ?_<;>(intro ht;rw [ht];first|replace ht := oet_ ht|replace ht := oef_ ht|skip))|(refine ych ?_;first|(refine ybw rfl ?_ ?_<;>intro ht)|(refine ybx rfl ?_ ?_<;>intro ht)))
  refine cx_row 57 20 ?_
  refine cx_loop (X := Nat × View × Value × List Sb) (fun y => [(0, .slice ad l.length cap), (3, y.2.2.1), (4, .int .i64 (y.1 : Nat))]) (fun y => y.2.1) (fun y => [rowX y.2.2.1 y.2.2.2])
    (fun y => y.1 ≤ l.length ∧ Le h y.2.1 ∧ (∀ o ∈ y.2.2.2, Sv y.2.1 o) ∧ y.2.2.2.map Sb.a = (l.take y.1).map Sb.a) (fun y => l.length - y.1) (0, h, .slice none 0 0, []) ⟨Nat.zero_le _, Le.refl _, fun o ho => (by cases ho), rfl⟩ ts_ (fun _ s => s) ?_
  rintro ⟨k, hk, vo, O⟩ ⟨p1, p2, p3, p4⟩
  dsimp only at p1 p2 p3 p4 ⊢
  have hOl : O.length = k := by
    have := congrArg List.length p4
    simp at this
    omega
  by_cases hkl : k < l.length
  · obtain ⟨bs, o, rfl⟩ := hs.ad (by omega) (by omega)
    have hs3 := hs.mono p2
    have hel : ∀ L, Cells hk L ⟨bs, o + k * 20, none⟩ (sbc l[k]) := fun L => hs3.elem sbc_len k hkl
    have hxv : Rv hk l[k] := (hsv _ (List.getElem_mem hkl)).mono p2
    have hlim := fl.2 _ (List.getElem_mem hkl)
    have htk : (l.take (k + 1)).map Sb.a = O.map Sb.a ++ [l[k].a] := by rw [List.take_succ_eq_append_getElem hkl, List.map_append, ← p4]; rfl
    generalize l[k] = e0 at hel hxv hlim htk
    have hxl := sbc_len e0
    have hone := hxv.one
    repeat' (first|(refine ycf ?_;apply ybk;(·first|(first|exact tk_|(apply yad;(·rfl);(·exact hel _);(·exact hxl))));(·rfl);(·rfl))|(refine ybg 0 rfl rfl rfl (sbc_sz e0) (sbc_fit rfl) (sbc_one hone.1 hone.2) (ybh (sbc_all rfl)) rfl rfl ?_ ?_ ?_;(·(exact to_));(·(exact to_)))|refine t1_ ?_|(refine ta_ ?_;intro _)|((fail_if_success (refine ybi rfl ?_));refine ybj rfl ?_ ?_<;>(intro ht;rw [ht];first|replace ht := oet_ ht|replace ht := oef_ ht|skip))|(refine ych ?_;first|(refine ybw rfl ?_ ?_<;>intro ht)|(refine ybx rfl ?_ ?_<;>intro ht)))
    rename_i b8
    obtain ⟨_, adm, capm, hmv, _, _⟩ := id hxv.ds
    refine cx_region_flo [Res.blk b8 (.cells (sbc e0).toArray 55 (0, 0))] [14] [0, 1, 2, 3, 4, 5, 7, 8, 9, 12, 13] [6, 10, 11] 14 [15, 16, 17, 18] rfl (by kernel_rfl) ?_
    repeat' (refine ycf ?_;(first|(first|(apply ybm;(·(first|(first|(apply yad;(·rfl);(·exact sb_dot (yaz 0 rfl));(·rfl))|(apply yad (vs := up e0.u);(·rfl);(·exact cells_up2 (sb_past (yaz 0 rfl)));(·simp [up, e0.hu])))|(apply yae;(·rfl);(·(first|exact sb_more (yaz 0 rfl) hmv|exact sb_body0 (yaz 0 rfl) hxv.bs)))|exact tq_));(·rfl);(·rfl);(·(exact fun _ s => Hd.sub s (Le.refl _) (fun r hr => by rw [List.mem_singleton.1 hr];exact tm_))))|refine ybl rfl rfl ?_|((fail_if_success (refine ybi rfl ?_));refine ybj rfl ?_ ?_<;>(intro ht;rw [ht];first|replace ht := oet_ ht|replace ht := oef_ ht|skip))|(refine tb_ ?_ ?_ ?_;(·(first|exact ybf|(refine .inl ?_;(exact fun _ s => Hd.sub s (Le.refl _) (fun r hr => by rw [List.mem_singleton.1 hr];exact tm_)))|exact to_));(·intro _;(first|exact ybf|(refine .inl ?_;(exact fun _ s => Hd.sub s (Le.refl _) (fun r hr => by rw [List.mem_singleton.1 hr];exact tm_)))|exact to_));intro _)|(first|(refine ybg 0 rfl rfl rfl (sbc_sz e0) (sbc_fit rfl) (sbc_one hone.1 hone.2) (ybh (sbc_all rfl)) rfl rfl ?_ ?_ ?_;(·(first|exact ybf|(refine .inl ?_;(exact fun _ s => Hd.sub s (Le.refl _) (fun r hr => by rw [List.mem_singleton.1 hr];exact tm_)))|exact to_));(·(first|exact ybf|(refine .inl ?_;(exact fun _ s => Hd.sub s (Le.refl _) (fun r hr => by rw [List.mem_singleton.1 hr];exact tm_)))|exact to_)))|(refine tqs_ ?_ ?_ ?_;(·(first|exact ybf|(refine .inl ?_;(exact fun _ s => Hd.sub s (Le.refl _) (fun r hr => by rw [List.mem_singleton.1 hr];exact tm_)))|exact to_));(·(first|exact ybf|(refine .inl ?_;(exact fun _ s => Hd.sub s (Le.refl _) (fun r hr => by rw [List.mem_singleton.1 hr];exact tm_)))|exact to_))))|(apply ybn;(·(first|(first|(apply yad;(·rfl);(·exact sb_dot (yaz 0 rfl));(·rfl))|(apply yad (vs := up e0.u);(·rfl);(·exact cells_up2 (sb_past (yaz 0 rfl)));(·simp [up, e0.hu])))|(apply yae;(·rfl);(·(first|exact sb_more (yaz 0 rfl) hmv|exact sb_body0 (yaz 0 rfl) hxv.bs)))|exact tq_));(·rfl);(·rfl);(·rfl);(·(first|exact ybf|(refine .inl ?_;(exact fun _ s => Hd.sub s (Le.refl _) (fun r hr => by rw [List.mem_singleton.1 hr];exact tm_)))|exact to_))))|refine ycg ?_))
    refine nx_flo 6 [] [10, 11] (by kernel_rfl) ?_ ?_
    · refine yba ma_buildSlice0 rfl rfl rfl ?_ ?_ ?_
      · (first|exact ybf|(refine .inl ?_;(exact fun _ s => Hd.sub s (Le.refl _) (fun r hr => by rw [List.mem_singleton.1 hr];exact tm_)))|exact to_)
      · intro _;(first|exact ybf|(refine .inl ?_;(exact fun _ s => Hd.sub s (Le.refl _) (fun r hr => by rw [List.mem_singleton.1 hr];exact tm_)))|exact to_)
      intro b22
      refine rx_rowOf 2 0 0 (by omega) (by unfold maxLen; omega) rfl ?_
      repeat' (refine ycf ?_;(first|(first|(apply ybm;(·exact tq_);(·rfl);(·rfl);(·(exact fun _ s => Hd.sub s (Le.refl _) (fun r hr => by rw [List.mem_singleton.1 hr];exact tm_))))|refine ybl rfl rfl ?_|((fail_if_success (refine ybi rfl ?_));refine ybj rfl ?_ ?_<;>(intro ht;rw [ht];first|replace ht := oet_ ht|replace ht := oef_ ht|skip))|(refine tb_ ?_ ?_ ?_;(·(first|exact ybf|(refine .inl ?_;(exact fun _ s => Hd.sub s (Le.refl _) (fun r hr => by rw [List.mem_singleton.1 hr];exact tm_)))|exact to_));(·intro _;(first|exact ybf|(refine .inl ?_;(exact fun _ s => Hd.sub s (Le.refl _) (fun r hr => by rw [List.mem_singleton.1 hr];exact tm_)))|exact to_));intro _)|(first|(refine ybg 0 rfl rfl rfl (sbc_sz e0) (sbc_fit rfl) (sbc_one hone.1 hone.2) (ybh (sbc_all rfl)) rfl rfl ?_ ?_ ?_;(·(first|exact ybf|(refine .inl ?_;(exact fun _ s => Hd.sub s (Le.refl _) (fun r hr => by rw [List.mem_singleton.1 hr];exact tm_)))|exact to_));(·(first|exact ybf|(refine .inl ?_;(exact fun _ s => Hd.sub s (Le.refl _) (fun r hr => by rw [List.mem_singleton.1 hr];exact tm_)))|exact to_)))|(refine tqs_ ?_ ?_ ?_;(·(first|exact ybf|(refine .inl ?_;(exact fun _ s => Hd.sub s (Le.refl _) (fun r hr => by rw [List.mem_singleton.1 hr];exact tm_)))|exact to_));(·(first|exact ybf|(refine .inl ?_;(exact fun _ s => Hd.sub s (Le.refl _) (fun r hr => by rw [List.mem_singleton.1 hr];exact tm_)))|exact to_))))|(apply ybn;(·exact tq_);(·rfl);(·rfl);(·rfl);(·(first|exact ybf|(refine .inl ?_;(exact fun _ s => Hd.sub s (Le.refl _) (fun r hr => by rw [List.mem_singleton.1 hr];exact tm_)))|exact to_))))|refine ycg ?_))
      refine nx_flo 10 [] [11] (by kernel_rfl) ?_ ?_
      · refine rx_append_sc (sz := 2) (m := e0.l.length) (news := e0.l.flatMap dcs) 0 rfl rfl rfl (by rw [← hmv]; exact hxv.ds.mono (Le.refl _)) (one_dcs _) rfl (by omega) (by unfold maxLen; omega) (by omega) rfl rfl rfl ?_ ?_ ?_
        · (first|exact ybf|(refine .inl ?_;(exact fun _ s => Hd.sub s (Le.refl _) (fun r hr => by rw [List.mem_singleton.1 hr];exact tm_)))|exact to_)
        · intro v';(first|exact ybf|(refine .inl ?_;(exact fun _ s => Hd.sub s (Le.refl _) (fun r hr => by rw [List.mem_singleton.1 hr];exact tm_)))|exact to_)
        intro v2 _
        refine rx_persist rfl fun h3 hle3 hs4 => ?_
        have hs4' : Ds h3 v2 e0.l := by simpa using hs4
        obtain ⟨_, ad2, cap2, hv2, _, _⟩ := id hs4'
        subst hv2
        have hfu := fill2 (ad := ad2) (m := e0.l.length) (c := cap2) e0.hu
        repeat' (refine ycf ?_;(first|(first|(apply ybm;(·exact tq_);(·rfl);(·rfl);(·(exact fun _ s => Hd.sub s (Le.refl _) (fun r hr => by rw [List.mem_singleton.1 hr];exact tm_))))|refine ybl rfl rfl ?_|((fail_if_success (refine ybi rfl ?_));refine ybj rfl ?_ ?_<;>(intro ht;rw [ht];first|replace ht := oet_ ht|replace ht := oef_ ht|skip))|(refine tb_ ?_ ?_ ?_;(·(first|exact ybf|(refine .inl ?_;(exact fun _ s => Hd.sub s (Le.refl _) (fun r hr => by rw [List.mem_singleton.1 hr];exact tm_)))|exact to_));(·intro _;(first|exact ybf|(refine .inl ?_;(exact fun _ s => Hd.sub s (Le.refl _) (fun r hr => by rw [List.mem_singleton.1 hr];exact tm_)))|exact to_));intro _)|(first|(refine ybg 0 rfl rfl rfl (sbc_sz e0) (sbc_fit rfl) (sbc_one hone.1 hone.2) (ybh (sbc_all rfl)) rfl rfl ?_ ?_ ?_;(·(first|exact ybf|(refine .inl ?_;(exact fun _ s => Hd.sub s (Le.refl _) (fun r hr => by rw [List.mem_singleton.1 hr];exact tm_)))|exact to_));(·(first|exact ybf|(refine .inl ?_;(exact fun _ s => Hd.sub s (Le.refl _) (fun r hr => by rw [List.mem_singleton.1 hr];exact tm_)))|exact to_)))|(refine tqs_ ?_ ?_ ?_;(·(first|exact ybf|(refine .inl ?_;(exact fun _ s => Hd.sub s (Le.refl _) (fun r hr => by rw [List.mem_singleton.1 hr];exact tm_)))|exact to_));(·(first|exact ybf|(refine .inl ?_;(exact fun _ s => Hd.sub s (Le.refl _) (fun r hr => by rw [List.mem_singleton.1 hr];exact tm_)))|exact to_))))|(apply ybn;(·exact tq_);(·rfl);(·rfl);(·rfl);(·(first|exact ybf|(refine .inl ?_;(exact fun _ s => Hd.sub s (Le.refl _) (fun r hr => by rw [List.mem_singleton.1 hr];exact tm_)))|exact to_))))|refine ycg ?_))
        refine nx_flo 11 [] [] (by kernel_rfl) ?_ ?_
        · repeat' (refine ycf ?_;(first|(first|(apply ybm;(·(first|(apply yax (cs := cxc e0.u (.slice ad2 e0.l.length cap2));(·rfl);(·exact hfu))|exact tq_));(·rfl);(·rfl);(·(exact fun _ s => Hd.sub s (hle3) (fun r hr => by rw [List.mem_singleton.1 hr];exact tm_))))|refine ybl rfl rfl ?_|((fail_if_success (refine ybi rfl ?_));refine ybj rfl ?_ ?_<;>(intro ht;rw [ht];first|replace ht := oet_ ht|replace ht := oef_ ht|skip))|(refine tb_ ?_ ?_ ?_;(·(first|exact ybf|(refine .inl ?_;(exact fun _ s => Hd.sub s (hle3) (fun r hr => by rw [List.mem_singleton.1 hr];exact tm_)))|exact to_));(·intro _;(first|exact ybf|(refine .inl ?_;(exact fun _ s => Hd.sub s (hle3) (fun r hr => by rw [List.mem_singleton.1 hr];exact tm_)))|exact to_));intro _)|(first|(refine ybg 0 rfl rfl rfl (sbc_sz e0) (sbc_fit rfl) (sbc_one hone.1 hone.2) (ybh (sbc_all rfl)) rfl rfl ?_ ?_ ?_;(·(first|exact ybf|(refine .inl ?_;(exact fun _ s => Hd.sub s (hle3) (fun r hr => by rw [List.mem_singleton.1 hr];exact tm_)))|exact to_));(·(first|exact ybf|(refine .inl ?_;(exact fun _ s => Hd.sub s (hle3) (fun r hr => by rw [List.mem_singleton.1 hr];exact tm_)))|exact to_)))|(refine tqs_ ?_ ?_ ?_;(·(first|exact ybf|(refine .inl ?_;(exact fun _ s => Hd.sub s (hle3) (fun r hr => by rw [List.mem_singleton.1 hr];exact tm_)))|exact to_));(·(first|exact ybf|(refine .inl ?_;(exact fun _ s => Hd.sub s (hle3) (fun r hr => by rw [List.mem_singleton.1 hr];exact tm_)))|exact to_))))|(apply ybn;(·(first|(apply yax (cs := cxc e0.u (.slice ad2 e0.l.length cap2));(·rfl);(·exact hfu))|exact tq_));(·rfl);(·rfl);(·rfl);(·(first|exact ybf|(refine .inl ?_;(exact fun _ s => Hd.sub s (hle3) (fun r hr => by rw [List.mem_singleton.1 hr];exact tm_)))|exact to_))))|refine ycg ?_))
          refine nx_flo_end ?_
          refine rx_bytes_of rfl rfl hxv.by8 rfl rfl rfl ?_ ?_ ?_
          · (first|exact ybf|(refine .inl ?_;(exact fun _ s => Hd.sub s (hle3) (fun r hr => by rw [List.mem_singleton.1 hr];exact tm_)))|exact to_)
          · intro h' hle'; exact .inl fun _ s => Hd.sub s (hle3.trans hle') (fun r hr => by rw [List.mem_singleton.1 hr]; exact tm_)
          intro h5 v5 hle5 hb5
          obtain ⟨_, ad5, cap5, hv5, _, _⟩ := id hb5
          subst hv5
          obtain ⟨z, hz⟩ : ∃ z : Sb, z = ⟨e0.d, e0.u, e0.hu, e0.l, .slice ad2 e0.l.length cap2, e0.b, .slice ad5 e0.b.length cap5⟩ := ⟨_, rfl⟩
          have hfz : fillL (fun i : Nat => ([(0, 2), (2, 17), (19, 1)] : List (Nat × Nat))[i]?) ([.int .i64 0, .int .i64 0] ++ (up zeroU ++ [.slice none 0 0, .slice none 0 0])) [(0, .agg (dcs e0.d).toArray), (1, .agg (cxc e0.u (.slice ad2 e0.l.length cap2)).toArray), (2, .slice ad5 e0.b.length cap5)] = some (sbc z) := by
            rw [hz]; exact fill3 e0.hu rfl
          have hzv : Sv h5 z := by rw [hz]; exact ⟨hs4'.mono hle5, hb5, hxv.by8⟩
          have hza : z.a = e0.a := by rw [hz]; rfl
          have hzo := hzv.one
          repeat' (refine ycf ?_;(first|(first|(apply ybm;(·(first|(apply yax (cs := sbc z);(·rfl);(·exact hfz))|exact tq_));(·rfl);(·rfl);(·(exact fun _ s => Hd.sub s (hle3.trans hle5) (fun r hr => by rw [List.mem_singleton.1 hr];exact tm_))))|refine ybl rfl rfl ?_|((fail_if_success (refine ybi rfl ?_));refine ybj rfl ?_ ?_<;>(intro ht;rw [ht];first|replace ht := oet_ ht|replace ht := oef_ ht|skip))|(refine tb_ ?_ ?_ ?_;(·(first|exact ybf|(refine .inl ?_;(exact fun _ s => Hd.sub s (hle3.trans hle5) (fun r hr => by rw [List.mem_singleton.1 hr];exact tm_)))|exact to_));(·intro _;(first|exact ybf|(refine .inl ?_;(exact fun _ s => Hd.sub s (hle3.trans hle5) (fun r hr => by rw [List.mem_singleton.1 hr];exact tm_)))|exact to_));intro _)|(first|(refine ybg 0 rfl rfl rfl (sbc_sz e0) (sbc_fit rfl) (sbc_one hone.1 hone.2) (ybh (sbc_all rfl)) rfl rfl ?_ ?_ ?_;(·(first|exact ybf|(refine .inl ?_;(exact fun _ s => Hd.sub s (hle3.trans hle5) (fun r hr => by rw [List.mem_singleton.1 hr];exact tm_)))|exact to_));(·(first|exact ybf|(refine .inl ?_;(exact fun _ s => Hd.sub s (hle3.trans hle5) (fun r hr => by rw [List.mem_singleton.1 hr];exact tm_)))|exact to_)))|(refine tqs_ ?_ ?_ ?_;(·(first|exact ybf|(refine .inl ?_;(exact fun _ s => Hd.sub s (hle3.trans hle5) (fun r hr => by rw [List.mem_singleton.1 hr];exact tm_)))|exact to_));(·(first|exact ybf|(refine .inl ?_;(exact fun _ s => Hd.sub s (hle3.trans hle5) (fun r hr => by rw [List.mem_singleton.1 hr];exact tm_)))|exact to_))))|(apply ybn;(·(first|(apply yax (cs := sbc z);(·rfl);(·exact hfz))|exact tq_));(·rfl);(·rfl);(·rfl);(·(first|exact ybf|(refine .inl ?_;(exact fun _ s => Hd.sub s (hle3.trans hle5) (fun r hr => by rw [List.mem_singleton.1 hr];exact tm_)))|exact to_))))|refine ycg ?_))
          refine yba (ybd rfl rfl rfl (ybe rfl (sbc_sz z))) rfl rfl rfl ?_ ?_ ?_
          · (first|exact ybf|(refine .inl ?_;(exact fun _ s => Hd.sub s (hle3.trans hle5) (fun r hr => by rw [List.mem_singleton.1 hr];exact tm_)))|exact to_)
          · intro _;(first|exact ybf|(refine .inl ?_;(exact fun _ s => Hd.sub s (hle3.trans hle5) (fun r hr => by rw [List.mem_singleton.1 hr];exact tm_)))|exact to_)
          intro b32
          refine rx_append (sz := 20) 2 rfl rfl rfl (yaz 0 rfl) (by show (sbc z).length = 1 * 20; exact sbc_len z) (fun u hu => List.all_eq_true.1 (sbc_one hzo.1 hzo.2) u hu) rfl (by omega) (by unfold maxLen; omega) (by omega) rfl rfl rfl ?_ ?_ ?_
          · (first|exact ybf|(refine .inl ?_;(exact fun _ s => Hd.sub s (hle3.trans hle5) (fun r hr => by rw [List.mem_singleton.1 hr];exact tm_)))|exact to_)
          · intro v';(first|exact ybf|(refine .inl ?_;(exact fun _ s => Hd.sub s (hle3.trans hle5) (fun r hr => by rw [List.mem_singleton.1 hr];exact tm_)))|exact to_)
          intro v9 _
          repeat' (refine ycf ?_;(first|(first|(apply ybm;(·(first|(apply yax (cs := sbc z);(·rfl);(·exact hfz))|exact tq_));(·rfl);(·rfl);(·(exact fun _ s => Hd.sub s (hle3.trans hle5) (fun r hr => by rw [List.mem_singleton.1 hr];exact tm_))))|refine ybl rfl rfl ?_|((fail_if_success (refine ybi rfl ?_));refine ybj rfl ?_ ?_<;>(intro ht;rw [ht];first|replace ht := oet_ ht|replace ht := oef_ ht|skip))|(refine tb_ ?_ ?_ ?_;(·(first|exact ybf|(refine .inl ?_;(exact fun _ s => Hd.sub s (hle3.trans hle5) (fun r hr => by rw [List.mem_singleton.1 hr];exact tm_)))|exact to_));(·intro _;(first|exact ybf|(refine .inl ?_;(exact fun _ s => Hd.sub s (hle3.trans hle5) (fun r hr => by rw [List.mem_singleton.1 hr];exact tm_)))|exact to_));intro _)|(first|(refine ybg 0 rfl rfl rfl (sbc_sz e0) (sbc_fit rfl) (sbc_one hone.1 hone.2) (ybh (sbc_all rfl)) rfl rfl ?_ ?_ ?_;(·(first|exact ybf|(refine .inl ?_;(exact fun _ s => Hd.sub s (hle3.trans hle5) (fun r hr => by rw [List.mem_singleton.1 hr];exact tm_)))|exact to_));(·(first|exact ybf|(refine .inl ?_;(exact fun _ s => Hd.sub s (hle3.trans hle5) (fun r hr => by rw [List.mem_singleton.1 hr];exact tm_)))|exact to_)))|(refine tqs_ ?_ ?_ ?_;(·(first|exact ybf|(refine .inl ?_;(exact fun _ s => Hd.sub s (hle3.trans hle5) (fun r hr => by rw [List.mem_singleton.1 hr];exact tm_)))|exact to_));(·(first|exact ybf|(refine .inl ?_;(exact fun _ s => Hd.sub s (hle3.trans hle5) (fun r hr => by rw [List.mem_singleton.1 hr];exact tm_)))|exact to_))))|(apply ybn;(·(first|(apply yax (cs := sbc z);(·rfl);(·exact hfz))|exact tq_));(·rfl);(·rfl);(·rfl);(·(first|exact ybf|(refine .inl ?_;(exact fun _ s => Hd.sub s (hle3.trans hle5) (fun r hr => by rw [List.mem_singleton.1 hr];exact tm_)))|exact to_))))|refine ycg ?_))
          repeat' (first|(refine ycf ?_;apply ybk;(·first|(exact tk_));(·rfl);(·rfl))|(refine ybg 0 rfl rfl rfl (sbc_sz e0) (sbc_fit rfl) (sbc_one hone.1 hone.2) (ybh (sbc_all rfl)) rfl rfl ?_ ?_ ?_;(·(first|exact ybf|(refine .inl ?_;(exact fun _ s => Hd.sub s (hle3.trans hle5) (fun r hr => by rw [List.mem_singleton.1 hr];exact tm_)))|exact to_));(·(first|exact ybf|(refine .inl ?_;(exact fun _ s => Hd.sub s (hle3.trans hle5) (fun r hr => by rw [List.mem_singleton.1 hr];exact tm_)))|exact to_)))|refine t1_ ?_|(refine ta_ ?_;intro _)|((fail_if_success (refine ybi rfl ?_));refine ybj rfl ?_ ?_<;>(intro ht;rw [ht];first|replace ht := oet_ ht|replace ht := oef_ ht|skip))|(refine ych ?_;first|(refine ybw rfl ?_ ?_<;>intro ht)|(refine ybx rfl ?_ ?_<;>intro ht)))
          refine nx_round (k + 1, h5, v9, O ++ [z]) ⟨by show k + 1 ≤ _; omega, p2.trans (hle3.trans hle5), fun o ho => ?_, ?_⟩ (by show l.length - (k + 1) < l.length - k; omega) ts_ (fun _ s => ?_)
          · rcases List.mem_append.1 ho with ho | ho
            · exact (p3 o ho).mono (hle3.trans hle5)
            · rw [List.mem_singleton.1 ho]; exact hzv
          · dsimp only
            rw [htk, List.map_append]
            simp [hza]
          · have s2 := s.tl.tl
            dsimp only
            show St _ _ [Res.row _ _ v9 (O ++ [z]).length ((O ++ [z]).flatMap sbc)] _
            rw [List.length_append, List.flatMap_append, show [z].flatMap sbc = sbc z by simp]
            exact s2
        · refine rx_bytes_of rfl rfl hxv.by8 rfl rfl rfl ?_ ?_ ?_
          · (first|exact ybf|(refine .inl ?_;(exact fun _ s => Hd.sub s (hle3) (fun r hr => by rw [List.mem_singleton.1 hr];exact tm_)))|exact to_)
          · intro h' hle'; exact .inl fun _ s => Hd.sub s (hle3.trans hle') (fun r hr => by rw [List.mem_singleton.1 hr]; exact tm_)
          intro h5 v5 hle5 hb5
          obtain ⟨_, ad5, cap5, hv5, _, _⟩ := id hb5
          subst hv5
          repeat' (refine ycf ?_;(first|(first|(apply ybm;(·(first|(apply yax (cs := cxc e0.u (.slice ad2 e0.l.length cap2));(·rfl);(·exact hfu))|exact tq_));(·rfl);(·rfl);(·(exact fun _ s => Hd.sub s (hle3.trans hle5) (fun r hr => by rw [List.mem_singleton.1 hr];exact tm_))))|refine ybl rfl rfl ?_|((fail_if_success (refine ybi rfl ?_));refine ybj rfl ?_ ?_<;>(intro ht;rw [ht];first|replace ht := oet_ ht|replace ht := oef_ ht|skip))|(refine tb_ ?_ ?_ ?_;(·(first|exact ybf|(refine .inl ?_;(exact fun _ s => Hd.sub s (hle3.trans hle5) (fun r hr => by rw [List.mem_singleton.1 hr];exact tm_)))|exact to_));(·intro _;(first|exact ybf|(refine .inl ?_;(exact fun _ s => Hd.sub s (hle3.trans hle5) (fun r hr => by rw [List.mem_singleton.1 hr];exact tm_)))|exact to_));intro _)|(first|(refine ybg 0 rfl rfl rfl (sbc_sz e0) (sbc_fit rfl) (sbc_one hone.1 hone.2) (ybh (sbc_all rfl)) rfl rfl ?_ ?_ ?_;(·(first|exact ybf|(refine .inl ?_;(exact fun _ s => Hd.sub s (hle3.trans hle5) (fun r hr => by rw [List.mem_singleton.1 hr];exact tm_)))|exact to_));(·(first|exact ybf|(refine .inl ?_;(exact fun _ s => Hd.sub s (hle3.trans hle5) (fun r hr => by rw [List.mem_singleton.1 hr];exact tm_)))|exact to_)))|(refine tqs_ ?_ ?_ ?_;(·(first|exact ybf|(refine .inl ?_;(exact fun _ s => Hd.sub s (hle3.trans hle5) (fun r hr => by rw [List.mem_singleton.1 hr];exact tm_)))|exact to_));(·(first|exact ybf|(refine .inl ?_;(exact fun _ s => Hd.sub s (hle3.trans hle5) (fun r hr => by rw [List.mem_singleton.1 hr];exact tm_)))|exact to_))))|(apply ybn;(·(first|(apply yax (cs := cxc e0.u (.slice ad2 e0.l.length cap2));(·rfl);(·exact hfu))|exact tq_));(·rfl);(·rfl);(·rfl);(·(first|exact ybf|(refine .inl ?_;(exact fun _ s => Hd.sub s (hle3.trans hle5) (fun r hr => by rw [List.mem_singleton.1 hr];exact tm_)))|exact to_))))|refine ycg ?_))
          obtain ⟨z, hz⟩ : ∃ z : Sb, z = ⟨e0.d, e0.u, e0.hu, e0.l, .slice ad2 e0.l.length cap2, e0.b, .slice ad5 e0.b.length cap5⟩ := ⟨_, rfl⟩
          have hfz : fillL (fun i : Nat => ([(0, 2), (2, 17), (19, 1)] : List (Nat × Nat))[i]?) ([.int .i64 0, .int .i64 0] ++ (up zeroU ++ [.slice none 0 0, .slice none 0 0])) [(0, .agg (dcs e0.d).toArray), (1, .agg (cxc e0.u (.slice ad2 e0.l.length cap2)).toArray), (2, .slice ad5 e0.b.length cap5)] = some (sbc z) := by
            rw [hz]; exact fill3 e0.hu rfl
          have hzv : Sv h5 z := by rw [hz]; exact ⟨hs4'.mono hle5, hb5, hxv.by8⟩
          have hza : z.a = e0.a := by rw [hz]; rfl
          have hzo := hzv.one
          repeat' (refine ycf ?_;(first|(first|(apply ybm;(·(first|(apply yax (cs := sbc z);(·rfl);(·exact hfz))|exact tq_));(·rfl);(·rfl);(·(exact fun _ s => Hd.sub s (hle3.trans hle5) (fun r hr => by rw [List.mem_singleton.1 hr];exact tm_))))|refine ybl rfl rfl ?_|((fail_if_success (refine ybi rfl ?_));refine ybj rfl ?_ ?_<;>(intro ht;rw [ht];first|replace ht := oet_ ht|replace ht := oef_ ht|skip))|(refine tb_ ?_ ?_ ?_;(·(first|exact ybf|(refine .inl ?_;(exact fun _ s => Hd.sub s (hle3.trans hle5) (fun r hr => by rw [List.mem_singleton.1 hr];exact tm_)))|exact to_));(·intro _;(first|exact ybf|(refine .inl ?_;(exact fun _ s => Hd.sub s (hle3.trans hle5) (fun r hr => by rw [List.mem_singleton.1 hr];exact tm_)))|exact to_));intro _)|(first|(refine ybg 0 rfl rfl rfl (sbc_sz e0) (sbc_fit rfl) (sbc_one hone.1 hone.2) (ybh (sbc_all rfl)) rfl rfl ?_ ?_ ?_;(·(first|exact ybf|(refine .inl ?_;(exact fun _ s => Hd.sub s (hle3.trans hle5) (fun r hr => by rw [List.mem_singleton.1 hr];exact tm_)))|exact to_));(·(first|exact ybf|(refine .inl ?_;(exact fun _ s => Hd.sub s (hle3.trans hle5) (fun r hr => by rw [List.mem_singleton.1 hr];exact tm_)))|exact to_)))|(refine tqs_ ?_ ?_ ?_;(·(first|exact ybf|(refine .inl ?_;(exact fun _ s => Hd.sub s (hle3.trans hle5) (fun r hr => by rw [List.mem_singleton.1 hr];exact tm_)))|exact to_));(·(first|exact ybf|(refine .inl ?_;(exact fun _ s => Hd.sub s (hle3.trans hle5) (fun r hr => by rw [List.mem_singleton.1 hr];exact tm_)))|exact to_))))|(apply ybn;(·(first|(apply yax (cs := sbc z);(·rfl);(·exact hfz))|exact tq_));(·rfl);(·rfl);(·rfl);(·(first|exact ybf|(refine .inl ?_;(exact fun _ s => Hd.sub s (hle3.trans hle5) (fun r hr => by rw [List.mem_singleton.1 hr];exact tm_)))|exact to_))))|refine ycg ?_))
          refine yba (ybd rfl rfl rfl (ybe rfl (sbc_sz z))) rfl rfl rfl ?_ ?_ ?_
          · (first|exact ybf|(refine .inl ?_;(exact fun _ s => Hd.sub s (hle3.trans hle5) (fun r hr => by rw [List.mem_singleton.1 hr];exact tm_)))|exact to_)
          · intro _;(first|exact ybf|(refine .inl ?_;(exact fun _ s => Hd.sub s (hle3.trans hle5) (fun r hr => by rw [List.mem_singleton.1 hr];exact tm_)))|exact to_)
          intro b32
          refine rx_append (sz := 20) 2 rfl rfl rfl (yaz 0 rfl) (by show (sbc z).length = 1 * 20; exact sbc_len z) (fun u hu => List.all_eq_true.1 (sbc_one hzo.1 hzo.2) u hu) rfl (by omega) (by unfold maxLen; omega) (by omega) rfl rfl rfl ?_ ?_ ?_
          · (first|exact ybf|(refine .inl ?_;(exact fun _ s => Hd.sub s (hle3.trans hle5) (fun r hr => by rw [List.mem_singleton.1 hr];exact tm_)))|exact to_)
          · intro v';(first|exact ybf|(refine .inl ?_;(exact fun _ s => Hd.sub s (hle3.trans hle5) (fun r hr => by rw [List.mem_singleton.1 hr];exact tm_)))|exact to_)
          intro v9 _
          repeat' (refine ycf ?_;(first|(first|(apply ybm;(·(first|(apply yax (cs := sbc z);(·rfl);(·exact hfz))|exact tq_));(·rfl);(·rfl);(·(exact fun _ s => Hd.sub s (hle3.trans hle5) (fun r hr => by rw [List.mem_singleton.1 hr];exact tm_))))|refine ybl rfl rfl ?_|((fail_if_success (refine ybi rfl ?_));refine ybj rfl ?_ ?_<;>(intro ht;rw [ht];first|replace ht := oet_ ht|replace ht := oef_ ht|skip))|(refine tb_ ?_ ?_ ?_;(·(first|exact ybf|(refine .inl ?_;(exact fun _ s => Hd.sub s (hle3.trans hle5) (fun r hr => by rw [List.mem_singleton.1 hr];exact tm_)))|exact to_));(·intro _;(first|exact ybf|(refine .inl ?_;(exact fun _ s => Hd.sub s (hle3.trans hle5) (fun r hr => by rw [List.mem_singleton.1 hr];exact tm_)))|exact to_));intro _)|(first|(refine ybg 0 rfl rfl rfl (sbc_sz e0) (sbc_fit rfl) (sbc_one hone.1 hone.2) (ybh (sbc_all rfl)) rfl rfl ?_ ?_ ?_;(·(first|exact ybf|(refine .inl ?_;(exact fun _ s => Hd.sub s (hle3.trans hle5) (fun r hr => by rw [List.mem_singleton.1 hr];exact tm_)))|exact to_));(·(first|exact ybf|(refine .inl ?_;(exact fun _ s => Hd.sub s (hle3.trans hle5) (fun r hr => by rw [List.mem_singleton.1 hr];exact tm_)))|exact to_)))|(refine tqs_ ?_ ?_ ?_;(·(first|exact ybf|(refine .inl ?_;(exact fun _ s => Hd.sub s (hle3.trans hle5) (fun r hr => by rw [List.mem_singleton.1 hr];exact tm_)))|exact to_));(·(first|exact ybf|(refine .inl ?_;(exact fun _ s => Hd.sub s (hle3.trans hle5) (fun r hr => by rw [List.mem_singleton.1 hr];exact tm_)))|exact to_))))|(apply ybn;(·(first|(apply yax (cs := sbc z);(·rfl);(·exact hfz))|exact tq_));(·rfl);(·rfl);(·rfl);(·(first|exact ybf|(refine .inl ?_;(exact fun _ s => Hd.sub s (hle3.trans hle5) (fun r hr => by rw [List.mem_singleton.1 hr];exact tm_)))|exact to_))))|refine ycg ?_))
          repeat' (first|(refine ycf ?_;apply ybk;(·first|(exact tk_));(·rfl);(·rfl))|(refine ybg 0 rfl rfl rfl (sbc_sz e0) (sbc_fit rfl) (sbc_one hone.1 hone.2) (ybh (sbc_all rfl)) rfl rfl ?_ ?_ ?_;(·(first|exact ybf|(refine .inl ?_;(exact fun _ s => Hd.sub s (hle3.trans hle5) (fun r hr => by rw [List.mem_singleton.1 hr];exact tm_)))|exact to_));(·(first|exact ybf|(refine .inl ?_;(exact fun _ s => Hd.sub s (hle3.trans hle5) (fun r hr => by rw [List.mem_singleton.1 hr];exact tm_)))|exact to_)))|refine t1_ ?_|(refine ta_ ?_;intro _)|((fail_if_success (refine ybi rfl ?_));refine ybj rfl ?_ ?_<;>(intro ht;rw [ht];first|replace ht := oet_ ht|replace ht := oef_ ht|skip))|(refine ych ?_;first|(refine ybw rfl ?_ ?_<;>intro ht)|(refine ybx rfl ?_ ?_<;>intro ht)))
          refine nx_round (k + 1, h5, v9, O ++ [z]) ⟨by show k + 1 ≤ _; omega, p2.trans (hle3.trans hle5), fun o ho => ?_, ?_⟩ (by show l.length - (k + 1) < l.length - k; omega) ts_ (fun _ s => ?_)
          · rcases List.mem_append.1 ho with ho | ho
            · exact (p3 o ho).mono (hle3.trans hle5)
            · rw [List.mem_singleton.1 ho]; exact hzv
          · dsimp only
            rw [htk, List.map_append]
            simp [hza]
          · have s2 := s.tl.tl
            dsimp only
            show St _ _ [Res.row _ _ v9 (O ++ [z]).length ((O ++ [z]).flatMap sbc)] _
            rw [List.length_append, List.flatMap_append, show [z].flatMap sbc = sbc z by simp]
            exact s2
      · refine rx_bytes_of rfl rfl hxv.by8 rfl rfl rfl ?_ ?_ ?_
        · (first|exact ybf|(refine .inl ?_;(exact fun _ s => Hd.sub s (Le.refl _) (fun r hr => by rw [List.mem_singleton.1 hr];exact tm_)))|exact to_)
        · intro h' hle'; exact .inl fun _ s => Hd.sub s (hle') (fun r hr => by rw [List.mem_singleton.1 hr]; exact tm_)
        intro h5 v5 hle5 hb5
        obtain ⟨_, ad5, cap5, hv5, _, _⟩ := id hb5
        subst hv5
        refine rx_append_sc (sz := 2) (m := e0.l.length) (news := e0.l.flatMap dcs) 0 rfl rfl rfl (by rw [← hmv]; exact hxv.ds.mono (hle5)) (one_dcs _) rfl (by omega) (by unfold maxLen; omega) (by omega) rfl rfl rfl ?_ ?_ ?_
        · (first|exact ybf|(refine .inl ?_;(exact fun _ s => Hd.sub s (hle5) (fun r hr => by rw [List.mem_singleton.1 hr];exact tm_)))|exact to_)
        · intro v';(first|exact ybf|(refine .inl ?_;(exact fun _ s => Hd.sub s (hle5) (fun r hr => by rw [List.mem_singleton.1 hr];exact tm_)))|exact to_)
        intro v2 _
        refine rx_persist rfl fun h3 hle3 hs4 => ?_
        have hs4' : Ds h3 v2 e0.l := by simpa using hs4
        obtain ⟨_, ad2, cap2, hv2, _, _⟩ := id hs4'
        subst hv2
        have hfu := fill2 (ad := ad2) (m := e0.l.length) (c := cap2) e0.hu
        repeat' (refine ycf ?_;(first|(first|(apply ybm;(·(first|(apply yax (cs := cxc e0.u (.slice ad2 e0.l.length cap2));(·rfl);(·exact hfu))|exact tq_));(·rfl);(·rfl);(·(exact fun _ s => Hd.sub s (hle5.trans hle3) (fun r hr => by rw [List.mem_singleton.1 hr];exact tm_))))|refine ybl rfl rfl ?_|((fail_if_success (refine ybi rfl ?_));refine ybj rfl ?_ ?_<;>(intro ht;rw [ht];first|replace ht := oet_ ht|replace ht := oef_ ht|skip))|(refine tb_ ?_ ?_ ?_;(·(first|exact ybf|(refine .inl ?_;(exact fun _ s => Hd.sub s (hle5.trans hle3) (fun r hr => by rw [List.mem_singleton.1 hr];exact tm_)))|exact to_));(·intro _;(first|exact ybf|(refine .inl ?_;(exact fun _ s => Hd.sub s (hle5.trans hle3) (fun r hr => by rw [List.mem_singleton.1 hr];exact tm_)))|exact to_));intro _)|(first|(refine ybg 0 rfl rfl rfl (sbc_sz e0) (sbc_fit rfl) (sbc_one hone.1 hone.2) (ybh (sbc_all rfl)) rfl rfl ?_ ?_ ?_;(·(first|exact ybf|(refine .inl ?_;(exact fun _ s => Hd.sub s (hle5.trans hle3) (fun r hr => by rw [List.mem_singleton.1 hr];exact tm_)))|exact to_));(·(first|exact ybf|(refine .inl ?_;(exact fun _ s => Hd.sub s (hle5.trans hle3) (fun r hr => by rw [List.mem_singleton.1 hr];exact tm_)))|exact to_)))|(refine tqs_ ?_ ?_ ?_;(·(first|exact ybf|(refine .inl ?_;(exact fun _ s => Hd.sub s (hle5.trans hle3) (fun r hr => by rw [List.mem_singleton.1 hr];exact tm_)))|exact to_));(·(first|exact ybf|(refine .inl ?_;(exact fun _ s => Hd.sub s (hle5.trans hle3) (fun r hr => by rw [List.mem_singleton.1 hr];exact tm_)))|exact to_))))|(apply ybn;(·(first|(apply yax (cs := cxc e0.u (.slice ad2 e0.l.length cap2));(·rfl);(·exact hfu))|exact tq_));(·rfl);(·rfl);(·rfl);(·(first|exact ybf|(refine .inl ?_;(exact fun _ s => Hd.sub s (hle5.trans hle3) (fun r hr => by rw [List.mem_singleton.1 hr];exact tm_)))|exact to_))))|refine ycg ?_))
        obtain ⟨z, hz⟩ : ∃ z : Sb, z = ⟨e0.d, e0.u, e0.hu, e0.l, .slice ad2 e0.l.length cap2, e0.b, .slice ad5 e0.b.length cap5⟩ := ⟨_, rfl⟩
        have hfz : fillL (fun i : Nat => ([(0, 2), (2, 17), (19, 1)] : List (Nat × Nat))[i]?) ([.int .i64 0, .int .i64 0] ++ (up zeroU ++ [.slice none 0 0, .slice none 0 0])) [(0, .agg (dcs e0.d).toArray), (1, .agg (cxc e0.u (.slice ad2 e0.l.length cap2)).toArray), (2, .slice ad5 e0.b.length cap5)] = some (sbc z) := by
          rw [hz]; exact fill3 e0.hu rfl
        have hzv : Sv h3 z := by rw [hz]; exact ⟨hs4', hb5.mono hle3, hxv.by8⟩
        have hza : z.a = e0.a := by rw [hz]; rfl
        have hzo := hzv.one
        repeat' (refine ycf ?_;(first|(first|(apply ybm;(·(first|(apply yax (cs := sbc z);(·rfl);(·exact hfz))|exact tq_));(·rfl);(·rfl);(·(exact fun _ s => Hd.sub s (hle5.trans hle3) (fun r hr => by rw [List.mem_singleton.1 hr];exact tm_))))|refine ybl rfl rfl ?_|((fail_if_success (refine ybi rfl ?_));refine ybj rfl ?_ ?_<;>(intro ht;rw [ht];first|replace ht := oet_ ht|replace ht := oef_ ht|skip))|(refine tb_ ?_ ?_ ?_;(·(first|exact ybf|(refine .inl ?_;(exact fun _ s => Hd.sub s (hle5.trans hle3) (fun r hr => by rw [List.mem_singleton.1 hr];exact tm_)))|exact to_));(·intro _;(first|exact ybf|(refine .inl ?_;(exact fun _ s => Hd.sub s (hle5.trans hle3) (fun r hr => by rw [List.mem_singleton.1 hr];exact tm_)))|exact to_));intro _)|(first|(refine ybg 0 rfl rfl rfl (sbc_sz e0) (sbc_fit rfl) (sbc_one hone.1 hone.2) (ybh (sbc_all rfl)) rfl rfl ?_ ?_ ?_;(·(first|exact ybf|(refine .inl ?_;(exact fun _ s => Hd.sub s (hle5.trans hle3) (fun r hr => by rw [List.mem_singleton.1 hr];exact tm_)))|exact to_));(·(first|exact ybf|(refine .inl ?_;(exact fun _ s => Hd.sub s (hle5.trans hle3) (fun r hr => by rw [List.mem_singleton.1 hr];exact tm_)))|exact to_)))|(refine tqs_ ?_ ?_ ?_;(·(first|exact ybf|(refine .inl ?_;(exact fun _ s => Hd.sub s (hle5.trans hle3) (fun r hr => by rw [List.mem_singleton.1 hr];exact tm_)))|exact to_));(·(first|exact ybf|(refine .inl ?_;(exact fun _ s => Hd.sub s (hle5.trans hle3) (fun r hr => by rw [List.mem_singleton.1 hr];exact tm_)))|exact to_))))|(apply ybn;(·(first|(apply yax (cs := sbc z);(·rfl);(·exact hfz))|exact tq_));(·rfl);(·rfl);(·rfl);(·(first|exact ybf|(refine .inl ?_;(exact fun _ s => Hd.sub s (hle5.trans hle3) (fun r hr => by rw [List.mem_singleton.1 hr];exact tm_)))|exact to_))))|refine ycg ?_))
        refine yba (ybd rfl rfl rfl (ybe rfl (sbc_sz z))) rfl rfl rfl ?_ ?_ ?_
        · (first|exact ybf|(refine .inl ?_;(exact fun _ s => Hd.sub s (hle5.trans hle3) (fun r hr => by rw [List.mem_singleton.1 hr];exact tm_)))|exact to_)
        · intro _;(first|exact ybf|(refine .inl ?_;(exact fun _ s => Hd.sub s (hle5.trans hle3) (fun r hr => by rw [List.mem_singleton.1 hr];exact tm_)))|exact to_)
        intro b32
        refine rx_append (sz := 20) 2 rfl rfl rfl (yaz 0 rfl) (by show (sbc z).length = 1 * 20; exact sbc_len z) (fun u hu => List.all_eq_true.1 (sbc_one hzo.1 hzo.2) u hu) rfl (by omega) (by unfold maxLen; omega) (by omega) rfl rfl rfl ?_ ?_ ?_
        · (first|exact ybf|(refine .inl ?_;(exact fun _ s => Hd.sub s (hle5.trans hle3) (fun r hr => by rw [List.mem_singleton.1 hr];exact tm_)))|exact to_)
        · intro v';(first|exact ybf|(refine .inl ?_;(exact fun _ s => Hd.sub s (hle5.trans hle3) (fun r hr => by rw [List.mem_singleton.1 hr];exact tm_)))|exact to_)
        intro v9 _
        repeat' (refine ycf ?_;(first|(first|(apply ybm;(·(first|(apply yax (cs := sbc z);(·rfl);(·exact hfz))|exact tq_));(·rfl);(·rfl);(·(exact fun _ s => Hd.sub s (hle5.trans hle3) (fun r hr => by rw [List.mem_singleton.1 hr];exact tm_))))|refine ybl rfl rfl ?_|((fail_if_success (refine ybi rfl ?_));refine ybj rfl ?_ ?_<;>(intro ht;rw [ht];first|replace ht := oet_ ht|replace ht := oef_ ht|skip))|(refine tb_ ?_ ?_ ?_;(·(first|exact ybf|(refine .inl ?_;(exact fun _ s => Hd.sub s (hle5.trans hle3) (fun r hr => by rw [List.mem_singleton.1 hr];exact tm_)))|exact to_));(·intro _;(first|exact ybf|(refine .inl ?_;(exact fun _ s => Hd.sub s (hle5.trans hle3) (fun r hr => by rw [List.mem_singleton.1 hr];exact tm_)))|exact to_));intro _)|(first|(refine ybg 0 rfl rfl rfl (sbc_sz e0) (sbc_fit rfl) (sbc_one hone.1 hone.2) (ybh (sbc_all rfl)) rfl rfl ?_ ?_ ?_;(·(first|exact ybf|(refine .inl ?_;(exact fun _ s => Hd.sub s (hle5.trans hle3) (fun r hr => by rw [List.mem_singleton.1 hr];exact tm_)))|exact to_));(·(first|exact ybf|(refine .inl ?_;(exact fun _ s => Hd.sub s (hle5.trans hle3) (fun r hr => by rw [List.mem_singleton.1 hr];exact tm_)))|exact to_)))|(refine tqs_ ?_ ?_ ?_;(·(first|exact ybf|(refine .inl ?_;(exact fun _ s => Hd.sub s (hle5.trans hle3) (fun r hr => by rw [List.mem_singleton.1 hr];exact tm_)))|exact to_));(·(first|exact ybf|(refine .inl ?_;(exact fun _ s => Hd.sub s (hle5.trans hle3) (fun r hr => by rw [List.mem_singleton.1 hr];exact tm_)))|exact to_))))|(apply ybn;(·(first|(apply yax (cs := sbc z);(·rfl);(·exact hfz))|exact tq_));(·rfl);(·rfl);(·rfl);(·(first|exact ybf|(refine .inl ?_;(exact fun _ s => Hd.sub s (hle5.trans hle3) (fun r hr => by rw [List.mem_singleton.1 hr];exact tm_)))|exact to_))))|refine ycg ?_))
        repeat' (first|(refine ycf ?_;apply ybk;(·first|(exact tk_));(·rfl);(·rfl))|(refine ybg 0 rfl rfl rfl (sbc_sz e0) (sbc_fit rfl) (sbc_one hone.1 hone.2) (ybh (sbc_all rfl)) rfl rfl ?_ ?_ ?_;(·(first|exact ybf|(refine .inl ?_;(exact fun _ s => Hd.sub s (hle5.trans hle3) (fun r hr => by rw [List.mem_singleton.1 hr];exact tm_)))|exact to_));(·(first|exact ybf|(refine .inl ?_;(exact fun _ s => Hd.sub s (hle5.trans hle3) (fun r hr => by rw [List.mem_singleton.1 hr];exact tm_)))|exact to_)))|refine t1_ ?_|(refine ta_ ?_;intro _)|((fail_if_success (refine ybi rfl ?_));refine ybj rfl ?_ ?_<;>(intro ht;rw [ht];first|replace ht := oet_ ht|replace ht := oef_ ht|skip))|(refine ych ?_;first|(refine ybw rfl ?_ ?_<;>intro ht)|(refine ybx rfl ?_ ?_<;>intro ht)))
        refine nx_round (k + 1, h3, v9, O ++ [z]) ⟨by show k + 1 ≤ _; omega, p2.trans (hle5.trans hle3), fun o ho => ?_, ?_⟩ (by show l.length - (k + 1) < l.length - k; omega) ts_ (fun _ s => ?_)
        · rcases List.mem_append.1 ho with ho | ho
          · exact (p3 o ho).mono (hle5.trans hle3)
          · rw [List.mem_singleton.1 ho]; exact hzv
        · dsimp only
          rw [htk, List.map_append]
          simp [hza]
        · have s2 := s.tl.tl
          dsimp only
          show St _ _ [Res.row _ _ v9 (O ++ [z]).length ((O ++ [z]).flatMap sbc)] _
          rw [List.length_append, List.flatMap_append, show [z].flatMap sbc = sbc z by simp]
          exact s2
    · refine rx_bytes_of rfl rfl hxv.by8 rfl rfl rfl ?_ ?_ ?_
      · (first|exact ybf|(refine .inl ?_;(exact fun _ s => Hd.sub s (Le.refl _) (fun r hr => by rw [List.mem_singleton.1 hr];exact tm_)))|exact to_)
      · intro h' hle'; exact .inl fun _ s => Hd.sub s (hle') (fun r hr => by rw [List.mem_singleton.1 hr]; exact tm_)
      intro h5 v5 hle5 hb5
      obtain ⟨_, ad5, cap5, hv5, _, _⟩ := id hb5
      subst hv5
      refine yba ma_buildSlice0 rfl rfl rfl ?_ ?_ ?_
      · (first|exact ybf|(refine .inl ?_;(exact fun _ s => Hd.sub s (hle5) (fun r hr => by rw [List.mem_singleton.1 hr];exact tm_)))|exact to_)
      · intro _;(first|exact ybf|(refine .inl ?_;(exact fun _ s => Hd.sub s (hle5) (fun r hr => by rw [List.mem_singleton.1 hr];exact tm_)))|exact to_)
      intro b22
      refine rx_rowOf 2 0 0 (by omega) (by unfold maxLen; omega) rfl ?_
      repeat' (refine ycf ?_;(first|(first|(apply ybm;(·exact tq_);(·rfl);(·rfl);(·(exact fun _ s => Hd.sub s (hle5) (fun r hr => by rw [List.mem_singleton.1 hr];exact tm_))))|refine ybl rfl rfl ?_|((fail_if_success (refine ybi rfl ?_));refine ybj rfl ?_ ?_<;>(intro ht;rw [ht];first|replace ht := oet_ ht|replace ht := oef_ ht|skip))|(refine tb_ ?_ ?_ ?_;(·(first|exact ybf|(refine .inl ?_;(exact fun _ s => Hd.sub s (hle5) (fun r hr => by rw [List.mem_singleton.1 hr];exact tm_)))|exact to_));(·intro _;(first|exact ybf|(refine .inl ?_;(exact fun _ s => Hd.sub s (hle5) (fun r hr => by rw [List.mem_singleton.1 hr];exact tm_)))|exact to_));intro _)|(first|(refine ybg 0 rfl rfl rfl (sbc_sz e0) (sbc_fit rfl) (sbc_one hone.1 hone.2) (ybh (sbc_all rfl)) rfl rfl ?_ ?_ ?_;(·(first|exact ybf|(refine .inl ?_;(exact fun _ s => Hd.sub s (hle5) (fun r hr => by rw [List.mem_singleton.1 hr];exact tm_)))|exact to_));(·(first|exact ybf|(refine .inl ?_;(exact fun _ s => Hd.sub s (hle5) (fun r hr => by rw [List.mem_singleton.1 hr];exact tm_)))|exact to_)))|(refine tqs_ ?_ ?_ ?_;(·(first|exact ybf|(refine .inl ?_;(exact fun _ s => Hd.sub s (hle5) (fun r hr => by rw [List.mem_singleton.1 hr];exact tm_)))|exact to_));(·(first|exact ybf|(refine .inl ?_;(exact fun _ s => Hd.sub s (hle5) (fun r hr => by rw [List.mem_singleton.1 hr];exact tm_)))|exact to_))))|(apply ybn;(·exact tq_);(·rfl);(·rfl);(·rfl);(·(first|exact ybf|(refine .inl ?_;(exact fun _ s => Hd.sub s (hle5) (fun r hr => by rw [List.mem_singleton.1 hr];exact tm_)))|exact to_))))|refine ycg ?_))
      refine rx_append_sc (sz := 2) (m := e0.l.length) (news := e0.l.flatMap dcs) 0 rfl rfl rfl (by rw [← hmv]; exact hxv.ds.mono (hle5)) (one_dcs _) rfl (by omega) (by unfold maxLen; omega) (by omega) rfl rfl rfl ?_ ?_ ?_
      · (first|exact ybf|(refine .inl ?_;(exact fun _ s => Hd.sub s (hle5) (fun r hr => by rw [List.mem_singleton.1 hr];exact tm_)))|exact to_)
      · intro v';(first|exact ybf|(refine .inl ?_;(exact fun _ s => Hd.sub s (hle5) (fun r hr => by rw [List.mem_singleton.1 hr];exact tm_)))|exact to_)
      intro v2 _
      refine rx_persist rfl fun h3 hle3 hs4 => ?_
      have hs4' : Ds h3 v2 e0.l := by simpa using hs4
      obtain ⟨_, ad2, cap2, hv2, _, _⟩ := id hs4'
      subst hv2
      have hfu := fill2 (ad := ad2) (m := e0.l.length) (c := cap2) e0.hu
      repeat' (refine ycf ?_;(first|(first|(apply ybm;(·(first|(apply yax (cs := cxc e0.u (.slice ad2 e0.l.length cap2));(·rfl);(·exact hfu))|exact tq_));(·rfl);(·rfl);(·(exact fun _ s => Hd.sub s (hle5.trans hle3) (fun r hr => by rw [List.mem_singleton.1 hr];exact tm_))))|refine ybl rfl rfl ?_|((fail_if_success (refine ybi rfl ?_));refine ybj rfl ?_ ?_<;>(intro ht;rw [ht];first|replace ht := oet_ ht|replace ht := oef_ ht|skip))|(refine tb_ ?_ ?_ ?_;(·(first|exact ybf|(refine .inl ?_;(exact fun _ s => Hd.sub s (hle5.trans hle3) (fun r hr => by rw [List.mem_singleton.1 hr];exact tm_)))|exact to_));(·intro _;(first|exact ybf|(refine .inl ?_;(exact fun _ s => Hd.sub s (hle5.trans hle3) (fun r hr => by rw [List.mem_singleton.1 hr];exact tm_)))|exact to_));intro _)|(first|(refine ybg 0 rfl rfl rfl (sbc_sz e0) (sbc_fit rfl) (sbc_one hone.1 hone.2) (ybh (sbc_all rfl)) rfl rfl ?_ ?_ ?_;(·(first|exact ybf|(refine .inl ?_;(exact fun _ s => Hd.sub s (hle5.trans hle3) (fun r hr => by rw [List.mem_singleton.1 hr];exact tm_)))|exact to_));(·(first|exact ybf|(refine .inl ?_;(exact fun _ s => Hd.sub s (hle5.trans hle3) (fun r hr => by rw [List.mem_singleton.1 hr];exact tm_)))|exact to_)))|(refine tqs_ ?_ ?_ ?_;(·(first|exact ybf|(refine .inl ?_;(exact fun _ s => Hd.sub s (hle5.trans hle3) (fun r hr => by rw [List.mem_singleton.1 hr];exact tm_)))|exact to_));(·(first|exact ybf|(refine .inl ?_;(exact fun _ s => Hd.sub s (hle5.trans hle3) (fun r hr => by rw [List.mem_singleton.1 hr];exact tm_)))|exact to_))))|(apply ybn;(·(first|(apply yax (cs := cxc e0.u (.slice ad2 e0.l.length cap2));(·rfl);(·exact hfu))|exact tq_));(·rfl);(·rfl);(·rfl);(·(first|exact ybf|(refine .inl ?_;(exact fun _ s => Hd.sub s (hle5.trans hle3) (fun r hr => by rw [List.mem_singleton.1 hr];exact tm_)))|exact to_))))|refine ycg ?_))
      obtain ⟨z, hz⟩ : ∃ z : Sb, z = ⟨e0.d, e0.u, e0.hu, e0.l, .slice ad2 e0.l.length cap2, e0.b, .slice ad5 e0.b.length cap5⟩ := ⟨_, rfl⟩
      have hfz : fillL (fun i : Nat => ([(0, 2), (2, 17), (19, 1)] : List (Nat × Nat))[i]?) ([.int .i64 0, .int .i64 0] ++ (up zeroU ++ [.slice none 0 0, .slice none 0 0])) [(0, .agg (dcs e0.d).toArray), (1, .agg (cxc e0.u (.slice ad2 e0.l.length cap2)).toArray), (2, .slice ad5 e0.b.length cap5)] = some (sbc z) := by
        rw [hz]; exact fill3 e0.hu rfl
      have hzv : Sv h3 z := by rw [hz]; exact ⟨hs4', hb5.mono hle3, hxv.by8⟩
      have hza : z.a = e0.a := by rw [hz]; rfl
      have hzo := hzv.one
      repeat' (refine ycf ?_;(first|(first|(apply ybm;(·(first|(apply yax (cs := sbc z);(·rfl);(·exact hfz))|exact tq_));(·rfl);(·rfl);(·(exact fun _ s => Hd.sub s (hle5.trans hle3) (fun r hr => by rw [List.mem_singleton.1 hr];exact tm_))))|refine ybl rfl rfl ?_|((fail_if_success (refine ybi rfl ?_));refine ybj rfl ?_ ?_<;>(intro ht;rw [ht];first|replace ht := oet_ ht|replace ht := oef_ ht|skip))|(refine tb_ ?_ ?_ ?_;(·(first|exact ybf|(refine .inl ?_;(exact fun _ s => Hd.sub s (hle5.trans hle3) (fun r hr => by rw [List.mem_singleton.1 hr];exact tm_)))|exact to_));(·intro _;(first|exact ybf|(refine .inl ?_;(exact fun _ s => Hd.sub s (hle5.trans hle3) (fun r hr => by rw [List.mem_singleton.1 hr];exact tm_)))|exact to_));intro _)|(first|(refine ybg 0 rfl rfl rfl (sbc_sz e0) (sbc_fit rfl) (sbc_one hone.1 hone.2) (ybh (sbc_all rfl)) rfl rfl ?_ ?_ ?_;(·(first|exact ybf|(refine .inl ?_;(exact fun _ s => Hd.sub s (hle5.trans hle3) (fun r hr => by rw [List.mem_singleton.1 hr];exact tm_)))|exact to_));(·(first|exact ybf|(refine .inl ?_;(exact fun _ s => Hd.sub s (hle5.trans hle3) (fun r hr => by rw [List.mem_singleton.1 hr];exact tm_)))|exact to_)))|(refine tqs_ ?_ ?_ ?_;(·(first|exact ybf|(refine .inl ?_;(exact fun _ s => Hd.sub s (hle5.trans hle3) (fun r hr => by rw [List.mem_singleton.1 hr];exact tm_)))|exact to_));(·(first|exact ybf|(refine .inl ?_;(exact fun _ s => Hd.sub s (hle5.trans hle3) (fun r hr => by rw [List.mem_singleton.1 hr];exact tm_)))|exact to_))))|(apply ybn;(·(first|(apply yax (cs := sbc z);(·rfl);(·exact hfz))|exact tq_));(·rfl);(·rfl);(·rfl);(·(first|exact ybf|(refine .inl ?_;(exact fun _ s => Hd.sub s (hle5.trans hle3) (fun r hr => by rw [List.mem_singleton.1 hr];exact tm_)))|exact to_))))|refine ycg ?_))
      refine yba (ybd rfl rfl rfl (ybe rfl (sbc_sz z))) rfl rfl rfl ?_ ?_ ?_
      · (first|exact ybf|(refine .inl ?_;(exact fun _ s => Hd.sub s (hle5.trans hle3) (fun r hr => by rw [List.mem_singleton.1 hr];exact tm_)))|exact to_)
      · intro _;(first|exact ybf|(refine .inl ?_;(exact fun _ s => Hd.sub s (hle5.trans hle3) (fun r hr => by rw [List.mem_singleton.1 hr];exact tm_)))|exact to_)
      intro b32
      refine rx_append (sz := 20) 2 rfl rfl rfl (yaz 0 rfl) (by show (sbc z).length = 1 * 20; exact sbc_len z) (fun u hu => List.all_eq_true.1 (sbc_one hzo.1 hzo.2) u hu) rfl (by omega) (by unfold maxLen; omega) (by omega) rfl rfl rfl ?_ ?_ ?_
      · (first|exact ybf|(refine .inl ?_;(exact fun _ s => Hd.sub s (hle5.trans hle3) (fun r hr => by rw [List.mem_singleton.1 hr];exact tm_)))|exact to_)
      · intro v';(first|exact ybf|(refine .inl ?_;(exact fun _ s => Hd.sub s (hle5.trans hle3) (fun r hr => by rw [List.mem_singleton.1 hr];exact tm_)))|exact to_)
      intro v9 _
      repeat' (refine ycf ?_;(first|(first|(apply ybm;(·(first|(apply yax (cs := sbc z);(·rfl);(·exact hfz))|exact tq_));(·rfl);(·rfl);(·(exact fun _ s => Hd.sub s (hle5.trans hle3) (fun r hr => by rw [List.mem_singleton.1 hr];exact tm_))))|refine ybl rfl rfl ?_|((fail_if_success (refine ybi rfl ?_));refine ybj rfl ?_ ?_<;>(intro ht;rw [ht];first|replace ht := oet_ ht|replace ht := oef_ ht|skip))|(refine tb_ ?_ ?_ ?_;(·(first|exact ybf|(refine .inl ?_;(exact fun _ s => Hd.sub s (hle5.trans hle3) (fun r hr => by rw [List.mem_singleton.1 hr];exact tm_)))|exact to_));(·intro _;(first|exact ybf|(refine .inl ?_;(exact fun _ s => Hd.sub s (hle5.trans hle3) (fun r hr => by rw [List.mem_singleton.1 hr];exact tm_)))|exact to_));intro _)|(first|(refine ybg 0 rfl rfl rfl (sbc_sz e0) (sbc_fit rfl) (sbc_one hone.1 hone.2) (ybh (sbc_all rfl)) rfl rfl ?_ ?_ ?_;(·(first|exact ybf|(refine .inl ?_;(exact fun _ s => Hd.sub s (hle5.trans hle3) (fun r hr => by rw [List.mem_singleton.1 hr];exact tm_)))|exact to_));(·(first|exact ybf|(refine .inl ?_;(exact fun _ s => Hd.sub s (hle5.trans hle3) (fun r hr => by rw [List.mem_singleton.1 hr];exact tm_)))|exact to_)))|(refine tqs_ ?_ ?_ ?_;(·(first|exact ybf|(refine .inl ?_;(exact fun _ s => Hd.sub s (hle5.trans hle3) (fun r hr => by rw [List.mem_singleton.1 hr];exact tm_)))|exact to_));(·(first|exact ybf|(refine .inl ?_;(exact fun _ s => Hd.sub s (hle5.trans hle3) (fun r hr => by rw [List.mem_singleton.1 hr];exact tm_)))|exact to_))))|(apply ybn;(·(first|(apply yax (cs := sbc z);(·rfl);(·exact hfz))|exact tq_));(·rfl);(·rfl);(·rfl);(·(first|exact ybf|(refine .inl ?_;(exact fun _ s => Hd.sub s (hle5.trans hle3) (fun r hr => by rw [List.mem_singleton.1 hr];exact tm_)))|exact to_))))|refine ycg ?_))
      repeat' (first|(refine ycf ?_;apply ybk;(·first|(exact tk_));(·rfl);(·rfl))|(refine ybg 0 rfl rfl rfl (sbc_sz e0) (sbc_fit rfl) (sbc_one hone.1 hone.2) (ybh (sbc_all rfl)) rfl rfl ?_ ?_ ?_;(·(first|exact ybf|(refine .inl ?_;(exact fun _ s => Hd.sub s (hle5.trans hle3) (fun r hr => by rw [List.mem_singleton.1 hr];exact tm_)))|exact to_));(·(first|exact ybf|(refine .inl ?_;(exact fun _ s => Hd.sub s (hle5.trans hle3) (fun r hr => by rw [List.mem_singleton.1 hr];exact tm_)))|exact to_)))|refine t1_ ?_|(refine ta_ ?_;intro _)|((fail_if_success (refine ybi rfl ?_));refine ybj rfl ?_ ?_<;>(intro ht;rw [ht];first|replace ht := oet_ ht|replace ht := oef_ ht|skip))|(refine ych ?_;first|(refine ybw rfl ?_ ?_<;>intro ht)|(refine ybx rfl ?_ ?_<;>intro ht)))
      refine nx_round (k + 1, h3, v9, O ++ [z]) ⟨by show k + 1 ≤ _; omega, p2.trans (hle5.trans hle3), fun o ho => ?_, ?_⟩ (by show l.length - (k + 1) < l.length - k; omega) ts_ (fun _ s => ?_)
      · rcases List.mem_append.1 ho with ho | ho
        · exact (p3 o ho).mono (hle5.trans hle3)
        · rw [List.mem_singleton.1 ho]; exact hzv
      · dsimp only
        rw [htk, List.map_append]
        simp [hza]
      · have s2 := s.tl.tl
        dsimp only
        show St _ _ [Res.row _ _ v9 (O ++ [z]).length ((O ++ [z]).flatMap sbc)] _
        rw [List.length_append, List.flatMap_append, show [z].flatMap sbc = sbc z by simp]
        exact s2
  · have ek : k = l.length := by omega
    subst ek
    rw [List.take_length] at p4
    iterate 4 (first|(refine ycf ?_;apply ybk;(·first|(exact tk_));(·rfl);(·rfl))|(refine ybg 0 rfl rfl rfl (sbc_sz e0) (sbc_fit rfl) (sbc_one hone.1 hone.2) (ybh (sbc_all rfl)) rfl rfl ?_ ?_ ?_;(·(exact to_));(·(exact to_)))|refine t1_ ?_|(refine ta_ ?_;intro _)|((fail_if_success (refine ybi rfl ?_));refine ybj rfl ?_ ?_<;>(intro ht;rw [ht];first|replace ht := oet_ ht|replace ht := oef_ ht|skip))|(refine ych ?_;first|(refine ybw rfl ?_ ?_<;>intro ht)|(refine ybx rfl ?_ ?_<;>intro ht)))
    refine rx_persist rfl fun h6 hle6 hs6 => ?_
    repeat' (first|(refine ycf ?_;apply ybk;(·first|(exact tk_));(·rfl);(·rfl))|(refine ybg 0 rfl rfl rfl (sbc_sz e0) (sbc_fit rfl) (sbc_one hone.1 hone.2) (ybh (sbc_all rfl)) rfl rfl ?_ ?_ ?_;(·(exact to_));(·(exact to_)))|refine t1_ ?_|(refine ta_ ?_;intro _)|((fail_if_success (refine ybi rfl ?_));refine ybj rfl ?_ ?_<;>(intro ht;rw [ht];first|replace ht := oet_ ht|replace ht := oef_ ht|skip))|(refine ych ?_;first|(refine ybw rfl ?_ ?_<;>intro ht)|(refine ybx rfl ?_ ?_<;>intro ht)))
    exact nx_ret1 rfl (rv_tmp rfl) (fun w' s' => ⟨(h6, vo, O), rfl, s'.nil, ⟨hs6, fun o ho => (p3 o ho).mono hle6⟩, p4⟩)
end Go.Proofs.YtkkjppeaaicgaaaGreatDoor
end

section
namespace Go.Proofs.YtkkjppeaaicgaaaGreatDoor
open Go Go.Ck
set_option maxRecDepth 100000
set_option maxHeartbeats 4000000
set_option linter.unusedVariables false
def cutA (m n : Nat) (a : Ab) : Ab := (a.1, a.2.1, a.2.2.1.take m, a.2.2.2.take n)
theorem min_lim {a : Nat} (m : Nat) {j : Nat} (hj : j = min a m) : (if (m : Int) < (a : Int) then (m : Int) else (a : Int)) = (j : Int) := by split<;>omega
theorem take_min {α : Type} {l : List α} {m : Nat} : l.take (min l.length m) = l.take m := by
  by_cases h : l.length ≤ m
  · rw [Nat.min_eq_left h, List.take_length, List.take_of_length_le h]
  · rw [Nat.min_eq_right (by omega)]
theorem stame_sp (v : Value) (l : List Sb) (h : View) (hs : Rs h v l) (hl : l.length ≤ 9223372036854775807) (hll : ∀ x ∈ l, x.l.length ≤ 9223372036854775807 ∧ x.b.length ≤ 9223372036854775807) (w : World) (s : St ⟨w, h, []⟩ h [] w) :
    Calls Tryz.prog 4 [v].toArray w fun e w' => ∃ z : View × Value × List Sb, e = .returned z.2.1 ∧ St ⟨w, h, []⟩ z.1 [] w' ∧ Rs z.1 z.2.1 z.2.2 ∧ z.2.2.map Sb.a = (l.take 20).map fun x => cutA 40 100 x.a := by
  obtain ⟨hs, hsv⟩ := hs
  obtain ⟨_, ad, cap, rfl, hcap, _⟩ := id hs
  refine calls_enter Tryz.func4 rfl Tryz.ntmps4 rfl s ?_
  repeat' (first|refine tw_ ?_|(refine ta_ ?_;intro _)|((fail_if_success (refine ybi rfl ?_));refine ybj rfl ?_ ?_<;>(intro ht;rw [ht];first|replace ht := oet_ ht|replace ht := oef_ ht|skip))|(refine ych ?_;first|(refine ybw rfl ?_ ?_<;>intro ht)|(refine ybx rfl ?_ ?_<;>intro ht)))
  refine cx_row 55 20 ?_
  refine cx_loop (X := Nat × View × Value × List Sb) (fun y => [(0, .slice ad l.length cap), (3, y.2.2.1), (4, .int .i64 (y.1 : Nat))]) (fun y => y.2.1) (fun y => [Res.row 55 20 y.2.2.1 y.2.2.2.length (y.2.2.2.flatMap sbc)])
    (fun y => y.1 ≤ l.length ∧ y.1 ≤ 20 ∧ Le h y.2.1 ∧ (∀ o ∈ y.2.2.2, Rv y.2.1 o) ∧ y.2.2.2.map Sb.a = (l.take y.1).map fun x => cutA 40 100 x.a) (fun y => 20 - y.1) (0, h, .slice none 0 0, []) ⟨Nat.zero_le _, Nat.zero_le _, Le.refl _, fun o ho => (by cases ho), rfl⟩ ts_ (fun _ s => s) ?_
  rintro ⟨k, hk, vo, O⟩ ⟨p1, p0, p2, p3, p4⟩
  dsimp only at p1 p0 p2 p3 p4 ⊢
  have hOl : O.length = k := by
    have := congrArg List.length p4
    simp at this
    omega
  by_cases hkl : k < l.length
  · by_cases hk20 : k < 20
    · obtain ⟨bs, o, rfl⟩ := hs.ad (by omega) (by omega)
      have hs3 := hs.mono p2
      have hel : ∀ L, Cells hk L ⟨bs, o + k * 20, none⟩ (sbc l[k]) := fun L => hs3.elem sbc_len k hkl
      have hxv : Rv hk l[k] := (hsv _ (List.getElem_mem hkl)).mono p2
      have hlim := hll _ (List.getElem_mem hkl)
      have htk : (l.take (k + 1)).map (fun x => cutA 40 100 x.a) = O.map Sb.a ++ [cutA 40 100 l[k].a] := by rw [List.take_succ_eq_append_getElem hkl, List.map_append, ← p4]; rfl
      generalize l[k] = e0 at hel hxv hlim htk
      have hxl := sbc_len e0
      have hone := hxv.one
      obtain ⟨_, adm, capm, hmv, _, _⟩ := id hxv.ds
      obtain ⟨j, hj⟩ : ∃ j, j = min e0.l.length 40 := ⟨_, rfl⟩
      have hj1 := min_lim 40 hj
      obtain ⟨jb, hjb⟩ : ∃ j, j = min e0.b.length 100 := ⟨_, rfl⟩
      have hjb1 := min_lim 100 hjb
      have hjt : e0.l.take j = e0.l.take 40 := by rw [hj]; exact take_min
      have hjbt : e0.b.take jb = e0.b.take 100 := by rw [hjb]; exact take_min
      have hdst : Sc hk 2 (.slice adm j capm) j ((e0.l.take 40).flatMap dcs) := by
        have := sc_take (j := j) (by rw [← hmv]; exact hxv.ds) (by omega)
        rwa [flat_take, hjt] at this
      have hjl : (e0.l.take 40).length = j := by rw [← hjt]; simp; omega
      repeat' (first|(refine ycf ?_;apply ybk;(·first|(first|exact tk_|(apply yad;(·rfl);(·exact hel _);(·exact hxl))|(refine qv_min' rfl rfl hj1)|(apply qv_slice_to;(·rfl);(·rfl);(·omega);(·omega)))|(apply yae;(·rfl);(·(first|exact sb_more (yaz 0 rfl) hmv|exact sb_more (yaz 1 rfl) hmv))));(·rfl);(·rfl))|(refine ybg 0 rfl rfl rfl (sbc_sz e0) (sbc_fit rfl) (sbc_one hone.1 hone.2) (ybh (sbc_all rfl)) rfl rfl ?_ ?_ ?_;(·(exact to_));(·(exact to_)))|refine t1_ ?_|(refine ta_ ?_;intro _)|((fail_if_success (refine ybi rfl ?_));refine ybj rfl ?_ ?_<;>(intro ht;rw [ht];first|replace ht := oet_ ht|replace ht := oef_ ht|skip))|(refine ych ?_;first|(refine ybw rfl ?_ ?_<;>intro ht)|(refine ybx rfl ?_ ?_<;>intro ht)))
      refine yba ma_buildSlice0 rfl rfl rfl ybf (fun _ => ybf) ?_
      intro b22
      refine rx_rowOf 2 0 0 (by omega) (by unfold maxLen; omega) rfl ?_
      repeat' (first|(refine ycf ?_;apply ybk;(·first|(first|exact tk_|(apply yad;(·rfl);(·exact hel _);(·exact hxl))|(refine qv_min' rfl rfl hj1)|(apply qv_slice_to;(·rfl);(·rfl);(·omega);(·omega)))|(apply yae;(·rfl);(·(first|exact sb_more (yaz 0 rfl) hmv|exact sb_more (yaz 1 rfl) hmv))));(·rfl);(·rfl))|(refine ybg 0 rfl rfl rfl (sbc_sz e0) (sbc_fit rfl) (sbc_one hone.1 hone.2) (ybh (sbc_all rfl)) rfl rfl ?_ ?_ ?_;(·(exact to_));(·(exact to_)))|refine t1_ ?_|(refine ta_ ?_;intro _)|((fail_if_success (refine ybi rfl ?_));refine ybj rfl ?_ ?_<;>(intro ht;rw [ht];first|replace ht := oet_ ht|replace ht := oef_ ht|skip))|(refine ych ?_;first|(refine ybw rfl ?_ ?_<;>intro ht)|(refine ybx rfl ?_ ?_<;>intro ht)))
      refine rx_append_sc (sz := 2) (m := j) (news := (e0.l.take 40).flatMap dcs) 0 rfl rfl rfl hdst (one_dcs _) rfl (by omega) (by unfold maxLen; omega) (by omega) rfl rfl rfl ybf (fun _ => ybf) ?_
      intro v2 _
      refine rx_persist rfl fun h3 hle3 hs4 => ?_
      have hs4' : Ds h3 v2 (e0.l.take 40) := by unfold Ds; rw [hjl]; simpa using hs4
      obtain ⟨_, ad2, cap2, hv2, _, _⟩ := id hs4'
      subst hv2
      obtain ⟨y1, hy1⟩ : ∃ y1 : Sb, y1 = { e0 with mv := .slice ad2 (e0.l.take 40).length cap2, l := e0.l.take 40 } := ⟨_, rfl⟩
      have e1 : spl (sbc e0) (0 + 2 + 16) [.slice ad2 (e0.l.take 40).length cap2] = sbc y1 := by rw [hy1]; exact spl_more_s
      have hb1 : y1.bv = .string (bstr e0.b) := by rw [hy1]; exact hxv.bs
      obtain ⟨y2, hy2⟩ : ∃ y2 : Sb, y2 = { y1 with bv := .string (bstr (e0.b.take jb)), b := e0.b.take jb } := ⟨_, rfl⟩
      have e2 : spl (sbc y1) (0 + 19) [.string (bstr (e0.b.take jb))] = sbc y2 := by rw [hy2]; exact spl_body_s
      have hl2 := sbc_len y2
      have ho2 : y2.mv.oneCell' = true ∧ y2.bv.oneCell' = true := by rw [hy2, hy1]; exact ⟨rfl, rfl⟩
      repeat' (first|(refine ycf ?_;apply ybk;(·first|(first|exact tk_|(exact qv_len_bstr rfl)|(refine qv_min' rfl rfl hjb1)|(exact qv_str_to rfl rfl (by omega))|(apply yad;(·rfl);(·exact yaz 0 rfl);(·exact hl2)))|(apply yae;(·rfl);(·(first|exact sb_body0 (yaz 0 rfl) hb1))));(·rfl);(·rfl))|(first|(refine ybg 0 rfl rfl rfl rfl (sbv_fit (by omega)) rfl e1 rfl rfl ?_ ?_ ?_;(·(exact to_));(·(exact to_)))|(refine ybg 0 rfl rfl rfl rfl (sbv_fit (by omega)) rfl e2 rfl rfl ?_ ?_ ?_;(·(exact to_));(·(exact to_))))|refine t1_ ?_|(refine ta_ ?_;intro _)|((fail_if_success (refine ybi rfl ?_));refine ybj rfl ?_ ?_<;>(intro ht;rw [ht];first|replace ht := oet_ ht|replace ht := oef_ ht|skip))|(refine ych ?_;first|(refine ybw rfl ?_ ?_<;>intro ht)|(refine ybx rfl ?_ ?_<;>intro ht)))
      refine yba (ybd rfl rfl rfl (ybe rfl (sbc_sz y2))) rfl rfl rfl ybf (fun _ => ybf) ?_
      intro b43
      refine rx_append (sz := 20) 2 rfl rfl rfl (yaz 0 rfl) (by show (sbc y2).length = 1 * 20; omega) (fun u hu => List.all_eq_true.1 (sbc_one ho2.1 ho2.2) u hu) rfl (by omega) (by unfold maxLen; omega) (by omega) rfl rfl rfl ybf (fun _ => ybf) ?_
      intro v9 _
      repeat' (first|(refine ycf ?_;apply ybk;(·first|(first|exact tk_|(exact qv_len_bstr rfl)|(refine qv_min' rfl rfl hjb1)|(exact qv_str_to rfl rfl (by omega))|(apply yad;(·rfl);(·exact yaz 0 rfl);(·exact hl2)))|(apply yae;(·rfl);(·(first|exact sb_body0 (yaz 0 rfl) hb1))));(·rfl);(·rfl))|(first|(refine ybg 0 rfl rfl rfl rfl (sbv_fit (by omega)) rfl e1 rfl rfl ?_ ?_ ?_;(·(exact to_));(·(exact to_)))|(refine ybg 0 rfl rfl rfl rfl (sbv_fit (by omega)) rfl e2 rfl rfl ?_ ?_ ?_;(·(exact to_));(·(exact to_))))|refine t1_ ?_|(refine ta_ ?_;intro _)|((fail_if_success (refine ybi rfl ?_));refine ybj rfl ?_ ?_<;>(intro ht;rw [ht];first|replace ht := oet_ ht|replace ht := oef_ ht|skip))|(refine ych ?_;first|(refine ybw rfl ?_ ?_<;>intro ht)|(refine ybx rfl ?_ ?_<;>intro ht)))
      have hy2v : Rv h3 y2 := by
        rw [hy2, hy1]
        exact ⟨hs4', rfl, fun b hb => hxv.by8 b (List.mem_of_mem_take hb)⟩
      have hy2a : y2.a = cutA 40 100 e0.a := by
        rw [hy2, hy1]
        show (e0.d, e0.u, e0.l.take 40, e0.b.take jb) = (e0.d, e0.u, e0.l.take 40, e0.b.take 100)
        rw [hjbt]
      refine nx_round (k + 1, h3, v9, O ++ [y2]) ⟨by show k + 1 ≤ _; omega, by show k + 1 ≤ 20; omega, p2.trans hle3, fun o ho => ?_, ?_⟩ (by show 20 - (k + 1) < 20 - k; omega) ts_ (fun _ s => ?_)
      · rcases List.mem_append.1 ho with ho | ho
        · exact (p3 o ho).mono hle3
        · rw [List.mem_singleton.1 ho]; exact hy2v
      · dsimp only
        rw [htk, List.map_append]
        simp [hy2a]
      · have s2 := s.tl.tl
        dsimp only
        rw [List.length_append, List.flatMap_append, show [y2].flatMap sbc = sbc y2 by simp]
        exact s2
    · iterate 4 (first|(refine ycf ?_;apply ybk;(·first|(first|exact tk_|(exact qv_len_bstr rfl)|(refine qv_min' rfl rfl hjb1)|(exact qv_str_to rfl rfl (by omega))|(apply yad;(·rfl);(·exact yaz 0 rfl);(·exact hl2)))|(apply yae;(·rfl);(·(first|exact sb_body0 (yaz 0 rfl) hb1))));(·rfl);(·rfl))|(first|(refine ybg 0 rfl rfl rfl rfl (sbv_fit (by omega)) rfl e1 rfl rfl ?_ ?_ ?_;(·(exact to_));(·(exact to_)))|(refine ybg 0 rfl rfl rfl rfl (sbv_fit (by omega)) rfl e2 rfl rfl ?_ ?_ ?_;(·(exact to_));(·(exact to_))))|refine t1_ ?_|(refine ta_ ?_;intro _)|((fail_if_success (refine ybi rfl ?_));refine ybj rfl ?_ ?_<;>(intro ht;rw [ht];first|replace ht := oet_ ht|replace ht := oef_ ht|skip))|(refine ych ?_;first|(refine ybw rfl ?_ ?_<;>intro ht)|(refine ybx rfl ?_ ?_<;>intro ht)))
      refine rx_persist rfl fun h6 hle6 hs6 => ?_
      repeat' (first|(refine ycf ?_;apply ybk;(·first|(first|exact tk_|(exact qv_len_bstr rfl)|(refine qv_min' rfl rfl hjb1)|(exact qv_str_to rfl rfl (by omega))|(apply yad;(·rfl);(·exact yaz 0 rfl);(·exact hl2)))|(apply yae;(·rfl);(·(first|exact sb_body0 (yaz 0 rfl) hb1))));(·rfl);(·rfl))|(first|(refine ybg 0 rfl rfl rfl rfl (sbv_fit (by omega)) rfl e1 rfl rfl ?_ ?_ ?_;(·(exact to_));(·(exact to_)))|(refine ybg 0 rfl rfl rfl rfl (sbv_fit (by omega)) rfl e2 rfl rfl ?_ ?_ ?_;(·(exact to_));(·(exact to_))))|refine t1_ ?_|(refine ta_ ?_;intro _)|((fail_if_success (refine ybi rfl ?_));refine ybj rfl ?_ ?_<;>(intro ht;rw [ht];first|replace ht := oet_ ht|replace ht := oef_ ht|skip))|(refine ych ?_;first|(refine ybw rfl ?_ ?_<;>intro ht)|(refine ybx rfl ?_ ?_<;>intro ht)))
      refine nx_ret1 rfl (rv_tmp rfl) (fun w' s' => ⟨(h6, vo, O), rfl, s'.nil, ⟨hs6, fun o ho => (p3 o ho).mono hle6⟩, ?_⟩)
      rw [p4, show k = 20 by omega]
  · iterate 4 (first|(refine ycf ?_;apply ybk;(·first|(first|exact tk_|(exact qv_len_bstr rfl)|(refine qv_min' rfl rfl hjb1)|(exact qv_str_to rfl rfl (by omega))|(apply yad;(·rfl);(·exact yaz 0 rfl);(·exact hl2)))|(apply yae;(·rfl);(·(first|exact sb_body0 (yaz 0 rfl) hb1))));(·rfl);(·rfl))|(first|(refine ybg 0 rfl rfl rfl rfl (sbv_fit (by omega)) rfl e1 rfl rfl ?_ ?_ ?_;(·(exact to_));(·(exact to_)))|(refine ybg 0 rfl rfl rfl rfl (sbv_fit (by omega)) rfl e2 rfl rfl ?_ ?_ ?_;(·(exact to_));(·(exact to_))))|refine t1_ ?_|(refine ta_ ?_;intro _)|((fail_if_success (refine ybi rfl ?_));refine ybj rfl ?_ ?_<;>(intro ht;rw [ht];first|replace ht := oet_ ht|replace ht := oef_ ht|skip))|(refine ych ?_;first|(refine ybw rfl ?_ ?_<;>intro ht)|(refine ybx rfl ?_ ?_<;>intro ht)))
    refine rx_persist rfl fun h6 hle6 hs6 => ?_
    repeat' (first|(refine ycf ?_;apply ybk;(·first|(first|exact tk_|(exact qv_len_bstr rfl)|(refine qv_min' rfl rfl hjb1)|(exact qv_str_to rfl rfl (by omega))|(apply yad;(·rfl);(·exact yaz 0 rfl);(·exact hl2)))|(apply yae;(·rfl);(·(first|exact sb_body0 (yaz 0 rfl) hb1))));(·rfl);(·rfl))|(first|(refine ybg 0 rfl rfl rfl rfl (sbv_fit (by omega)) rfl e1 rfl rfl ?_ ?_ ?_;(·(exact to_));(·(exact to_)))|(refine ybg 0 rfl rfl rfl rfl (sbv_fit (by omega)) rfl e2 rfl rfl ?_ ?_ ?_;(·(exact to_));(·(exact to_))))|refine t1_ ?_|(refine ta_ ?_;intro _)|((fail_if_success (refine ybi rfl ?_));refine ybj rfl ?_ ?_<;>(intro ht;rw [ht];first|replace ht := oet_ ht|replace ht := oef_ ht|skip))|(refine ych ?_;first|(refine ybw rfl ?_ ?_<;>intro ht)|(refine ybx rfl ?_ ?_<;>intro ht)))
    refine nx_ret1 rfl (rv_tmp rfl) (fun w' s' => ⟨(h6, vo, O), rfl, s'.nil, ⟨hs6, fun o ho => (p3 o ho).mono hle6⟩, ?_⟩)
    rw [p4, List.take_of_length_le (by omega), List.take_of_length_le (by omega)]
end Go.Proofs.YtkkjppeaaicgaaaGreatDoor
end
