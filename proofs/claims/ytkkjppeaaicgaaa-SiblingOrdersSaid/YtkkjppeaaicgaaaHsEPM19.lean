/-
  Part 19 of a proof: SbRc SbRd CkFlX.
  Conditions: each theorem states its own.
-/
import Derived.Test.YtkkjppeaaicgaaaHsEPM18
section
namespace Go.Proofs.Ytkkjppeaaicgaaa
open Go Go.Ck
set_option maxRecDepth 100000
set_option maxHeartbeats 4000000
set_option linter.unusedVariables false

theorem cx_rowslice {P : Program} {n : Nat} {K : Bs} {F : List (Nat × Value)} {h : View} {L : List Res} {Q : Exit → Act → World → Prop} {c : Code} {e : TypeId} {sz m : Nat} {v : Value} {xs : List Value} (k : Nat) (hk : L[k]? = some (Res.row e sz v m xs)) (hx : ∀ ad cap, v = .slice ad m cap → CX P n K c F h L Q) : CX P n K c F h L Q :=
  cx_rowform k hk (fun h1 h2 _ => hx none 0 (by rw [h1, h2])) (fun g' cap hv => hx _ cap hv)
abbrev rowR (v : Value) (l : List Sb) : Res := Res.row 71 20 v l.length (l.flatMap sbc)
theorem row_elR {h : View} {L : List Res} {g : Nat} {l : List Sb} {i j : Nat} {x : Sb} (c : Cells h L ⟨g, 0, none⟩ (l.flatMap sbc)) (hx : l[i]? = some x) (hj : j = i) : Cells h L ⟨g, 0 + j * 20, none⟩ (sbc x) := row_el c hx hj
theorem one_sbs {h : View} {l : List Sb} (hs : ∀ x ∈ l, Rv h x) : ∀ u ∈ l.flatMap sbc, u.oneCell' = true := fun u hu => by
  obtain ⟨x, hx, hu⟩ := List.mem_flatMap.1 hu
  have := (hs x hx).one
  exact List.all_eq_true.1 (sbc_one this.1 this.2) u hu
theorem row_partR {h : View} {g cap m : Nat} {l : List Sb} {i o : Nat} {x : Sb} (hx : l[i]? = some x) (ho : o = 0 + i * 20) : ∀ w, Hd h [Res.row 71 20 (.slice (some ⟨g, 0, none⟩) m cap) m (l.flatMap sbc)] w → Hd h [Res.part g o (.int .i64 x.d.1) ((sbc x).tail)] w := fun w s => ⟨s.view, fun r hr => by
  have hr : r = Res.part g o (.int .i64 x.d.1) ((sbc x).tail) := by simpa using hr
  subst hr
  intro j u hj
  subst ho
  have hc := row_el (h := h) (L := [Res.row 71 20 (.slice (some ⟨g, 0, none⟩) m cap) m (l.flatMap sbc)]) (row_cells 0 rfl) hx rfl
  have := hc w s j u hj
  rwa [Addr.add_off] at this⟩

theorem rmerge_sp (va vb : Value) (a b : List Sb) (h : View) (ha : Rs h va a) (hb : Rs h vb b) (fa : Fits a) (fb : Fits b) (w : World) (s : St ⟨w, h, []⟩ h [] w) :
    Calls Try.prog 27 [va, vb].toArray w fun e w' => ∃ z : View × Value × List Sb, e = .returned (.tuple #[z.2.1, .int .i64 (mergeF (a.map Sb.a) (b.map Sb.a)).2]) ∧ St ⟨w, h, []⟩ z.1 [] w' ∧ Rs z.1 z.2.1 z.2.2 ∧ z.2.2.map Sb.a = (mergeF (a.map Sb.a) (b.map Sb.a)).1 := by
  have CA := rcheck_sp va a h ha (by have := fa.1; omega) (fun x hx => by have := fa.2 x hx; omega)
  have CB := rcheck_sp vb b h hb (by have := fb.1; omega) (fun x hx => by have := fb.2 x hx; omega)
  obtain ⟨hsa, hva⟩ := ha
  obtain ⟨hsb, hvb⟩ := hb
  obtain ⟨_, ada, capa, rfl, hcapa, _⟩ := id hsa
  obtain ⟨_, adb, capb, rfl, hcapb, _⟩ := id hsb
  have fa1 := fa.1
  have fb1 := fb.1
  have n0 : Rs h (.slice none 0 0) [] := ⟨Sc.nil h 20 none 0, fun x hx => by cases hx⟩
  refine calls_enter Try.func27 rfl Try.ntmps27 rfl s ?_
  by_cases ca : checkA (a.map Sb.a) = 0
  · by_cases cb : checkA (b.map Sb.a) = 0
    · rw [ca] at CA
      rw [cb] at CB
      have la := (checkA_ok ca).1
      have lb := (checkA_ok cb).1
      rw [List.length_map] at la lb
      have hrt : ∀ x ∈ a ++ b, rightA x.a = true := fun x hx => by
        rcases List.mem_append.1 hx with hx | hx
        · exact (checkA_ok ca).2.1 x.a (List.mem_map_of_mem hx)
        · exact (checkA_ok cb).2.1 x.a (List.mem_map_of_mem hx)
      have hfit : ∀ x ∈ a ++ b, x.l.length ≤ 1000000 := fun x hx => by
        rcases List.mem_append.1 hx with hx | hx
        · exact (fa.2 x hx).1
        · exact (fb.2 x hx).1
      repeat' (first | (refine ycf ?_; apply ybk; (· first | (exact tk_)); (· rfl); (· rfl)) | refine t1_ ?_ | (refine ta_ ?_; intro _) | ((fail_if_success (refine ybi rfl ?_)); refine ybj rfl ?_ ?_ <;> (intro ht; rw [ht]; first | replace ht := of_decide_eq_true ht | replace ht := of_decide_eq_false ht | skip)) | (refine ych ?_; first | (refine ybw rfl ?_ ?_ <;> intro ht) | (refine ybx rfl ?_ ?_ <;> intro ht)))
      (refine ycn (ycp Try.func52 rfl (by kernel_rfl) rfl) (CA) rfl rfl rfl ?_ ?_; (· (exact to_)))
      repeat' (first | (refine ycf ?_; apply ybk; (· first | (exact tk_)); (· rfl); (· rfl)) | refine t1_ ?_ | (refine ta_ ?_; intro _) | ((fail_if_success (refine ybi rfl ?_)); refine ybj rfl ?_ ?_ <;> (intro ht; rw [ht]; first | replace ht := of_decide_eq_true ht | replace ht := of_decide_eq_false ht | skip)) | (refine ych ?_; first | (refine ybw rfl ?_ ?_ <;> intro ht) | (refine ybx rfl ?_ ?_ <;> intro ht)))
      (refine ycn (ycp Try.func52 rfl (by kernel_rfl) rfl) (CB) rfl rfl rfl ?_ ?_; (· (exact to_)))
      repeat' (first | (refine ycf ?_; apply ybk; (· first | (exact tk_)); (· rfl); (· rfl)) | refine t1_ ?_ | (refine ta_ ?_; intro _) | ((fail_if_success (refine ybi rfl ?_)); refine ybj rfl ?_ ?_ <;> (intro ht; rw [ht]; first | replace ht := of_decide_eq_true ht | replace ht := of_decide_eq_false ht | skip)) | (refine ych ?_; first | (refine ybw rfl ?_ ?_ <;> intro ht) | (refine ybx rfl ?_ ?_ <;> intro ht)))
      refine yba ma_buildSlice0 rfl rfl rfl ybf (fun _ => ybf) ?_
      intro b22
      refine rx_rowOf 20 0 0 (by omega) (by unfold maxLen; omega) rfl ?_
      repeat' (first | (refine ycf ?_; apply ybk; (· first | (exact tk_)); (· rfl); (· rfl)) | refine t1_ ?_ | (refine ta_ ?_; intro _) | ((fail_if_success (refine ybi rfl ?_)); refine ybj rfl ?_ ?_ <;> (intro ht; rw [ht]; first | replace ht := of_decide_eq_true ht | replace ht := of_decide_eq_false ht | skip)) | (refine ych ?_; first | (refine ybw rfl ?_ ?_ <;> intro ht) | (refine ybx rfl ?_ ?_ <;> intro ht)))
      refine rx_append_sc (sz := 20) (m := a.length) (news := a.flatMap sbc) 0 rfl rfl rfl hsa (one_sbs hva) rfl (by omega) (by unfold maxLen; omega) (by omega) rfl rfl rfl ybf (fun _ => ybf) ?_
      intro v1 _
      repeat' (first | (refine ycf ?_; apply ybk; (· first | (exact tk_)); (· rfl); (· rfl)) | refine t1_ ?_ | (refine ta_ ?_; intro _) | ((fail_if_success (refine ybi rfl ?_)); refine ybj rfl ?_ ?_ <;> (intro ht; rw [ht]; first | replace ht := of_decide_eq_true ht | replace ht := of_decide_eq_false ht | skip)) | (refine ych ?_; first | (refine ybw rfl ?_ ?_ <;> intro ht) | (refine ybx rfl ?_ ?_ <;> intro ht)))
      refine rx_append_sc (sz := 20) (m := b.length) (news := b.flatMap sbc) 0 rfl rfl rfl hsb (one_sbs hvb) rfl (by omega) (by unfold maxLen; omega) (by omega) rfl rfl rfl ybf (fun _ => ybf) ?_
      intro v2 _
      refine rx_persist rfl fun h1 hle1 hs1 => ?_
      have hAll : Rs h1 v2 (a ++ b) := ⟨by
        rw [List.length_append, List.flatMap_append]
        simpa using hs1, fun x hx => by
        rcases List.mem_append.1 hx with hx | hx
        · exact (hva x hx).mono hle1
        · exact (hvb x hx).mono hle1⟩
      have eAll : (a ++ b).map Sb.a = a.map Sb.a ++ b.map Sb.a := List.map_append
      have nAll : (a ++ b).length ≤ 128 := by rw [List.length_append]; omega
      have hend : ∀ O : List Sb, OutR ((a ++ b).map Sb.a) ((a ++ b).map Sb.a).length (O.map Sb.a) → mergeF (a.map Sb.a) (b.map Sb.a) = if 64 < (O.map Sb.a).length then ([], 5) else (O.map Sb.a, 0) := fun O hO => by
        rw [eAll] at hO
        exact hO.done ca cb
      generalize hS : a ++ b = S at hAll eAll nAll hrt hfit hend
      clear hs1
      obtain ⟨hS1, hSv⟩ := hAll
      obtain ⟨_, ads, caps, hv2, hcaps, _⟩ := id hS1
      subst hv2
      repeat' (first | (refine ycf ?_; apply ybk; (· first | (exact tk_)); (· rfl); (· rfl)) | refine t1_ ?_ | (refine ta_ ?_; intro _) | ((fail_if_success (refine ybi rfl ?_)); refine ybj rfl ?_ ?_ <;> (intro ht; rw [ht]; first | replace ht := of_decide_eq_true ht | replace ht := of_decide_eq_false ht | skip)) | (refine ych ?_; first | (refine ybw rfl ?_ ?_ <;> intro ht) | (refine ybx rfl ?_ ?_ <;> intro ht)))
      refine cx_row 71 20 ?_
      refine cx_loop (X := Nat × Value × List Sb) (fun y => [(8, .slice ads S.length caps), (9, y.2.1), (10, .int .i64 (y.1 : Nat))]) (fun _ => h1) (fun y => [rowR y.2.1 y.2.2])
        (fun y => y.1 ≤ S.length ∧ y.2.2.length ≤ y.1 ∧ (∀ o ∈ y.2.2, o ∈ S) ∧ OutR (S.map Sb.a) y.1 (y.2.2.map Sb.a)) (fun y => S.length - y.1) (0, .slice none 0 0, []) ⟨Nat.zero_le _, Nat.le_refl _, fun o ho => (by cases ho), OutR.zero⟩ ts_ (fun _ s => s) ?_
      rintro ⟨i, vo, O⟩ ⟨p1, p2, p3, p4⟩
      dsimp only at p1 p2 p3 p4 ⊢
      by_cases hil : i < S.length
      · obtain ⟨bs, o, rfl⟩ := hS1.ad (by omega) (by omega)
        have hel : ∀ L, Cells h1 L ⟨bs, o + i * 20, none⟩ (sbc S[i]) := fun L => hS1.elem sbc_len i hil
        have hxm := List.getElem_mem hil
        have hxv := hSv _ hxm
        have hxr : rightB S[i].d = true := (rightA_ok (hrt _ hxm)).1
        have hxi : (S.map Sb.a)[i]? = some S[i].a := by rw [List.getElem?_map, List.getElem?_eq_getElem hil]; rfl
        generalize S[i] = x0 at hel hxm hxv hxr hxi
        have hxl := sbc_len x0
        have hxo := hxv.one
        repeat' (first | (refine ycf ?_; apply ybk; (· first | (exact tk_)); (· rfl); (· rfl)) | refine t1_ ?_ | (refine ta_ ?_; intro _) | ((fail_if_success (refine ybi rfl ?_)); refine ybj rfl ?_ ?_ <;> (intro ht; rw [ht]; first | replace ht := of_decide_eq_true ht | replace ht := of_decide_eq_false ht | skip)) | (refine ych ?_; first | (refine ybw rfl ?_ ?_ <;> intro ht) | (refine ybx rfl ?_ ?_ <;> intro ht)))
        refine cx_loop (X := Nat × Bool) (fun y => [(8, .slice (some ⟨bs, o, none⟩) S.length caps), (9, vo), (10, .int .i64 i), (11, .bool y.2), (12, .int .i64 (y.1 : Nat))]) (fun _ => h1) (fun y => [rowR vo O])
          (fun y => y.1 ≤ S.length ∧ (y.2 = true ↔ keepK (S.map Sb.a) i x0.a y.1)) (fun y => S.length - y.1) (0, true) ⟨Nat.zero_le _, by simp [keepK_zero]⟩ ts_ (fun _ s => s) ?_
        rintro ⟨k, kp⟩ ⟨hk, hkp⟩
        dsimp only at hk hkp ⊢
        by_cases hkl : k < S.length
        · have hel2 : ∀ L, Cells h1 L ⟨bs, o + k * 20, none⟩ (sbc S[k]) := fun L => hS1.elem sbc_len k hkl
          have hym := List.getElem_mem hkl
          have hyv := hSv _ hym
          have hA := hasA_of (hrt _ hym) hxr
          have H1 := refHas_sp _ S[k].u S[k].l x0.d h1 ⟨S[k].hu, _, rfl, hyv.ds⟩ (by have := hfit _ hym; omega) hxr
          rw [← hA] at H1
          have hyk : (S.map Sb.a)[k]? = some S[k].a := by rw [List.getElem?_map, List.getElem?_eq_getElem hkl]; rfl
          have hks := keepK_succ (i := i) (x := x0.a) hyk
          generalize S[k] = y0 at hel2 hym hyv hA H1 hyk hks
          have hu := y0.hu
          have hkq : ∀ b : Bool, (b = true ↔ keepK (S.map Sb.a) i x0.a (k + 1)) → (k + 1, b).1 ≤ S.length ∧ ((k + 1, b).2 = true ↔ keepK (S.map Sb.a) i x0.a (k + 1, b).1) := fun b hb => ⟨by show k + 1 ≤ _; omega, hb⟩
          have hks2 : keepK (S.map Sb.a) i x0.a (k + 1) ↔ keepK (S.map Sb.a) i x0.a k ∧ hasA y0.a x0.d = false ∧ (i ≤ k ∨ y0.d ≠ x0.d) := hks
          have hdec : S.length - (k + 1) < S.length - k := by omega
          cases kp with
          | false =>
            have hno : ¬ keepK (S.map Sb.a) i x0.a (k + 1) := fun hq => by
              have := hkp.2 (hks2.1 hq).1
              cases this
            repeat' (first | (refine ycf ?_; apply ybk; (· first | (first | exact tk_ | (apply yad; (· rfl); (· exact sb_past (hel2 _)); (· exact ycj hu)) | (apply yad; (· rfl); (· exact sb_dot (hel _)); (· rfl)))); (· rfl); (· rfl)) | refine t1_ ?_ | (refine ta_ ?_; intro _) | ((fail_if_success (refine ybi rfl ?_)); refine ybj rfl ?_ ?_ <;> (intro ht; rw [ht]; first | replace ht := of_decide_eq_true ht | replace ht := of_decide_eq_false ht | skip)) | (refine ych ?_; first | (refine ybw rfl ?_ ?_ <;> intro ht) | (refine ybx rfl ?_ ?_ <;> intro ht)))
            refine cx_region_draw' rfl (by kernel_rfl) ?_
            repeat' (refine ycf ?_;(first|(first|(apply ybm;(·(first|(first|exact tk_|(apply yad;(·rfl);(·exact sb_past (hel2 _));(·exact ycj hu))|(apply yad;(·rfl);(·exact sb_dot (hel _));(·rfl)))|exact tq_));(·rfl);(·rfl);(·(exact th_)))|refine ybl rfl rfl ?_|((fail_if_success (refine ybi rfl ?_));refine ybj rfl ?_ ?_<;>(intro ht;rw [ht];first|replace ht := of_decide_eq_true ht|replace ht := of_decide_eq_false ht|skip))|(refine tb_ ?_ ?_ ?_;(·(exact to_));(·intro _;(exact to_));intro _)|(first|(refine tqs_ ?_ ?_ ?_;(·(exact to_));(·(exact to_))))|(apply ybn;(·(first|(first|exact tk_|(apply yad;(·rfl);(·exact sb_past (hel2 _));(·exact ycj hu))|(apply yad;(·rfl);(·exact sb_dot (hel _));(·rfl)))|exact tq_));(·rfl);(·rfl);(·rfl);(·(exact to_))))|refine ycg ?_))
            repeat' (first | (refine ycf ?_; apply ybk; (· first | (first | exact tk_ | (apply yad; (· rfl); (· exact sb_past (hel2 _)); (· exact ycj hu)) | (apply yad; (· rfl); (· exact sb_dot (hel _)); (· rfl)))); (· rfl); (· rfl)) | refine t1_ ?_ | (refine ta_ ?_; intro _) | ((fail_if_success (refine ybi rfl ?_)); refine ybj rfl ?_ ?_ <;> (intro ht; rw [ht]; first | replace ht := of_decide_eq_true ht | replace ht := of_decide_eq_false ht | skip)) | (refine ych ?_; first | (refine ybw rfl ?_ ?_ <;> intro ht) | (refine ybx rfl ?_ ?_ <;> intro ht)))
            exact nx_round (k + 1, false) (hkq false (by simp [hno])) hdec ts_ (fun _ s => s)
          | true =>
            have hyes := hkp.1 rfl
            cases hq : hasA y0.a x0.d with
            | true =>
              rw [hq] at H1
              repeat' (first | (refine ycf ?_; apply ybk; (· first | (first | exact tk_ | (apply yad; (· rfl); (· exact sb_past (hel2 _)); (· exact ycj hu)) | (apply yad; (· rfl); (· exact sb_dot (hel _)); (· rfl)))); (· rfl); (· rfl)) | refine t1_ ?_ | (refine ta_ ?_; intro _) | ((fail_if_success (refine ybi rfl ?_)); refine ybj rfl ?_ ?_ <;> (intro ht; rw [ht]; first | replace ht := of_decide_eq_true ht | replace ht := of_decide_eq_false ht | skip)) | (refine ych ?_; first | (refine ybw rfl ?_ ?_ <;> intro ht) | (refine ybx rfl ?_ ?_ <;> intro ht)))
              refine cx_region_draw' rfl (by kernel_rfl) ?_
              repeat' (refine ycf ?_;(first|(first|(apply ybm;(·(first|(first|exact tk_|(apply yad;(·rfl);(·exact sb_past (hel2 _));(·exact ycj hu))|(apply yad;(·rfl);(·exact sb_dot (hel _));(·rfl)))|exact tq_));(·rfl);(·rfl);(·(exact th_)))|refine ybl rfl rfl ?_|((fail_if_success (refine ybi rfl ?_));refine ybj rfl ?_ ?_<;>(intro ht;rw [ht];first|replace ht := of_decide_eq_true ht|replace ht := of_decide_eq_false ht|skip))|(refine tb_ ?_ ?_ ?_;(·(exact to_));(·intro _;(exact to_));intro _)|(first|(refine tqs_ ?_ ?_ ?_;(·(exact to_));(·(exact to_))))|(apply ybn;(·(first|(first|exact tk_|(apply yad;(·rfl);(·exact sb_past (hel2 _));(·exact ycj hu))|(apply yad;(·rfl);(·exact sb_dot (hel _));(·rfl)))|exact tq_));(·rfl);(·rfl);(·rfl);(·(exact to_))))|refine ycg ?_))
              (refine ycn (ycp Try.func30 rfl (by kernel_rfl) rfl) (H1) rfl rfl rfl ?_ ?_; (· (exact to_)))
              repeat' (refine ycf ?_;(first|(first|(apply ybm;(·(first|(first|exact tk_|(apply yad;(·rfl);(·exact sb_past (hel2 _));(·exact ycj hu))|(apply yad;(·rfl);(·exact sb_dot (hel _));(·rfl)))|exact tq_));(·rfl);(·rfl);(·(exact th_)))|refine ybl rfl rfl ?_|((fail_if_success (refine ybi rfl ?_));refine ybj rfl ?_ ?_<;>(intro ht;rw [ht];first|replace ht := of_decide_eq_true ht|replace ht := of_decide_eq_false ht|skip))|(refine tb_ ?_ ?_ ?_;(·(exact to_));(·intro _;(exact to_));intro _)|(first|(refine tqs_ ?_ ?_ ?_;(·(exact to_));(·(exact to_))))|(apply ybn;(·(first|(first|exact tk_|(apply yad;(·rfl);(·exact sb_past (hel2 _));(·exact ycj hu))|(apply yad;(·rfl);(·exact sb_dot (hel _));(·rfl)))|exact tq_));(·rfl);(·rfl);(·rfl);(·(exact to_))))|refine ycg ?_))
              repeat' (first | (refine ycf ?_; apply ybk; (· first | (first | exact tk_ | (apply yad; (· rfl); (· exact sb_past (hel2 _)); (· exact ycj hu)) | (apply yad; (· rfl); (· exact sb_dot (hel _)); (· rfl)))); (· rfl); (· rfl)) | refine t1_ ?_ | (refine ta_ ?_; intro _) | ((fail_if_success (refine ybi rfl ?_)); refine ybj rfl ?_ ?_ <;> (intro ht; rw [ht]; first | replace ht := of_decide_eq_true ht | replace ht := of_decide_eq_false ht | skip)) | (refine ych ?_; first | (refine ybw rfl ?_ ?_ <;> intro ht) | (refine ybx rfl ?_ ?_ <;> intro ht)))
              exact nx_round (k + 1, false) (hkq false (by rw [hks2, hq]; simp)) hdec ts_ (fun _ s => s)
            | false =>
              rw [hq] at H1
              by_cases hik : i ≤ k
              · repeat' (first | (refine ycf ?_; apply ybk; (· first | (first | exact tk_ | (apply yad; (· rfl); (· exact sb_past (hel2 _)); (· exact ycj hu)) | (apply yad; (· rfl); (· exact sb_dot (hel _)); (· rfl)))); (· rfl); (· rfl)) | refine t1_ ?_ | (refine ta_ ?_; intro _) | ((fail_if_success (refine ybi rfl ?_)); refine ybj rfl ?_ ?_ <;> (intro ht; rw [ht]; first | replace ht := of_decide_eq_true ht | replace ht := of_decide_eq_false ht | skip)) | (refine ych ?_; first | (refine ybw rfl ?_ ?_ <;> intro ht) | (refine ybx rfl ?_ ?_ <;> intro ht)))
                refine cx_region_draw' rfl (by kernel_rfl) ?_
                repeat' (refine ycf ?_;(first|(first|(apply ybm;(·(first|(first|exact tk_|(apply yad;(·rfl);(·exact sb_past (hel2 _));(·exact ycj hu))|(apply yad;(·rfl);(·exact sb_dot (hel _));(·rfl)))|exact tq_));(·rfl);(·rfl);(·(exact th_)))|refine ybl rfl rfl ?_|((fail_if_success (refine ybi rfl ?_));refine ybj rfl ?_ ?_<;>(intro ht;rw [ht];first|replace ht := of_decide_eq_true ht|replace ht := of_decide_eq_false ht|skip))|(refine tb_ ?_ ?_ ?_;(·(exact to_));(·intro _;(exact to_));intro _)|(first|(refine tqs_ ?_ ?_ ?_;(·(exact to_));(·(exact to_))))|(apply ybn;(·(first|(first|exact tk_|(apply yad;(·rfl);(·exact sb_past (hel2 _));(·exact ycj hu))|(apply yad;(·rfl);(·exact sb_dot (hel _));(·rfl)))|exact tq_));(·rfl);(·rfl);(·rfl);(·(exact to_))))|refine ycg ?_))
                (refine ycn (ycp Try.func30 rfl (by kernel_rfl) rfl) (H1) rfl rfl rfl ?_ ?_; (· (exact to_)))
                repeat' (refine ycf ?_;(first|(first|(apply ybm;(·(first|(first|exact tk_|(apply yad;(·rfl);(·exact sb_past (hel2 _));(·exact ycj hu))|(apply yad;(·rfl);(·exact sb_dot (hel _));(·rfl)))|exact tq_));(·rfl);(·rfl);(·(exact th_)))|refine ybl rfl rfl ?_|((fail_if_success (refine ybi rfl ?_));refine ybj rfl ?_ ?_<;>(intro ht;rw [ht];first|replace ht := of_decide_eq_true ht|replace ht := of_decide_eq_false ht|skip))|(refine tb_ ?_ ?_ ?_;(·(exact to_));(·intro _;(exact to_));intro _)|(first|(refine tqs_ ?_ ?_ ?_;(·(exact to_));(·(exact to_))))|(apply ybn;(·(first|(first|exact tk_|(apply yad;(·rfl);(·exact sb_past (hel2 _));(·exact ycj hu))|(apply yad;(·rfl);(·exact sb_dot (hel _));(·rfl)))|exact tq_));(·rfl);(·rfl);(·rfl);(·(exact to_))))|refine ycg ?_))
                repeat' (first | (refine ycf ?_; apply ybk; (· first | (first | exact tk_ | (apply yad; (· rfl); (· exact sb_past (hel2 _)); (· exact ycj hu)) | (apply yad; (· rfl); (· exact sb_dot (hel _)); (· rfl)))); (· rfl); (· rfl)) | refine t1_ ?_ | (refine ta_ ?_; intro _) | ((fail_if_success (refine ybi rfl ?_)); refine ybj rfl ?_ ?_ <;> (intro ht; rw [ht]; first | replace ht := of_decide_eq_true ht | replace ht := of_decide_eq_false ht | skip)) | (refine ych ?_; first | (refine ybw rfl ?_ ?_ <;> intro ht) | (refine ybx rfl ?_ ?_ <;> intro ht)))
                exact nx_round (k + 1, true) (hkq true (by rw [hks2, hq]; simp [hyes, hik])) hdec ts_ (fun _ s => s)
              · by_cases hd : y0.d = x0.d
                · have hde : decide (y0.d = x0.d) = true := decide_eq_true hd
                  repeat' (first|(refine ycf ?_;apply ybk;(·first|(first|exact tk_|(refine qv_neq_agg (t := true) rfl rfl (fun w => by rw [← hde];exact dot_eq _ _ w))|(apply yad;(·rfl);(·exact sb_past (hel2 _));(·exact ycj hu))|(apply yad;(·rfl);(·exact sb_dot (hel _));(·rfl))|(apply yad;(·rfl);(·exact sb_dot (hel2 _));(·rfl))));(·rfl);(·rfl))|refine t1_ ?_|(refine ta_ ?_;intro _)|((fail_if_success (refine ybi rfl ?_));refine ybj rfl ?_ ?_<;>(intro ht;rw [ht];first|replace ht := of_decide_eq_true ht|replace ht := of_decide_eq_false ht|skip))|(refine ych ?_;first|(refine ybw rfl ?_ ?_<;>intro ht)|(refine ybx rfl ?_ ?_<;>intro ht)))
                  refine cx_region_draw' rfl (by kernel_rfl) ?_
                  repeat' (refine ycf ?_;(first|(first|(apply ybm;(·(first|(first|exact tk_|(refine qv_neq_agg (t := true) rfl rfl (fun w => by rw [← hde];exact dot_eq _ _ w))|(apply yad;(·rfl);(·exact sb_past (hel2 _));(·exact ycj hu))|(apply yad;(·rfl);(·exact sb_dot (hel _));(·rfl))|(apply yad;(·rfl);(·exact sb_dot (hel2 _));(·rfl)))|exact tq_));(·rfl);(·rfl);(·(exact th_)))|refine ybl rfl rfl ?_|((fail_if_success (refine ybi rfl ?_));refine ybj rfl ?_ ?_<;>(intro ht;rw [ht];first|replace ht := of_decide_eq_true ht|replace ht := of_decide_eq_false ht|skip))|(refine tb_ ?_ ?_ ?_;(·(exact to_));(·intro _;(exact to_));intro _)|(first|(refine tqs_ ?_ ?_ ?_;(·(exact to_));(·(exact to_))))|(apply ybn;(·(first|(first|exact tk_|(refine qv_neq_agg (t := true) rfl rfl (fun w => by rw [← hde];exact dot_eq _ _ w))|(apply yad;(·rfl);(·exact sb_past (hel2 _));(·exact ycj hu))|(apply yad;(·rfl);(·exact sb_dot (hel _));(·rfl))|(apply yad;(·rfl);(·exact sb_dot (hel2 _));(·rfl)))|exact tq_));(·rfl);(·rfl);(·rfl);(·(exact to_))))|refine ycg ?_))
                  (refine ycn (ycp Try.func30 rfl (by kernel_rfl) rfl) (H1) rfl rfl rfl ?_ ?_; (· (exact to_)))
                  repeat' (refine ycf ?_;(first|(first|(apply ybm;(·(first|(first|exact tk_|(refine qv_neq_agg (t := true) rfl rfl (fun w => by rw [← hde];exact dot_eq _ _ w))|(apply yad;(·rfl);(·exact sb_past (hel2 _));(·exact ycj hu))|(apply yad;(·rfl);(·exact sb_dot (hel _));(·rfl))|(apply yad;(·rfl);(·exact sb_dot (hel2 _));(·rfl)))|exact tq_));(·rfl);(·rfl);(·(exact th_)))|refine ybl rfl rfl ?_|((fail_if_success (refine ybi rfl ?_));refine ybj rfl ?_ ?_<;>(intro ht;rw [ht];first|replace ht := of_decide_eq_true ht|replace ht := of_decide_eq_false ht|skip))|(refine tb_ ?_ ?_ ?_;(·(exact to_));(·intro _;(exact to_));intro _)|(first|(refine tqs_ ?_ ?_ ?_;(·(exact to_));(·(exact to_))))|(apply ybn;(·(first|(first|exact tk_|(refine qv_neq_agg (t := true) rfl rfl (fun w => by rw [← hde];exact dot_eq _ _ w))|(apply yad;(·rfl);(·exact sb_past (hel2 _));(·exact ycj hu))|(apply yad;(·rfl);(·exact sb_dot (hel _));(·rfl))|(apply yad;(·rfl);(·exact sb_dot (hel2 _));(·rfl)))|exact tq_));(·rfl);(·rfl);(·rfl);(·(exact to_))))|refine ycg ?_))
                  repeat' (first|(refine ycf ?_;apply ybk;(·first|(first|exact tk_|(refine qv_neq_agg (t := true) rfl rfl (fun w => by rw [← hde];exact dot_eq _ _ w))|(apply yad;(·rfl);(·exact sb_past (hel2 _));(·exact ycj hu))|(apply yad;(·rfl);(·exact sb_dot (hel _));(·rfl))|(apply yad;(·rfl);(·exact sb_dot (hel2 _));(·rfl))));(·rfl);(·rfl))|refine t1_ ?_|(refine ta_ ?_;intro _)|((fail_if_success (refine ybi rfl ?_));refine ybj rfl ?_ ?_<;>(intro ht;rw [ht];first|replace ht := of_decide_eq_true ht|replace ht := of_decide_eq_false ht|skip))|(refine ych ?_;first|(refine ybw rfl ?_ ?_<;>intro ht)|(refine ybx rfl ?_ ?_<;>intro ht)))
                  exact nx_round (k + 1, false) (hkq false (by rw [hks2, hq]; simp [hik, hd])) hdec ts_ (fun _ s => s)
                · have hde : decide (y0.d = x0.d) = false := decide_eq_false hd
                  repeat' (first|(refine ycf ?_;apply ybk;(·first|(first|exact tk_|(refine qv_neq_agg (t := false) rfl rfl (fun w => by rw [← hde];exact dot_eq _ _ w))|(apply yad;(·rfl);(·exact sb_past (hel2 _));(·exact ycj hu))|(apply yad;(·rfl);(·exact sb_dot (hel _));(·rfl))|(apply yad;(·rfl);(·exact sb_dot (hel2 _));(·rfl))));(·rfl);(·rfl))|refine t1_ ?_|(refine ta_ ?_;intro _)|((fail_if_success (refine ybi rfl ?_));refine ybj rfl ?_ ?_<;>(intro ht;rw [ht];first|replace ht := of_decide_eq_true ht|replace ht := of_decide_eq_false ht|skip))|(refine ych ?_;first|(refine ybw rfl ?_ ?_<;>intro ht)|(refine ybx rfl ?_ ?_<;>intro ht)))
                  refine cx_region_draw' rfl (by kernel_rfl) ?_
                  repeat' (refine ycf ?_;(first|(first|(apply ybm;(·(first|(first|exact tk_|(refine qv_neq_agg (t := false) rfl rfl (fun w => by rw [← hde];exact dot_eq _ _ w))|(apply yad;(·rfl);(·exact sb_past (hel2 _));(·exact ycj hu))|(apply yad;(·rfl);(·exact sb_dot (hel _));(·rfl))|(apply yad;(·rfl);(·exact sb_dot (hel2 _));(·rfl)))|exact tq_));(·rfl);(·rfl);(·(exact th_)))|refine ybl rfl rfl ?_|((fail_if_success (refine ybi rfl ?_));refine ybj rfl ?_ ?_<;>(intro ht;rw [ht];first|replace ht := of_decide_eq_true ht|replace ht := of_decide_eq_false ht|skip))|(refine tb_ ?_ ?_ ?_;(·(exact to_));(·intro _;(exact to_));intro _)|(first|(refine tqs_ ?_ ?_ ?_;(·(exact to_));(·(exact to_))))|(apply ybn;(·(first|(first|exact tk_|(refine qv_neq_agg (t := false) rfl rfl (fun w => by rw [← hde];exact dot_eq _ _ w))|(apply yad;(·rfl);(·exact sb_past (hel2 _));(·exact ycj hu))|(apply yad;(·rfl);(·exact sb_dot (hel _));(·rfl))|(apply yad;(·rfl);(·exact sb_dot (hel2 _));(·rfl)))|exact tq_));(·rfl);(·rfl);(·rfl);(·(exact to_))))|refine ycg ?_))
                  (refine ycn (ycp Try.func30 rfl (by kernel_rfl) rfl) (H1) rfl rfl rfl ?_ ?_; (· (exact to_)))
                  repeat' (refine ycf ?_;(first|(first|(apply ybm;(·(first|(first|exact tk_|(refine qv_neq_agg (t := false) rfl rfl (fun w => by rw [← hde];exact dot_eq _ _ w))|(apply yad;(·rfl);(·exact sb_past (hel2 _));(·exact ycj hu))|(apply yad;(·rfl);(·exact sb_dot (hel _));(·rfl))|(apply yad;(·rfl);(·exact sb_dot (hel2 _));(·rfl)))|exact tq_));(·rfl);(·rfl);(·(exact th_)))|refine ybl rfl rfl ?_|((fail_if_success (refine ybi rfl ?_));refine ybj rfl ?_ ?_<;>(intro ht;rw [ht];first|replace ht := of_decide_eq_true ht|replace ht := of_decide_eq_false ht|skip))|(refine tb_ ?_ ?_ ?_;(·(exact to_));(·intro _;(exact to_));intro _)|(first|(refine tqs_ ?_ ?_ ?_;(·(exact to_));(·(exact to_))))|(apply ybn;(·(first|(first|exact tk_|(refine qv_neq_agg (t := false) rfl rfl (fun w => by rw [← hde];exact dot_eq _ _ w))|(apply yad;(·rfl);(·exact sb_past (hel2 _));(·exact ycj hu))|(apply yad;(·rfl);(·exact sb_dot (hel _));(·rfl))|(apply yad;(·rfl);(·exact sb_dot (hel2 _));(·rfl)))|exact tq_));(·rfl);(·rfl);(·rfl);(·(exact to_))))|refine ycg ?_))
                  repeat' (first|(refine ycf ?_;apply ybk;(·first|(first|exact tk_|(refine qv_neq_agg (t := false) rfl rfl (fun w => by rw [← hde];exact dot_eq _ _ w))|(apply yad;(·rfl);(·exact sb_past (hel2 _));(·exact ycj hu))|(apply yad;(·rfl);(·exact sb_dot (hel _));(·rfl))|(apply yad;(·rfl);(·exact sb_dot (hel2 _));(·rfl))));(·rfl);(·rfl))|refine t1_ ?_|(refine ta_ ?_;intro _)|((fail_if_success (refine ybi rfl ?_));refine ybj rfl ?_ ?_<;>(intro ht;rw [ht];first|replace ht := of_decide_eq_true ht|replace ht := of_decide_eq_false ht|skip))|(refine ych ?_;first|(refine ybw rfl ?_ ?_<;>intro ht)|(refine ybx rfl ?_ ?_<;>intro ht)))
                  exact nx_round (k + 1, true) (hkq true (by rw [hks2, hq]; simp [hyes, hd])) hdec ts_ (fun _ s => s)
        · --
          have hke : k = (S.map Sb.a).length := by rw [List.length_map]; omega
          rw [hke, keepK_all] at hkp
          cases kp with
          | false =>
            have hno : ¬ keepR (S.map Sb.a) i x0.a := fun hq => by
              have := hkp.2 hq
              cases this
            repeat' (first | (refine ycf ?_; apply ybk; (· first | (exact tk_)); (· rfl); (· rfl)) | refine t1_ ?_ | (refine ta_ ?_; intro _) | ((fail_if_success (refine ybi rfl ?_)); refine ybj rfl ?_ ?_ <;> (intro ht; rw [ht]; first | replace ht := of_decide_eq_true ht | replace ht := of_decide_eq_false ht | skip)) | (refine ych ?_; first | (refine ybw rfl ?_ ?_ <;> intro ht) | (refine ybx rfl ?_ ?_ <;> intro ht)))
            exact nx_round (i + 1, vo, O) ⟨by show i + 1 ≤ _; omega, by show O.length ≤ i + 1; omega, p3, p4.skip hxi hno⟩ (by show S.length - (i + 1) < S.length - i; omega) ts_ (fun _ s => s)
          | true =>
            have hyes := hkp.1 rfl
            have hne := p4.ne hxi hyes
            refine cx_rowslice 0 rfl (fun adv capv hv => ?_)
            subst hv
            repeat' (first | (refine ycf ?_; apply ybk; (· first | (first | exact tk_ | (apply yad; (· rfl); (· exact hel _); (· exact hxl)))); (· rfl); (· rfl)) | refine t1_ ?_ | (refine ta_ ?_; intro _) | ((fail_if_success (refine ybi rfl ?_)); refine ybj rfl ?_ ?_ <;> (intro ht; rw [ht]; first | replace ht := of_decide_eq_true ht | replace ht := of_decide_eq_false ht | skip)) | (refine ych ?_; first | (refine ybw rfl ?_ ?_ <;> intro ht) | (refine ybx rfl ?_ ?_ <;> intro ht)))
            refine yba (ybd rfl rfl rfl (ybe rfl (sbc_sz x0))) rfl rfl rfl ybf (fun _ => ybf) ?_
            intro b13
            refine rx_append (sz := 20) 1 rfl rfl rfl (yaz 0 rfl) (by show (sbc x0).length = 1 * 20; omega) (fun u hu => List.all_eq_true.1 (sbc_one hxo.1 hxo.2) u hu) rfl (by omega) (by unfold maxLen; omega) (by omega) rfl rfl rfl ybf (fun _ => ybf) ?_
            intro v3 _
            repeat' (first | (refine ycf ?_; apply ybk; (· first | (first | exact tk_ | (apply yad; (· rfl); (· exact hel _); (· exact hxl)))); (· rfl); (· rfl)) | refine t1_ ?_ | (refine ta_ ?_; intro _) | ((fail_if_success (refine ybi rfl ?_)); refine ybj rfl ?_ ?_ <;> (intro ht; rw [ht]; first | replace ht := of_decide_eq_true ht | replace ht := of_decide_eq_false ht | skip)) | (refine ych ?_; first | (refine ybw rfl ?_ ?_ <;> intro ht) | (refine ybx rfl ?_ ?_ <;> intro ht)))
            refine cx_rowform 1 rfl (fun e1 e2 e3 => ?_) ?_
            · omega
            rintro g cap rfl
            refine cx_loop (X := Nat) (fun t => [(8, .slice (some ⟨bs, o, none⟩) S.length caps), (9, .slice (some ⟨g, 0, none⟩) (O.length + 1) cap), (10, .int .i64 i), (13, .int .i64 (t : Nat))]) (fun _ => h1) (fun t => [Res.row 71 20 (.slice (some ⟨g, 0, none⟩) (O.length + 1) cap) (O.length + 1) ((insS O t x0).flatMap sbc)])
              (fun t => t ≤ O.length ∧ ∀ e ∈ O.drop t, ordD x0.d e.d < 0) (fun t => t) O.length ⟨Nat.le_refl _, by simp⟩ ts_ (fun _ s => ?_) ?_
            · have s2 := s.tl
              rw [insS_all, List.flatMap_append, show [x0].flatMap sbc = sbc x0 by simp]
              exact s2
            rintro t ⟨ht, hup⟩
            have hLl : (insS O t x0).length = O.length + 1 := insS_len
            have hfin : (∀ (h0 : 0 < t), ordD (O[t - 1]'(by omega)).d x0.d < 0) → i + 1 ≤ S.length ∧ (insS O t x0).length ≤ i + 1 ∧ (∀ o ∈ insS O t x0, o ∈ S) ∧ OutR (S.map Sb.a) (i + 1) ((insS O t x0).map Sb.a) := fun hl => by
              refine ⟨by omega, by rw [hLl]; omega, fun z hz => ?_, p4.add hxi hyes (insS_strict p4.st ht hup hl) fun z => ?_⟩
              · rcases insS_mem.1 hz with rfl | hz
                · exact hxm
                · exact p3 z hz
              · rw [List.mem_map]
                constructor
                · rintro ⟨q, hq, rfl⟩
                  rcases insS_mem.1 hq with rfl | hq
                  · exact .inl rfl
                  · exact .inr (List.mem_map_of_mem hq)
                · rintro (rfl | hz)
                  · exact ⟨x0, insS_mem.2 (.inl rfl), rfl⟩
                  · obtain ⟨q, hq, rfl⟩ := List.mem_map.1 hz
                    exact ⟨q, insS_mem.2 (.inr hq), rfl⟩
            by_cases h0 : t = 0
            · subst h0
              have hf := hfin fun h0 => absurd h0 (by decide)
              repeat' (first | (refine ycf ?_; apply ybk; (· first | (exact tk_)); (· rfl); (· rfl)) | refine t1_ ?_ | (refine ta_ ?_; intro _) | ((fail_if_success (refine ybi rfl ?_)); refine ybj rfl ?_ ?_ <;> (intro ht; rw [ht]; first | replace ht := of_decide_eq_true ht | replace ht := of_decide_eq_false ht | skip)) | (refine ych ?_; first | (refine ybw rfl ?_ ?_ <;> intro ht) | (refine ybx rfl ?_ ?_ <;> intro ht)))
              refine cx_region_draw' rfl (by kernel_rfl) ?_
              repeat' (refine ycf ?_; (first | (first | (apply ybm; (· (first | (exact tk_) | exact tq_)); (· rfl); (· rfl); (· (exact th_))) | refine ybl rfl rfl ?_ | ((fail_if_success (refine ybi rfl ?_)); refine ybj rfl ?_ ?_ <;> (intro ht; rw [ht]; first | replace ht := of_decide_eq_true ht | replace ht := of_decide_eq_false ht | skip)) | (refine tb_ ?_ ?_ ?_; (· (exact to_)); (· intro _; (exact to_)); intro _) | (first | (refine tqs_ ?_ ?_ ?_; (· (exact to_)); (· (exact to_)))) | (apply ybn; (· (first | (exact tk_) | exact tq_)); (· rfl); (· rfl); (· rfl); (· (exact to_)))) | refine ycg ?_))
              repeat' (first | (refine ycf ?_; apply ybk; (· first | (exact tk_)); (· rfl); (· rfl)) | refine t1_ ?_ | (refine ta_ ?_; intro _) | ((fail_if_success (refine ybi rfl ?_)); refine ybj rfl ?_ ?_ <;> (intro ht; rw [ht]; first | replace ht := of_decide_eq_true ht | replace ht := of_decide_eq_false ht | skip)) | (refine ych ?_; first | (refine ybw rfl ?_ ?_ <;> intro ht) | (refine ybx rfl ?_ ?_ <;> intro ht)))
              refine nx_round (i + 1, .slice (some ⟨g, 0, none⟩) (O.length + 1) cap, insS O 0 x0) hf (by show S.length - (i + 1) < S.length - i; omega) ts_ (fun _ s => ?_)
              dsimp only
              show St _ h1 [Res.row _ _ _ (insS O 0 x0).length _] _
              rw [hLl]
              exact s
            · obtain ⟨y, hy⟩ : ∃ y, y = O[t - 1]'(by omega) := ⟨_, rfl⟩
              have hfin := hfin
              simp only [← hy] at hfin
              have hyO : y ∈ O := by rw [hy]; exact List.getElem_mem _
              have hyI : (insS O t x0)[t - 1]? = some y := by rw [hy]; exact insS_at (by omega) ht
              have hyv := hSv y (p3 y hyO)
              have hyo := hyv.one
              have hyl := sbc_len y
              have hel' := fun (L : List Res) (c : Cells h1 L ⟨g, 0, none⟩ ((insS O t x0).flatMap sbc)) => row_elR c hyI (show ((t : Int) - 1).toNat = t - 1 by omega)
              have B1 := rbefore_sp x0.d y.d h1
              have hset : ((insS O t x0).set t y).set (t - 1) x0 = insS O (t - 1) x0 := by rw [hy]; exact insS_set (by omega) ht
              have hcur : ((insS O t x0).set t y)[t - 1]? = some y := by rw [List.getElem?_set_ne (by omega)]; exact hyI
              have hne' : y.d ≠ x0.d := hne y.a (List.mem_map_of_mem hyO)
              by_cases hO : ordD x0.d y.d < 0
              · rw [decide_eq_true hO] at B1
                repeat' (first | (refine ycf ?_; apply ybk; (· first | (first | exact tk_ | (apply yad; (· rfl); (· exact sb_dot (hel _)); (· rfl)) | (apply yad; (· rfl); (· exact sb_dot (hel' _ (row_cells 0 rfl))); (· rfl)))); (· rfl); (· rfl)) | refine t1_ ?_ | (refine ta_ ?_; intro _) | ((fail_if_success (refine ybi rfl ?_)); refine ybj rfl ?_ ?_ <;> (intro ht; rw [ht]; first | replace ht := of_decide_eq_true ht | replace ht := of_decide_eq_false ht | skip)) | (refine ych ?_; first | (refine ybw rfl ?_ ?_ <;> intro ht) | (refine ybx rfl ?_ ?_ <;> intro ht)))
                refine cx_region_draw' rfl (by kernel_rfl) ?_
                repeat' (refine ycf ?_;(first|(first|(apply ybm;(·(first|(first|exact tk_|(apply yad;(·rfl);(·exact sb_dot (hel _));(·rfl))|(apply yad;(·rfl);(·exact sb_dot (hel' _ (row_cells 0 rfl)));(·rfl)))|exact tq_));(·rfl);(·rfl);(·(exact th_)))|refine ybl rfl rfl ?_|((fail_if_success (refine ybi rfl ?_));refine ybj rfl ?_ ?_<;>(intro ht;rw [ht];first|replace ht := of_decide_eq_true ht|replace ht := of_decide_eq_false ht|skip))|(refine tb_ ?_ ?_ ?_;(·(exact to_));(·intro _;(exact to_));intro _)|(first|(refine tqs_ ?_ ?_ ?_;(·(exact to_));(·(exact to_))))|(apply ybn;(·(first|(first|exact tk_|(apply yad;(·rfl);(·exact sb_dot (hel _));(·rfl))|(apply yad;(·rfl);(·exact sb_dot (hel' _ (row_cells 0 rfl)));(·rfl)))|exact tq_));(·rfl);(·rfl);(·rfl);(·(exact to_))))|refine ycg ?_))
                (refine ycn (ycp Try.func53 rfl (by kernel_rfl) rfl) (B1) rfl rfl rfl ?_ ?_; (· (exact to_)))
                repeat' (refine ycf ?_;(first|(first|(apply ybm;(·(first|(first|exact tk_|(apply yad;(·rfl);(·exact sb_dot (hel _));(·rfl))|(apply yad;(·rfl);(·exact sb_dot (hel' _ (row_cells 0 rfl)));(·rfl)))|exact tq_));(·rfl);(·rfl);(·(exact th_)))|refine ybl rfl rfl ?_|((fail_if_success (refine ybi rfl ?_));refine ybj rfl ?_ ?_<;>(intro ht;rw [ht];first|replace ht := of_decide_eq_true ht|replace ht := of_decide_eq_false ht|skip))|(refine tb_ ?_ ?_ ?_;(·(exact to_));(·intro _;(exact to_));intro _)|(first|(refine tqs_ ?_ ?_ ?_;(·(exact to_));(·(exact to_))))|(apply ybn;(·(first|(first|exact tk_|(apply yad;(·rfl);(·exact sb_dot (hel _));(·rfl))|(apply yad;(·rfl);(·exact sb_dot (hel' _ (row_cells 0 rfl)));(·rfl)))|exact tq_));(·rfl);(·rfl);(·rfl);(·(exact to_))))|refine ycg ?_))
                repeat' (first | (refine ycf ?_; apply ybk; (· first | (first | exact tk_ | (apply yad; (· rfl); (· exact sb_dot (hel _)); (· rfl)) | (apply yad; (· rfl); (· exact sb_dot (hel' _ (row_cells 0 rfl))); (· rfl)))); (· rfl); (· rfl)) | refine t1_ ?_ | (refine ta_ ?_; intro _) | ((fail_if_success (refine ybi rfl ?_)); refine ybj rfl ?_ ?_ <;> (intro ht; rw [ht]; first | replace ht := of_decide_eq_true ht | replace ht := of_decide_eq_false ht | skip)) | (refine ych ?_; first | (refine ybw rfl ?_ ?_ <;> intro ht) | (refine ybx rfl ?_ ?_ <;> intro ht)))
                refine cx_region_drawL [Res.part g (0 + ((t : Int) - 1).toNat * 20) (.int .i64 y.d.1) (sbc y).tail] [] rfl (by kernel_rfl) ?_
                repeat' (refine ycf ?_;(first|(first|(apply ybm;(·(first|(first|exact tk_|(apply yad;(·rfl);(·exact (show Cells _ _ _ (sbc y) from part_cells 0 rfl));(·exact hyl))|(apply yad;(·rfl);(·exact hel _);(·exact hxl)))|exact tq_));(·rfl);(·rfl);(·(first|exact row_partR hyI (by omega)|exact row_partR hcur (by omega))))|refine ybl rfl rfl ?_|((fail_if_success (refine ybi rfl ?_));refine ybj rfl ?_ ?_<;>(intro ht;rw [ht];first|replace ht := of_decide_eq_true ht|replace ht := of_decide_eq_false ht|skip))|(refine tb_ ?_ ?_ ?_;(·(first|exact ybf|(refine .inl ?_;(first|exact row_partR hyI (by omega)|exact row_partR hcur (by omega)))|exact to_));(·intro _;(first|exact ybf|(refine .inl ?_;(first|exact row_partR hyI (by omega)|exact row_partR hcur (by omega)))|exact to_));intro _)|(first|(first|(refine rx_rowstore 0 rfl rfl rfl (sbc_sz y) (by rw [sbc_sz];omega) (sbc_one hyo.1 hyo.2) (spl_flat (j := t) (by omega) (by omega)) rfl rfl ?_ ?_ ?_;(·(first|exact ybf|(refine .inl ?_;(first|exact row_partR hyI (by omega)|exact row_partR hcur (by omega)))|exact to_));(·(first|exact ybf|(refine .inl ?_;(first|exact row_partR hyI (by omega)|exact row_partR hcur (by omega)))|exact to_)))|(refine rx_rowstore 0 rfl rfl rfl (sbc_sz x0) (by rw [sbc_sz];omega) (sbc_one hxo.1 hxo.2) (spl_flat (j := t - 1) (by omega) (by rw [List.length_set];omega)) rfl rfl ?_ ?_ ?_;(·(first|exact ybf|(refine .inl ?_;(first|exact row_partR hyI (by omega)|exact row_partR hcur (by omega)))|exact to_));(·(first|exact ybf|(refine .inl ?_;(first|exact row_partR hyI (by omega)|exact row_partR hcur (by omega)))|exact to_))))|(refine tqs_ ?_ ?_ ?_;(·(first|exact ybf|(refine .inl ?_;(first|exact row_partR hyI (by omega)|exact row_partR hcur (by omega)))|exact to_));(·(first|exact ybf|(refine .inl ?_;(first|exact row_partR hyI (by omega)|exact row_partR hcur (by omega)))|exact to_))))|(apply ybn;(·(first|(first|exact tk_|(apply yad;(·rfl);(·exact (show Cells _ _ _ (sbc y) from part_cells 0 rfl));(·exact hyl))|(apply yad;(·rfl);(·exact hel _);(·exact hxl)))|exact tq_));(·rfl);(·rfl);(·rfl);(·(first|exact ybf|(refine .inl ?_;(first|exact row_partR hyI (by omega)|exact row_partR hcur (by omega)))|exact to_))))|refine ycg ?_))
                rw [hset]
                repeat' (first | (refine ycf ?_; apply ybk; (· first | (exact tk_)); (· rfl); (· rfl)) | refine t1_ ?_ | (refine ta_ ?_; intro _) | ((fail_if_success (refine ybi rfl ?_)); refine ybj rfl ?_ ?_ <;> (intro ht; rw [ht]; first | replace ht := of_decide_eq_true ht | replace ht := of_decide_eq_false ht | skip)) | (refine ych ?_; first | (refine ybw rfl ?_ ?_ <;> intro ht) | (refine ybx rfl ?_ ?_ <;> intro ht)))
                refine nx_round (t - 1) ⟨by omega, fun z hz => ?_⟩ (by omega) (by repeat' (first | exact Sub.nil | refine Sub.cons rfl rfl ?_ | refine Sub.cons rfl (congrArg (Value.int .i64) (by omega)) ?_)) (fun _ s => s)
                have e2 : O.drop (t - 1) = y :: O.drop t := by
                  rw [List.drop_eq_getElem_cons (by omega), ← hy, show t - 1 + 1 = t by omega]
                rw [e2] at hz
                rcases List.mem_cons.1 hz with rfl | hz
                · exact hO
                · exact hup z hz
              · rw [decide_eq_false hO] at B1
                have hf := hfin fun _ => by
                  rw [ord_neg] at hO ⊢
                  have : ¬ (x0.d.1 = y.d.1 ∧ x0.d.2 = y.d.2) := fun e => hne' (Prod.ext e.1.symm e.2.symm)
                  omega
                repeat' (first | (refine ycf ?_; apply ybk; (· first | (first | exact tk_ | (apply yad; (· rfl); (· exact sb_dot (hel _)); (· rfl)) | (apply yad; (· rfl); (· exact sb_dot (hel' _ (row_cells 0 rfl))); (· rfl)))); (· rfl); (· rfl)) | refine t1_ ?_ | (refine ta_ ?_; intro _) | ((fail_if_success (refine ybi rfl ?_)); refine ybj rfl ?_ ?_ <;> (intro ht; rw [ht]; first | replace ht := of_decide_eq_true ht | replace ht := of_decide_eq_false ht | skip)) | (refine ych ?_; first | (refine ybw rfl ?_ ?_ <;> intro ht) | (refine ybx rfl ?_ ?_ <;> intro ht)))
                refine cx_region_draw' rfl (by kernel_rfl) ?_
                repeat' (refine ycf ?_;(first|(first|(apply ybm;(·(first|(first|exact tk_|(apply yad;(·rfl);(·exact sb_dot (hel _));(·rfl))|(apply yad;(·rfl);(·exact sb_dot (hel' _ (row_cells 0 rfl)));(·rfl)))|exact tq_));(·rfl);(·rfl);(·(exact th_)))|refine ybl rfl rfl ?_|((fail_if_success (refine ybi rfl ?_));refine ybj rfl ?_ ?_<;>(intro ht;rw [ht];first|replace ht := of_decide_eq_true ht|replace ht := of_decide_eq_false ht|skip))|(refine tb_ ?_ ?_ ?_;(·(exact to_));(·intro _;(exact to_));intro _)|(first|(refine tqs_ ?_ ?_ ?_;(·(exact to_));(·(exact to_))))|(apply ybn;(·(first|(first|exact tk_|(apply yad;(·rfl);(·exact sb_dot (hel _));(·rfl))|(apply yad;(·rfl);(·exact sb_dot (hel' _ (row_cells 0 rfl)));(·rfl)))|exact tq_));(·rfl);(·rfl);(·rfl);(·(exact to_))))|refine ycg ?_))
                (refine ycn (ycp Try.func53 rfl (by kernel_rfl) rfl) (B1) rfl rfl rfl ?_ ?_; (· (exact to_)))
                repeat' (refine ycf ?_;(first|(first|(apply ybm;(·(first|(first|exact tk_|(apply yad;(·rfl);(·exact sb_dot (hel _));(·rfl))|(apply yad;(·rfl);(·exact sb_dot (hel' _ (row_cells 0 rfl)));(·rfl)))|exact tq_));(·rfl);(·rfl);(·(exact th_)))|refine ybl rfl rfl ?_|((fail_if_success (refine ybi rfl ?_));refine ybj rfl ?_ ?_<;>(intro ht;rw [ht];first|replace ht := of_decide_eq_true ht|replace ht := of_decide_eq_false ht|skip))|(refine tb_ ?_ ?_ ?_;(·(exact to_));(·intro _;(exact to_));intro _)|(first|(refine tqs_ ?_ ?_ ?_;(·(exact to_));(·(exact to_))))|(apply ybn;(·(first|(first|exact tk_|(apply yad;(·rfl);(·exact sb_dot (hel _));(·rfl))|(apply yad;(·rfl);(·exact sb_dot (hel' _ (row_cells 0 rfl)));(·rfl)))|exact tq_));(·rfl);(·rfl);(·rfl);(·(exact to_))))|refine ycg ?_))
                repeat' (first | (refine ycf ?_; apply ybk; (· first | (first | exact tk_ | (apply yad; (· rfl); (· exact sb_dot (hel _)); (· rfl)) | (apply yad; (· rfl); (· exact sb_dot (hel' _ (row_cells 0 rfl))); (· rfl)))); (· rfl); (· rfl)) | refine t1_ ?_ | (refine ta_ ?_; intro _) | ((fail_if_success (refine ybi rfl ?_)); refine ybj rfl ?_ ?_ <;> (intro ht; rw [ht]; first | replace ht := of_decide_eq_true ht | replace ht := of_decide_eq_false ht | skip)) | (refine ych ?_; first | (refine ybw rfl ?_ ?_ <;> intro ht) | (refine ybx rfl ?_ ?_ <;> intro ht)))
                refine nx_round (i + 1, .slice (some ⟨g, 0, none⟩) (O.length + 1) cap, insS O t x0) hf (by show S.length - (i + 1) < S.length - i; omega) ts_ (fun _ s => ?_)
                dsimp only
                show St _ h1 [Res.row _ _ _ (insS O t x0).length _] _
                rw [hLl]
                exact s
      · have hie : i = (S.map Sb.a).length := by rw [List.length_map]; omega
        rw [hie] at p4
        have hE := hend O p4
        rw [List.length_map] at hE
        rw [hE]
        refine cx_rowslice 0 rfl (fun adv capv hv => ?_)
        subst hv
        by_cases h64 : 64 < O.length
        · rw [if_pos h64]
          repeat' (first | (refine ycf ?_; apply ybk; (· first | (exact tk_)); (· rfl); (· rfl)) | refine t1_ ?_ | (refine ta_ ?_; intro _) | ((fail_if_success (refine ybi rfl ?_)); refine ybj rfl ?_ ?_ <;> (intro ht; rw [ht]; first | replace ht := of_decide_eq_true ht | replace ht := of_decide_eq_false ht | skip)) | (refine ych ?_; first | (refine ybw rfl ?_ ?_ <;> intro ht) | (refine ybx rfl ?_ ?_ <;> intro ht)))
          exact nx_ret2 rfl (rv_tmp rfl) (rv_tmp rfl) (fun w' s' => ⟨(h, .slice none 0 0, []), rfl, s'.nil.base, n0, rfl⟩)
        · rw [if_neg h64]
          repeat' (first | (refine ycf ?_; apply ybk; (· first | (exact tk_)); (· rfl); (· rfl)) | refine t1_ ?_ | (refine ta_ ?_; intro _) | ((fail_if_success (refine ybi rfl ?_)); refine ybj rfl ?_ ?_ <;> (intro ht; rw [ht]; first | replace ht := of_decide_eq_true ht | replace ht := of_decide_eq_false ht | skip)) | (refine ych ?_; first | (refine ybw rfl ?_ ?_ <;> intro ht) | (refine ybx rfl ?_ ?_ <;> intro ht)))
          refine nx_ret2 rfl (rv_tmp rfl) (rv_tmp rfl) (fun w' s' => ?_)
          obtain ⟨h2, hle2, hs2, s2⟩ := s'.rowPersistA (by intro x hx; cases hx)
          exact ⟨(h2, .slice adv O.length capv, O), rfl, s2.nil, ⟨hs2, fun z hz => (hSv z (p3 z hz)).mono hle2⟩, rfl⟩
    · rw [show mergeF (a.map Sb.a) (b.map Sb.a) = ([], checkA (b.map Sb.a)) by unfold mergeF; rw [if_neg (by rw [ca]; decide), if_pos cb]]
      rw [ca] at CA
      generalize checkA (b.map Sb.a) = er at CB cb
      repeat' (first | (refine ycf ?_; apply ybk; (· first | (exact tk_)); (· rfl); (· rfl)) | refine t1_ ?_ | (refine ta_ ?_; intro _) | ((fail_if_success (refine ybi rfl ?_)); refine ybj rfl ?_ ?_ <;> (intro ht; rw [ht]; first | replace ht := of_decide_eq_true ht | replace ht := of_decide_eq_false ht | skip)) | (refine ych ?_; first | (refine ybw rfl ?_ ?_ <;> intro ht) | (refine ybx rfl ?_ ?_ <;> intro ht)))
      (refine ycn (ycp Try.func52 rfl (by kernel_rfl) rfl) (CA) rfl rfl rfl ?_ ?_; (· (exact to_)))
      repeat' (first | (refine ycf ?_; apply ybk; (· first | (exact tk_)); (· rfl); (· rfl)) | refine t1_ ?_ | (refine ta_ ?_; intro _) | ((fail_if_success (refine ybi rfl ?_)); refine ybj rfl ?_ ?_ <;> (intro ht; rw [ht]; first | replace ht := of_decide_eq_true ht | replace ht := of_decide_eq_false ht | skip)) | (refine ych ?_; first | (refine ybw rfl ?_ ?_ <;> intro ht) | (refine ybx rfl ?_ ?_ <;> intro ht)))
      (refine ycn (ycp Try.func52 rfl (by kernel_rfl) rfl) (CB) rfl rfl rfl ?_ ?_; (· (exact to_)))
      repeat' (first | (refine ycf ?_; apply ybk; (· first | (exact tk_)); (· rfl); (· rfl)) | refine t1_ ?_ | (refine ta_ ?_; intro _) | ((fail_if_success (refine ybi rfl ?_)); refine ybj rfl ?_ ?_ <;> (intro ht; rw [ht]; first | replace ht := of_decide_eq_true ht | replace ht := of_decide_eq_false ht | skip)) | (refine ych ?_; first | (refine ybw rfl ?_ ?_ <;> intro ht) | (refine ybx rfl ?_ ?_ <;> intro ht)))
      exact nx_ret2 rfl (rv_tmp rfl) (rv_tmp rfl) (fun w' s' => ⟨(h, .slice none 0 0, []), rfl, s'.nil, n0, rfl⟩)
  · rw [show mergeF (a.map Sb.a) (b.map Sb.a) = ([], checkA (a.map Sb.a)) by unfold mergeF; rw [if_pos ca]]
    generalize checkA (a.map Sb.a) = er at CA ca
    repeat' (first | (refine ycf ?_; apply ybk; (· first | (exact tk_)); (· rfl); (· rfl)) | refine t1_ ?_ | (refine ta_ ?_; intro _) | ((fail_if_success (refine ybi rfl ?_)); refine ybj rfl ?_ ?_ <;> (intro ht; rw [ht]; first | replace ht := of_decide_eq_true ht | replace ht := of_decide_eq_false ht | skip)) | (refine ych ?_; first | (refine ybw rfl ?_ ?_ <;> intro ht) | (refine ybx rfl ?_ ?_ <;> intro ht)))
    (refine ycn (ycp Try.func52 rfl (by kernel_rfl) rfl) (CA) rfl rfl rfl ?_ ?_; (· (exact to_)))
    repeat' (first | (refine ycf ?_; apply ybk; (· first | (exact tk_)); (· rfl); (· rfl)) | refine t1_ ?_ | (refine ta_ ?_; intro _) | ((fail_if_success (refine ybi rfl ?_)); refine ybj rfl ?_ ?_ <;> (intro ht; rw [ht]; first | replace ht := of_decide_eq_true ht | replace ht := of_decide_eq_false ht | skip)) | (refine ych ?_; first | (refine ybw rfl ?_ ?_ <;> intro ht) | (refine ybx rfl ?_ ?_ <;> intro ht)))
    exact nx_ret2 rfl (rv_tmp rfl) (rv_tmp rfl) (fun w' s' => ⟨(h, .slice none 0 0, []), rfl, s'.nil, n0, rfl⟩)
end Go.Proofs.Ytkkjppeaaicgaaa
end

section
namespace Go.Proofs.Ytkkjppeaaicgaaa
open Go Go.Ck
set_option maxRecDepth 100000
set_option maxHeartbeats 4000000
set_option linter.unusedVariables false

theorem fill3s {d : Dt} {u : List Int} {mv : Value} {b : List Int} (hu : u.length = 16) : fillL (fun i : Nat => ([(0, 2), (2, 17), (19, 1)] : List (Nat × Nat))[i]?) ([.int .i64 0, .int .i64 0] ++ (up zeroU ++ [.slice none 0 0, .string ⟨#[]⟩])) [(0, .agg (dcs d).toArray), (1, .agg (cxc u mv).toArray), (2, .string (bstr b))] = some (dcs d ++ (cxc u mv ++ [.string (bstr b)])) := by
  obtain ⟨a0, a1, a2, a3, a4, a5, a6, a7, a8, a9, a10, a11, a12, a13, a14, a15, rfl⟩ := list16 u hu
  unfold fillL fillL fillL fillL
  rfl
theorem sfrom_sp (v : Value) (l : List Sb) (h : View) (hs : Ss h v l) (fl : Fits l) (w : World) (s : St ⟨w, h, []⟩ h [] w) :
    Calls Try.prog 28 [v].toArray w fun e w' => ∃ z : View × Value × List Sb, e = .returned z.2.1 ∧ St ⟨w, h, []⟩ z.1 [] w' ∧ Rs z.1 z.2.1 z.2.2 ∧ z.2.2.map Sb.a = l.map Sb.a := by
  obtain ⟨hs, hsv⟩ := hs
  obtain ⟨_, ad, cap, rfl, hcap, _⟩ := id hs
  have lenl := fl.1
  refine calls_enter Try.func28 rfl Try.ntmps28 rfl s ?_
  repeat' (first | refine tw_ ?_ | (refine ta_ ?_; intro _) | ((fail_if_success (refine ybi rfl ?_)); refine ybj rfl ?_ ?_ <;> (intro ht; rw [ht]; first | replace ht := of_decide_eq_true ht | replace ht := of_decide_eq_false ht | skip)) | (refine ych ?_; first | (refine ybw rfl ?_ ?_ <;> intro ht) | (refine ybx rfl ?_ ?_ <;> intro ht)))
  refine cx_row 71 20 ?_
  refine cx_loop (X := Nat × Value × List Sb) (fun y => [(0, .slice ad l.length cap), (3, y.2.1), (4, .int .i64 (y.1 : Nat))]) (fun y => h) (fun y => [Res.row 71 20 y.2.1 y.2.2.length (y.2.2.flatMap sbc)])
    (fun y => y.1 ≤ l.length ∧ (∀ o ∈ y.2.2, Rv h o) ∧ y.2.2.map Sb.a = (l.take y.1).map Sb.a) (fun y => l.length - y.1) (0, .slice none 0 0, []) ⟨Nat.zero_le _, fun o ho => (by cases ho), rfl⟩ ts_ (fun _ s => s) ?_
  rintro ⟨k, vo, O⟩ ⟨p1, p3, p4⟩
  dsimp only at p1 p3 p4 ⊢
  have hOl : O.length = k := by
    have := congrArg List.length p4
    simp at this
    omega
  by_cases hkl : k < l.length
  · obtain ⟨bs, o, rfl⟩ := hs.ad (by omega) (by omega)
    have hel : ∀ L, Cells h L ⟨bs, o + k * 20, none⟩ (sbc l[k]) := fun L => hs.elem sbc_len k hkl
    have hxv : Sv h l[k] := hsv _ (List.getElem_mem hkl)
    have hlim := fl.2 _ (List.getElem_mem hkl)
    have htk : (l.take (k + 1)).map Sb.a = O.map Sb.a ++ [l[k].a] := by rw [List.take_succ_eq_append_getElem hkl, List.map_append, ← p4]; rfl
    generalize l[k] = e0 at hel hxv hlim htk
    have hxl := sbc_len e0
    have hone := hxv.one
    obtain ⟨_, adm, capm, hmv, _, _⟩ := id hxv.ds
    obtain ⟨_, adb, capb, hbv, _, _⟩ := id hxv.bs
    have hbs := hxv.bs
    rw [hbv] at hbs
    have hds := hxv.ds
    rw [hmv] at hds
    obtain ⟨z, hz⟩ : ∃ z : Sb, z = ⟨e0.d, e0.u, e0.hu, e0.l, .slice adm e0.l.length capm, e0.b, .string (bstr e0.b)⟩ := ⟨_, rfl⟩
    have hfu := fill2 (ad := adm) (m := e0.l.length) (c := capm) e0.hu
    have hfz : fillL (fun i : Nat => ([(0, 2), (2, 17), (19, 1)] : List (Nat × Nat))[i]?) ([.int .i64 0, .int .i64 0] ++ (up zeroU ++ [.slice none 0 0, .string ⟨#[]⟩])) [(0, .agg (dcs e0.d).toArray), (1, .agg (cxc e0.u (.slice adm e0.l.length capm)).toArray), (2, .string (bstr e0.b))] = some (sbc z) := by
      rw [hz]; exact fill3s e0.hu
    have hzv : Rv h z := by rw [hz]; exact ⟨hds, rfl, hxv.by8⟩
    have hza : z.a = e0.a := by rw [hz]; rfl
    have hzo := hzv.one
    have hzl := sbc_len z
    repeat' (first|(refine ycf ?_;apply ybk;(·first|(first|exact tk_|(apply yad;(·rfl);(·exact hel _);(·exact hxl))|(apply yad;(·rfl);(·exact sb_dot (yaz 0 rfl));(·rfl))|(apply yad (vs := up e0.u);(·rfl);(·exact cells_up2 (sb_past (yaz 0 rfl)));(·simp [up, e0.hu]))|(refine qv_str_bs rfl hbs)|(apply yax (cs := cxc e0.u (.slice adm e0.l.length capm));(·rfl);(·exact hfu))|(apply yax (cs := sbc z);(·rfl);(·exact hfz)))|(apply yae;(·rfl);(·(first|exact sb_more (yaz 0 rfl) hmv|exact sb_body0 (yaz 0 rfl) hbv))));(·rfl);(·rfl))|(refine ybg 0 rfl rfl rfl (sbc_sz e0) (sbc_fit rfl) (sbc_one hone.1 hone.2) (ybh (sbc_all rfl)) rfl rfl ?_ ?_ ?_;(·(exact to_));(·(exact to_)))|refine t1_ ?_|(refine ta_ ?_;intro _)|((fail_if_success (refine ybi rfl ?_));refine ybj rfl ?_ ?_<;>(intro ht;rw [ht];first|replace ht := of_decide_eq_true ht|replace ht := of_decide_eq_false ht|skip))|(refine ych ?_;first|(refine ybw rfl ?_ ?_<;>intro ht)|(refine ybx rfl ?_ ?_<;>intro ht)))
    refine yba (ybd rfl rfl rfl (ybe rfl (sbc_sz z))) rfl rfl rfl ybf (fun _ => ybf) ?_
    intro b32
    refine rx_append (sz := 20) 2 rfl rfl rfl (yaz 0 rfl) (by show (sbc z).length = 1 * 20; exact sbc_len z) (fun u hu => List.all_eq_true.1 (sbc_one hzo.1 hzo.2) u hu) rfl (by omega) (by unfold maxLen; omega) (by omega) rfl rfl rfl ybf (fun _ => ybf) ?_
    intro v9 _
    repeat' (first | (refine ycf ?_; apply ybk; (· first | (exact tk_)); (· rfl); (· rfl)) | refine t1_ ?_ | (refine ta_ ?_; intro _) | ((fail_if_success (refine ybi rfl ?_)); refine ybj rfl ?_ ?_ <;> (intro ht; rw [ht]; first | replace ht := of_decide_eq_true ht | replace ht := of_decide_eq_false ht | skip)) | (refine ych ?_; first | (refine ybw rfl ?_ ?_ <;> intro ht) | (refine ybx rfl ?_ ?_ <;> intro ht)))
    refine nx_round (k + 1, v9, O ++ [z]) ⟨by show k + 1 ≤ _; omega, fun o ho => ?_, ?_⟩ (by show l.length - (k + 1) < l.length - k; omega) ts_ (fun _ s => ?_)
    · rcases List.mem_append.1 ho with ho | ho
      · exact p3 o ho
      · rw [List.mem_singleton.1 ho]; exact hzv
    · dsimp only
      rw [htk, List.map_append]
      simp [hza]
    · have s2 := s.tl.tl
      dsimp only
      show St _ _ [Res.row _ _ v9 (O ++ [z]).length ((O ++ [z]).flatMap sbc)] _
      rw [List.length_append, List.flatMap_append, show [z].flatMap sbc = sbc z by simp]
      exact s2
  · have hkk : k = l.length := by omega
    rw [hkk, List.take_length] at p4
    repeat' (first | (refine ycf ?_; apply ybk; (· first | (exact tk_)); (· rfl); (· rfl)) | refine t1_ ?_ | (refine ta_ ?_; intro _) | ((fail_if_success (refine ybi rfl ?_)); refine ybj rfl ?_ ?_ <;> (intro ht; rw [ht]; first | replace ht := of_decide_eq_true ht | replace ht := of_decide_eq_false ht | skip)) | (refine ych ?_; first | (refine ybw rfl ?_ ?_ <;> intro ht) | (refine ybx rfl ?_ ?_ <;> intro ht)))
    refine nx_ret1 rfl (rv_tmp rfl) (fun w' s' => ?_)
    obtain ⟨h2, hle2, hs2, s2⟩ := s'.rowPersistA (by intro x hx; cases hx)
    exact ⟨(h2, vo, O), rfl, s2.nil, ⟨hs2, fun z hz => (p3 z hz).mono hle2⟩, p4⟩
end Go.Proofs.Ytkkjppeaaicgaaa
end

section
namespace Go.Ck
open Go
set_option linter.unusedVariables false
section
variable {P : Program} {ops : Array Oper} {S : World → Prop} {lo bar : Nat → Bool}

def flo1OkX (ops : Array Oper) (ex : List Nat) (pre l : List Nat) (y : Nat) (r : List Nat) : Bool :=
  lexOkR ops (masks ops) (fun i => ex.contains i) (barOf ops) (rkOf (pre ++ l ++ y :: r)) (fun j i => ex.contains j && Nat.beq i y) && flOk ops (fun i => ex.contains i) (barOf ops) (fun i => Nat.beq i y) (rkOf (pre ++ l ++ y :: r)) &&
  ((List.range ops.size).all fun i => (pre ++ l ++ y :: r).contains i) && (pre ++ l ++ y :: r).length == ops.size && ((pre ++ l ++ y :: r).all fun i => decide (i < ops.size)) && decide ((pre ++ l ++ y :: r).Pairwise fun i j => rkOf (pre ++ l ++ y :: r) i < rkOf (pre ++ l ++ y :: r) j) &&
  (pre.all fun i => !ex.contains i) && ((pre ++ l ++ r).all fun i => !Nat.beq i y)

theorem wp_region_floX {id : Nat} {Q : Exit → Act → World → Prop} {a : Act} {w : World} (ex pre l : List Nat) (y : Nat) (r : List Nat) (hm : P.follows .mixedOrders = true) (hB : flo1OkX ops ex pre l y r = true)
    (h : wpX P ops S (fun i => ex.contains i) (barOf ops) (wpF P ops S (fun i => ex.contains i) (barOf ops) (Q .normal) (y, nthO ops.toList y) (pickL ops.toList r) (pickL ops.toList l)) (pickL ops.toList pre) a w.drew) : (Code.region id ops true).wp P Q a w := by
  simp only [flo1OkX, Bool.and_eq_true] at hB
  obtain ⟨⟨⟨⟨⟨⟨⟨b1, b2⟩, b3⟩, b4⟩, b5⟩, b6⟩, b7⟩, b8⟩ := hB
  have b4 : (pre ++ l ++ y :: r).length = ops.size := by simpa using b4
  have b6 := of_decide_eq_true b6
  have hpq : ∀ p ∈ pickL ops.toList pre, (fun i => ex.contains i) p.1 = false := fun p hp => by
    have := List.all_eq_true.1 b7 _ (pickL_mem.1 hp).1
    simpa using this
  have hfl : ∀ m : List Nat, (∀ i ∈ m, i ∈ pre ++ l ++ r) → ∀ p ∈ pickL ops.toList m, (fun i => Nat.beq i y) p.1 = false := fun m hmm p hp => by
    have := List.all_eq_true.1 b8 _ (hmm _ (pickL_mem.1 hp).1)
    simpa using this
  have hF := wpF_app (P := P) (ops := ops) (S := S) (Q := Q .normal) (y := (y, nthO ops.toList y)) (r := pickL ops.toList r) (l := pickL ops.toList l) (pickL ops.toList pre) hpq a w.drew h
  rw [← pickL_append] at hF
  have hG := wpF_G (fun i => Nat.beq i y) (hfl r (fun i hi => by simp [hi])) (pickL ops.toList (pre ++ l)) (hfl (pre ++ l) (fun i hi => List.mem_append_left _ hi)) a w.drew hF
  have hpk : pickL ops.toList (pre ++ l) ++ (y, nthO ops.toList y) :: pickL ops.toList r = pickL ops.toList (pre ++ l ++ y :: r) := by
    rw [pickL_append (pre ++ l)]; rfl
  rw [hpk] at hG
  refine wp_region_any hm (float_any (rk := rkOf (pre ++ l ++ y :: r)) b1 (fun i o y' oy hi hy hli hfy hlj => ?_) _ (pickL ops.toList (pre ++ l ++ y :: r)) _ a _ ?_ ⟨?_, ?_, ?_, ?_, ?_⟩ hG)
  · have hil := (Array.getElem?_eq_some_iff.1 hi).1
    have hyl := (Array.getElem?_eq_some_iff.1 hy).1
    have h1 := List.all_eq_true.1 b2 y' (List.mem_range.2 hyl)
    simp only [hfy, Bool.not_true, Bool.false_or, Bool.and_eq_true] at h1
    have h2 := List.all_eq_true.1 h1.2 i (List.mem_range.2 hil)
    obtain ⟨j, hj1, hj2, hj3⟩ := hlj
    have hnot : ((List.range ops.size).all fun j => !ex.contains j || !decide (rkOf (pre ++ l ++ y :: r) j < rkOf (pre ++ l ++ y :: r) i)) = false := by
      rw [List.all_eq_false]
      exact ⟨j, List.mem_range.2 hj1, by simp only [hj2, hj3]; decide⟩
    simp only [hli, hnot, Bool.false_or, hi, hy, Bool.and_eq_true] at h2
    have hsel := lexOkR_sel b1
    exact ⟨h2.2, (by show (ex.contains i && _) = false; rw [hli]; rfl), by simpa using h2.1, by simpa using h1.1.1, fun cs b => Region.noSelect_spec hsel i o cs b hi, fun cs b => Region.noSelect_spec hsel y' oy cs b hy⟩
  · rw [pickL_length]; omega
  · intro p hp
    obtain ⟨h1, h2⟩ := pickL_mem.1 hp
    have hlt : p.1 < ops.size := by simpa using List.all_eq_true.1 b5 _ h1
    have := nthO_ok ops.toList p.1 (by simpa using hlt)
    rw [h2]; simpa using this
  · exact pickL_pair b6
  · intro i hi
    simp only [Array.getD_eq_getD_getElem?, Array.getElem?_replicate, hi, if_true, Option.getD_some, true_iff]
    have := List.all_eq_true.1 b3 i (List.mem_range.2 hi)
    exact ⟨nthO ops.toList i, (pickL_mem (p := (i, nthO ops.toList i))).2 ⟨by simpa using this, rfl⟩⟩
  · intro i o ho hl
    simp only [Array.getD_eq_getD_getElem?, Array.getElem?_replicate] at hl
    split at hl <;> simp at hl
  · simp
end
section
variable {P : Program} {n : Nat} {K : Bs} {F : List (Nat × Value)} {h : View} {L : List Res} {Q : Exit → Act → World → Prop}
theorem cx_region_floX {id : Nat} {ops : Array Oper} (LS : List Res) (ex pre l : List Nat) (y : Nat) (r : List Nat) (hm : P.follows .mixedOrders = true) (hB : flo1OkX ops ex pre l y r = true)
    (hx : RX P n K ⟨ops, Hd h LS, fun i => ex.contains i, barOf ops⟩ (pickL ops.toList pre) F h L (FlQ P ⟨ops, Hd h LS, fun i => ex.contains i, barOf ops⟩ Q l y r)) : CX P n K (.region id ops true) F h L Q := by
  unfold CX
  unfold RX at hx
  exact fun a w f s => wp_region_floX ex pre l y r hm hB (wpX_mono (fun a w h => h.2) _ _ _ (hx a w.drew ⟨f.size, f.dfs, f.get⟩ s.drew))
end
end Go.Ck
end
