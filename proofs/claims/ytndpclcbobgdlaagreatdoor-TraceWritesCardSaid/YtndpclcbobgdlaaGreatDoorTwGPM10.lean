/-
  Part 10 of a proof: TwD TwE TwF TwG CkTrod.
  Conditions: each theorem states its own.
-/
import Derived.Deep.Slices
import Derived.Carry
import Derived.DataReads
import Derived.Test.YtndpclcbobgdlaaGreatDoorTwGPM9
set_option maxRecDepth 100000
set_option linter.unusedVariables false
set_option linter.unusedSimpArgs false
section
namespace Go.Proofs.YtndpclcbobgdlaaGreatDoor
open Go Go.Ck
set_option maxHeartbeats 4000000
def cutT (a : Ta) : Ta := { a with name := a.name.take 260, value := a.value.take 300, raw := a.raw.take 100, stay := a.stay.take 40 }
theorem minT_lim {a : Nat} (m : Nat) {j : Nat} (hj : j = min a m) : (if (m : Int) < (a : Int) then (m : Int) else (a : Int)) = (j : Int) := by split<;>omega
theorem takeT_min {α : Type} {l : List α} {m : Nat} : l.take (min l.length m) = l.take m := by
  by_cases h : l.length ≤ m
  · rw [Nat.min_eq_left h, List.take_length, List.take_of_length_le h]
  · rw [Nat.min_eq_right (by omega)]
theorem tame34_sp (x : Ts) (h : View) (hx : Rtv h x) (hl : x.a.name.length ≤ 9223372036854775807 ∧ x.a.value.length ≤ 9223372036854775807 ∧ x.a.raw.length ≤ 9223372036854775807 ∧ x.a.stay.length ≤ 9223372036854775807) (w : World) (s : St ⟨w, h, []⟩ h [] w) :
    Calls Tryz.prog 13 [.agg (rtc x).toArray].toArray w fun e w' => ∃ z : View × Ts, e = .returned (.agg (rtc z.2).toArray) ∧ St ⟨w, h, []⟩ z.1 [] w' ∧ Rtv z.1 z.2 ∧ z.2.a = cutT x.a := by
  obtain ⟨⟨ki, cl, ha, bo, kk, nm, va, st, ra⟩, nv, vv, sv, rv⟩ := x
  obtain ⟨g1, g2, g3, g4⟩ := hx
  dsimp only at g1 g2 g3 g4 hl
  subst g1 g2 g4
  obtain ⟨_, ads, caps, rfl, _, _⟩ := id g3
  obtain ⟨jn, hjn⟩ : ∃ j, j = min nm.length 260 := ⟨_, rfl⟩
  have hjn1 := minT_lim 260 hjn
  obtain ⟨jv, hjv⟩ : ∃ j, j = min va.length 300 := ⟨_, rfl⟩
  have hjv1 := minT_lim 300 hjv
  obtain ⟨jr, hjr⟩ : ∃ j, j = min ra.length 100 := ⟨_, rfl⟩
  have hjr1 := minT_lim 100 hjr
  obtain ⟨js, hjs⟩ : ∃ j, j = min st.length 40 := ⟨_, rfl⟩
  have hjs1 := minT_lim 40 hjs
  refine calls_enter Tryz.func13 rfl Tryz.ntmps13 rfl s ?_
  repeat' (first|refine tw_ ?_|(refine ta_ ?_;intro _)|((fail_if_success (refine ybi rfl ?_));refine ybj rfl ?_ ?_<;>(intro ht;rw [ht];first|replace ht := oet_ ht|replace ht := oef_ ht|skip))|(refine ych ?_;first|(refine ybw rfl ?_ ?_<;>intro ht)|(refine ybx rfl ?_ ?_<;>intro ht)))
  rename_i b1 b2
  refine cx_region_any [Res.blk b1 (.cells (rtc ⟨⟨ki, cl, ha, bo, kk, nm, va, st, ra⟩, .string (bstr nm), .string (bstr va), .slice ads st.length caps, .string (bstr ra)⟩).toArray 36 (0, 0))] [22, 24, 26] [11, 12, 13, 18, 19, 20, 22, 23, 24, 25, 26] [0, 1, 2, 3, 4, 5, 6, 7, 8, 9, 10, 11, 12, 13, 14, 15, 16, 17, 18, 19, 20, 21, 22, 23, 24, 25, 26] rfl (by kernel_rfl) ?_
  refine tx_run false [0, 1, 2, 3, 4, 5, 6, 7, 8, 9, 10] [11, 12, 13, 14, 15, 16, 17, 18, 19, 20, 21, 22, 23, 24, 25, 26] (by kernel_rfl) ?_
  repeat' (refine ycf ?_;(first|(first|(apply ybm;(·(first|(first|exact tk_|(exact qv_len_bstr rfl)|(refine qv_minT rfl rfl hjn1)|(refine qv_minT rfl rfl hjv1)|(refine qv_minT rfl rfl hjr1)|(exact qv_str_to rfl rfl (by omega)))|exact tq_));(·rfl);(·rfl);(·(exact th_)))|refine ybl rfl rfl ?_|((fail_if_success (refine ybi rfl ?_));refine ybj rfl ?_ ?_<;>(intro ht;rw [ht];first|replace ht := oet_ ht|replace ht := oef_ ht|skip))|(refine tb_ ?_ ?_ ?_;(·(exact to_));(·intro _;(exact to_));intro _)|(first|(refine tqs_ ?_ ?_ ?_;(·(exact to_));(·(exact to_))))|(apply ybn;(·(first|(first|exact tk_|(exact qv_len_bstr rfl)|(refine qv_minT rfl rfl hjn1)|(refine qv_minT rfl rfl hjv1)|(refine qv_minT rfl rfl hjr1)|(exact qv_str_to rfl rfl (by omega)))|exact tq_));(·rfl);(·rfl);(·rfl);(·(exact to_))))|refine ycg ?_))
  refine nx_tq ?_
  refine tx_run true [11, 12, 13] [14, 15, 16, 17, 18, 19, 20, 21, 22, 23, 24, 25, 26] (by kernel_rfl) ?_
  repeat' (refine ycf ?_;(first|(first|(apply ybm;(·(first|(first|exact tk_|(exact qv_len_bstr rfl)|(refine qv_minT rfl rfl hjn1)|(refine qv_minT rfl rfl hjv1)|(refine qv_minT rfl rfl hjr1)|(exact qv_str_to rfl rfl (by omega)))|exact tq_));(·rfl);(·rfl);(·(exact th_)))|refine ybl rfl rfl ?_|((fail_if_success (refine ybi rfl ?_));refine ybj rfl ?_ ?_<;>(intro ht;rw [ht];first|replace ht := oet_ ht|replace ht := oef_ ht|skip))|(refine tb_ ?_ ?_ ?_;(·(exact to_));(·intro _;(exact to_));intro _)|(first|(refine tqs_ ?_ ?_ ?_;(·(exact to_));(·(exact to_))))|(apply ybn;(·(first|(first|exact tk_|(exact qv_len_bstr rfl)|(refine qv_minT rfl rfl hjn1)|(refine qv_minT rfl rfl hjv1)|(refine qv_minT rfl rfl hjr1)|(exact qv_str_to rfl rfl (by omega)))|exact tq_));(·rfl);(·rfl);(·rfl);(·(exact to_))))|refine ycg ?_))
  refine nx_tq ?_
  refine tx_run false [14, 15, 16, 17] [18, 19, 20, 21, 22, 23, 24, 25, 26] (by kernel_rfl) ?_
  repeat' (refine ycf ?_;(first|(first|(apply ybm;(·(first|(first|exact tk_|(exact qv_len_bstr rfl)|(refine qv_minT rfl rfl hjn1)|(refine qv_minT rfl rfl hjv1)|(refine qv_minT rfl rfl hjr1)|(exact qv_str_to rfl rfl (by omega)))|exact tq_));(·rfl);(·rfl);(·(exact th_)))|refine ybl rfl rfl ?_|((fail_if_success (refine ybi rfl ?_));refine ybj rfl ?_ ?_<;>(intro ht;rw [ht];first|replace ht := oet_ ht|replace ht := oef_ ht|skip))|(refine tb_ ?_ ?_ ?_;(·(exact to_));(·intro _;(exact to_));intro _)|(first|(refine tqs_ ?_ ?_ ?_;(·(exact to_));(·(exact to_))))|(apply ybn;(·(first|(first|exact tk_|(exact qv_len_bstr rfl)|(refine qv_minT rfl rfl hjn1)|(refine qv_minT rfl rfl hjv1)|(refine qv_minT rfl rfl hjr1)|(exact qv_str_to rfl rfl (by omega)))|exact tq_));(·rfl);(·rfl);(·rfl);(·(exact to_))))|refine ycg ?_))
  refine nx_tq ?_
  refine tx_run true [18, 19, 20] [21, 22, 23, 24, 25, 26] (by kernel_rfl) ?_
  repeat' (refine ycf ?_;(first|(first|(apply ybm;(·(first|(first|exact tk_|(exact qv_len_bstr rfl)|(refine qv_minT rfl rfl hjn1)|(refine qv_minT rfl rfl hjv1)|(refine qv_minT rfl rfl hjr1)|(exact qv_str_to rfl rfl (by omega)))|exact tq_));(·rfl);(·rfl);(·(exact th_)))|refine ybl rfl rfl ?_|((fail_if_success (refine ybi rfl ?_));refine ybj rfl ?_ ?_<;>(intro ht;rw [ht];first|replace ht := oet_ ht|replace ht := oef_ ht|skip))|(refine tb_ ?_ ?_ ?_;(·(exact to_));(·intro _;(exact to_));intro _)|(first|(refine tqs_ ?_ ?_ ?_;(·(exact to_));(·(exact to_))))|(apply ybn;(·(first|(first|exact tk_|(exact qv_len_bstr rfl)|(refine qv_minT rfl rfl hjn1)|(refine qv_minT rfl rfl hjv1)|(refine qv_minT rfl rfl hjr1)|(exact qv_str_to rfl rfl (by omega)))|exact tq_));(·rfl);(·rfl);(·rfl);(·(exact to_))))|refine ycg ?_))
  refine nx_tq ?_
  refine tx_run false [21] [22, 23, 24, 25, 26] (by kernel_rfl) ?_
  repeat' (refine ycf ?_;(first|(first|(apply ybm;(·(first|(first|exact tk_|(exact qv_len_bstr rfl)|(refine qv_minT rfl rfl hjn1)|(refine qv_minT rfl rfl hjv1)|(refine qv_minT rfl rfl hjr1)|(exact qv_str_to rfl rfl (by omega)))|exact tq_));(·rfl);(·rfl);(·(exact th_)))|refine ybl rfl rfl ?_|((fail_if_success (refine ybi rfl ?_));refine ybj rfl ?_ ?_<;>(intro ht;rw [ht];first|replace ht := oet_ ht|replace ht := oef_ ht|skip))|(refine tb_ ?_ ?_ ?_;(·(exact to_));(·intro _;(exact to_));intro _)|(first|(refine tqs_ ?_ ?_ ?_;(·(exact to_));(·(exact to_))))|(apply ybn;(·(first|(first|exact tk_|(exact qv_len_bstr rfl)|(refine qv_minT rfl rfl hjn1)|(refine qv_minT rfl rfl hjv1)|(refine qv_minT rfl rfl hjr1)|(exact qv_str_to rfl rfl (by omega)))|exact tq_));(·rfl);(·rfl);(·rfl);(·(exact to_))))|refine ycg ?_))
  refine nx_tq ?_
  refine tx_1 true 22 [23, 24, 25, 26] (by kernel_rfl) ?_
  have st1 : spl (rtc ⟨⟨ki, cl, ha, bo, kk, nm, va, st, ra⟩, .string (bstr nm), .string (bstr va), .slice ads st.length caps, .string (bstr ra)⟩) (0 + 5) [.string (bstr (nm.take jn))] = rtc ⟨⟨ki, cl, ha, bo, kk, nm, va, st, ra⟩, .string (bstr (nm.take jn)), .string (bstr va), .slice ads st.length caps, .string (bstr ra)⟩ := rfl
  have st2 : spl (rtc ⟨⟨ki, cl, ha, bo, kk, nm, va, st, ra⟩, .string (bstr (nm.take jn)), .string (bstr va), .slice ads st.length caps, .string (bstr ra)⟩) (0 + 6) [.string (bstr (va.take jv))] = rtc ⟨⟨ki, cl, ha, bo, kk, nm, va, st, ra⟩, .string (bstr (nm.take jn)), .string (bstr (va.take jv)), .slice ads st.length caps, .string (bstr ra)⟩ := rfl
  have st3 : spl (rtc ⟨⟨ki, cl, ha, bo, kk, nm, va, st, ra⟩, .string (bstr (nm.take jn)), .string (bstr (va.take jv)), .slice ads st.length caps, .string (bstr ra)⟩) (0 + 8) [.string (bstr (ra.take jr))] = rtc ⟨⟨ki, cl, ha, bo, kk, nm, va, st, ra⟩, .string (bstr (nm.take jn)), .string (bstr (va.take jv)), .slice ads st.length caps, .string (bstr (ra.take jr))⟩ := rfl
  refine ybg 1 rfl rfl rfl rfl (Nat.le_of_ble_eq_true rfl) rfl st1 rfl rfl ?_ ?_ ?_
  · (first|exact ybf|(refine .inl ?_;(exact fun w s => hd_weak w s))|exact to_)
  · (first|exact ybf|(refine .inl ?_;(exact fun w s => hd_weak w s))|exact to_)
  refine ycg ?_
  refine nx_tq ?_
  refine tx_run true [23] [24, 25, 26] (by kernel_rfl) ?_
  repeat' (refine ycf ?_;(first|(first|(apply ybm;(·(first|(first|exact tk_|(exact qv_len_bstr rfl)|(refine qv_minT rfl rfl hjn1)|(refine qv_minT rfl rfl hjv1)|(refine qv_minT rfl rfl hjr1)|(exact qv_str_to rfl rfl (by omega)))|exact tq_));(·rfl);(·rfl);(·(exact fun w s => hd_weak w s)))|refine ybl rfl rfl ?_|((fail_if_success (refine ybi rfl ?_));refine ybj rfl ?_ ?_<;>(intro ht;rw [ht];first|replace ht := oet_ ht|replace ht := oef_ ht|skip))|(refine tb_ ?_ ?_ ?_;(·(first|exact ybf|(refine .inl ?_;(exact fun w s => hd_weak w s))|exact to_));(·intro _;(first|exact ybf|(refine .inl ?_;(exact fun w s => hd_weak w s))|exact to_));intro _)|(first|(refine tqs_ ?_ ?_ ?_;(·(first|exact ybf|(refine .inl ?_;(exact fun w s => hd_weak w s))|exact to_));(·(first|exact ybf|(refine .inl ?_;(exact fun w s => hd_weak w s))|exact to_))))|(apply ybn;(·(first|(first|exact tk_|(exact qv_len_bstr rfl)|(refine qv_minT rfl rfl hjn1)|(refine qv_minT rfl rfl hjv1)|(refine qv_minT rfl rfl hjr1)|(exact qv_str_to rfl rfl (by omega)))|exact tq_));(·rfl);(·rfl);(·rfl);(·(first|exact ybf|(refine .inl ?_;(exact fun w s => hd_weak w s))|exact to_))))|refine ycg ?_))
  refine nx_tq ?_
  refine tx_1 true 24 [25, 26] (by kernel_rfl) ?_
  refine ybg 1 rfl rfl rfl rfl (Nat.le_of_ble_eq_true rfl) rfl st2 rfl rfl ?_ ?_ ?_
  · (first|exact ybf|(refine .inl ?_;(exact fun w s => hd_weak w s))|exact to_)
  · (first|exact ybf|(refine .inl ?_;(exact fun w s => hd_weak w s))|exact to_)
  refine ycg ?_
  refine nx_tq ?_
  refine tx_run true [25] [26] (by kernel_rfl) ?_
  repeat' (refine ycf ?_;(first|(first|(apply ybm;(·(first|(first|exact tk_|(exact qv_len_bstr rfl)|(refine qv_minT rfl rfl hjn1)|(refine qv_minT rfl rfl hjv1)|(refine qv_minT rfl rfl hjr1)|(exact qv_str_to rfl rfl (by omega)))|exact tq_));(·rfl);(·rfl);(·(exact fun w s => hd_weak w s)))|refine ybl rfl rfl ?_|((fail_if_success (refine ybi rfl ?_));refine ybj rfl ?_ ?_<;>(intro ht;rw [ht];first|replace ht := oet_ ht|replace ht := oef_ ht|skip))|(refine tb_ ?_ ?_ ?_;(·(first|exact ybf|(refine .inl ?_;(exact fun w s => hd_weak w s))|exact to_));(·intro _;(first|exact ybf|(refine .inl ?_;(exact fun w s => hd_weak w s))|exact to_));intro _)|(first|(refine tqs_ ?_ ?_ ?_;(·(first|exact ybf|(refine .inl ?_;(exact fun w s => hd_weak w s))|exact to_));(·(first|exact ybf|(refine .inl ?_;(exact fun w s => hd_weak w s))|exact to_))))|(apply ybn;(·(first|(first|exact tk_|(exact qv_len_bstr rfl)|(refine qv_minT rfl rfl hjn1)|(refine qv_minT rfl rfl hjv1)|(refine qv_minT rfl rfl hjr1)|(exact qv_str_to rfl rfl (by omega)))|exact tq_));(·rfl);(·rfl);(·rfl);(·(first|exact ybf|(refine .inl ?_;(exact fun w s => hd_weak w s))|exact to_))))|refine ycg ?_))
  refine nx_tq ?_
  refine tx_1 true 26 [] (by kernel_rfl) ?_
  refine ybg 1 rfl rfl rfl rfl (Nat.le_of_ble_eq_true rfl) rfl st3 rfl rfl ?_ ?_ ?_
  · (first|exact ybf|(refine .inl ?_;(exact fun w s => hd_weak w s))|exact to_)
  · (first|exact ybf|(refine .inl ?_;(exact fun w s => hd_weak w s))|exact to_)
  refine ycg ?_
  refine nx_tq ?_
  refine tx_end ?_
  refine yby ?_
  refine ybo ?_
  refine ybp ?_
  refine rx_to (F' := [(1, .pointer (some ⟨b1, 0, none⟩)), (2, .pointer (some ⟨b2, 0, none⟩))]) ts_ rfl ?_
  refine yba ma_buildSlice0 rfl rfl rfl ybf (fun _ => ybf) ?_
  intro b27
  refine rx_rowOf 1 0 0 (by omega) (by unfold maxLen; omega) rfl ?_
  repeat' (first|(refine ycf ?_;apply ybk;(·first|(first|exact tk_|(refine qv_minT rfl rfl hjs1)|(apply qv_slice_to;(·rfl);(·rfl);(·omega);(·omega))));(·rfl);(·rfl))|refine t1_ ?_|(refine ta_ ?_;intro _)|((fail_if_success (refine ybi rfl ?_));refine ybj rfl ?_ ?_<;>(intro ht;rw [ht];first|replace ht := oet_ ht|replace ht := oef_ ht|skip))|(refine ych ?_;first|(refine ybw rfl ?_ ?_<;>intro ht)|(refine ybx rfl ?_ ?_<;>intro ht)))
  have hjl : (bls (st.take js)).length = js := by rw [bls_len, List.length_take]; omega
  have hsd : Sc h 1 (.slice ads js caps) js (bls (st.take js)) := by
    have := sc_take (j := js) g3 (by omega)
    rwa [Nat.mul_one, show (bls st).take js = bls (st.take js) by simp [bls, List.map_take]] at this
  refine rx_append_sc (sz := 1) (m := js) (news := bls (st.take js)) 0 rfl rfl rfl hsd (bls_one _) rfl (by omega) (by unfold maxLen; omega) (by omega) rfl rfl rfl ybf (fun _ => ybf) ?_
  intro v35 _
  refine rx_persist rfl fun h3 hle3 hs3 => ?_
  have hs3' : Sc h3 1 v35 (st.take js).length (bls (st.take js)) := by
    rw [show (st.take js).length = js by rw [← bls_len, hjl]]
    simpa using hs3
  obtain ⟨_, ad5, cap5, rfl, _, _⟩ := id hs3'
  obtain ⟨z, hz⟩ : ∃ z : Ts, z = ⟨cutT ⟨ki, cl, ha, bo, kk, nm, va, st, ra⟩, .string (bstr (nm.take jn)), .string (bstr (va.take jv)), .slice ad5 (st.take js).length cap5, .string (bstr (ra.take jr))⟩ := ⟨_, rfl⟩
  have st4 : spl (rtc ⟨⟨ki, cl, ha, bo, kk, nm, va, st, ra⟩, .string (bstr (nm.take jn)), .string (bstr (va.take jv)), .slice ads st.length caps, .string (bstr (ra.take jr))⟩) (0 + 7) [.slice ad5 (st.take js).length cap5] = rtc z := by rw [hz]; rfl
  have hzo : ∀ u ∈ rtc z, u.oneCell' = true := by
    rw [hz]
    exact List.all_eq_true.1 rfl
  repeat' (first|(refine ycf ?_;apply ybk;(·first|(first|exact tk_|(apply yad;(·rfl);(·exact yaz 0 rfl);(·rfl))|(apply yad;(·rfl);(·exact yaz 1 rfl);(·rfl))));(·rfl);(·rfl))|(first|(refine ybg 1 rfl rfl rfl rfl (nble rfl) rfl st4 rfl rfl ?_ ?_ ?_;(·(exact to_));(·(exact to_)))|(refine ybg 0 rfl rfl rfl rfl (nble rfl) (List.all_eq_true.2 hzo) (ybh rfl) rfl rfl ?_ ?_ ?_;(·(exact to_));(·(exact to_))))|refine t1_ ?_|(refine ta_ ?_;intro _)|((fail_if_success (refine ybi rfl ?_));refine ybj rfl ?_ ?_<;>(intro ht;rw [ht];first|replace ht := oet_ ht|replace ht := oef_ ht|skip))|(refine ych ?_;first|(refine ybw rfl ?_ ?_<;>intro ht)|(refine ybx rfl ?_ ?_<;>intro ht)))
  refine nx_ret1 rfl (rv_cells rfl (yaz 0 rfl) rfl) (fun w' s' => ⟨(h3, z), rfl, s'.nil, ?_, by rw [hz]⟩)
  rw [hz]
  have e1 : nm.take jn = nm.take 260 := by rw [hjn]; exact takeT_min
  have e2 : va.take jv = va.take 300 := by rw [hjv]; exact takeT_min
  have e3 : ra.take jr = ra.take 100 := by rw [hjr]; exact takeT_min
  have e4 : st.take js = st.take 40 := by rw [hjs]; exact takeT_min
  rw [e4] at hs3'
  exact ⟨by show Value.string _ = Value.string _; rw [e1]; rfl, by show Value.string _ = Value.string _; rw [e2]; rfl, by rw [e4]; exact hs3', by show Value.string _ = Value.string _; rw [e3]; rfl⟩
end Go.Proofs.YtndpclcbobgdlaaGreatDoor
end

section
namespace Go.Proofs.YtndpclcbobgdlaaGreatDoor
open Go Go.Ck
set_option maxHeartbeats 4000000
def docT (x : Ts) : Ts := ⟨x.a, .string (bstr x.a.name), .string (bstr x.a.value), x.sv, .string (bstr x.a.raw)⟩
theorem docT_ok {h : View} {x : Ts} (hx : Tsv h x) : Rtv h (docT x) := ⟨rfl, rfl, hx.s, rfl⟩
theorem from34_sp (x : Ts) (h : View) (hx : Tsv h x) (w : World) (s : St ⟨w, h, []⟩ h [] w) :
    Calls Tryz.prog 10 [.agg (tsc x).toArray].toArray w fun e w' => e = .returned (.agg (rtc (docT x)).toArray) ∧ St ⟨w, h, []⟩ h [] w' := by
  obtain ⟨⟨ki, cl, ha, bo, kk, nm, va, st, ra⟩, nv, vv, sv, rv⟩ := x
  obtain ⟨g1, g2, g3, g4⟩ := hx
  dsimp only at g1 g2 g3 g4
  obtain ⟨_, adn, capn, rfl, _, _⟩ := id g1
  obtain ⟨_, adv, capv, rfl, _, _⟩ := id g2
  obtain ⟨_, ads, caps, rfl, _, _⟩ := id g3
  obtain ⟨_, adr, capr, rfl, _, _⟩ := id g4
  refine calls_enter Tryz.func10 rfl Tryz.ntmps10 rfl s ?_
  have hfz : fillL (fun i : Nat => ([(0, 1), (1, 1), (2, 1), (3, 1), (4, 1), (5, 1), (6, 1), (7, 1), (8, 1)] : List (Nat × Nat))[i]?) [.int .i64 0, .int .i64 0, .int .i64 0, .int .i64 0, .int .i64 0, .string ⟨#[]⟩, .string ⟨#[]⟩, .slice none 0 0, .string ⟨#[]⟩] [(0, .int .i64 ki), (1, .int .i64 cl), (2, .int .i64 ha), (3, .int .i64 bo), (4, .int .i64 kk), (5, .string (bstr nm)), (6, .string (bstr va)), (7, .slice ads st.length caps), (8, .string (bstr ra))] = some (rtc (docT ⟨⟨ki, cl, ha, bo, kk, nm, va, st, ra⟩, .slice adn nm.length capn, .slice adv va.length capv, .slice ads st.length caps, .slice adr ra.length capr⟩)) := by kernel_rfl
  repeat' (first|(refine ycf ?_;apply ybk;(·first|(first|exact tk_|exact qv_str_bs rfl g1|exact qv_str_bs rfl g2|exact qv_str_bs rfl g4|(apply yax (cs := rtc (docT ⟨⟨ki, cl, ha, bo, kk, nm, va, st, ra⟩, .slice adn nm.length capn, .slice adv va.length capv, .slice ads st.length caps, .slice adr ra.length capr⟩));(·rfl);(·exact hfz))));(·rfl);(·rfl))|(refine ybg 0 rfl rfl rfl rfl (nble rfl) rfl (ybh rfl) rfl rfl ?_ ?_ ?_;(·(exact to_));(·(exact to_)))|refine t1_ ?_|(refine ta_ ?_;intro _)|((fail_if_success (refine ybi rfl ?_));refine ybj rfl ?_ ?_<;>(intro ht;rw [ht];first|replace ht := oet_ ht|replace ht := oef_ ht|skip))|(refine ych ?_;first|(refine ybw rfl ?_ ?_<;>intro ht)|(refine ybx rfl ?_ ?_<;>intro ht)))
  exact nx_ret1 rfl (rv_cells rfl (yaz 0 rfl) rfl) (fun w' s' => ⟨rfl, s'.nil⟩)
theorem Same34_sp (va vb : Value) (A B : List Ts) (h : View) (ha : Rts h va A) (hb : Rts h vb B) (e : A.map Ts.a = B.map Ts.a) (hn : A.length ≤ 1000) (hby : ∀ x ∈ A, Bytes x.a.name ∧ Bytes x.a.value ∧ Bytes x.a.raw) (hsz : ((A.map Ts.a).flatMap encT).length ≤ 900000) (w : World) (s : St ⟨w, h, []⟩ h [] w) :
    Calls Tryz.prog 9 [va, vb].toArray w fun e w' => e = .returned (.bool true) ∧ St ⟨w, h, []⟩ h [] w' := by
  have el : A.length = B.length := by simpa using congrArg List.length e
  have hbyB : ∀ x ∈ B, Bytes x.a.name ∧ Bytes x.a.value ∧ Bytes x.a.raw := fun x hx => by
    have : x.a ∈ A.map Ts.a := by rw [e]; exact List.mem_map_of_mem hx
    obtain ⟨y, hy, e2⟩ := List.mem_map.1 this
    rw [← e2]
    exact hby y hy
  have W1 := Write34_sp va A h ha hn hby hsz
  have W2 := Write34_sp vb B h hb (by omega) hbyB (by rw [← e]; exact hsz)
  rw [← e] at W2
  obtain ⟨_, ada, capa, rfl, _, _⟩ := id ha.1
  obtain ⟨_, adb, capb, rfl, _, _⟩ := id hb.1
  have hst : ((bstr (if allR (A.map Ts.a) = true then encL (A.map Ts.a) else [])).toList == (bstr (if allR (A.map Ts.a) = true then encL (A.map Ts.a) else [])).toList) = true := beq_self_eq_true _
  generalize bstr (if allR (A.map Ts.a) = true then encL (A.map Ts.a) else []) = q at W1 W2 hst
  generalize allR (A.map Ts.a) = b at W1 W2
  have hbb : (b == b) = true := beq_self_eq_true b
  have hel : (A.length : Int) = B.length := by omega
  refine calls_enter Tryz.func9 rfl Tryz.ntmps9 rfl s ?_
  repeat' (first|(refine ycf ?_;apply ybk;(·first|(first|exact qv_eql_bool rfl rfl hbb|exact qv_eql_str rfl rfl hst|exact tk_));(·rfl);(·rfl))|(refine ybg 0 rfl rfl rfl rfl (Nat.le_of_ble_eq_true rfl) rfl (ybh rfl) rfl rfl ?_ ?_ ?_;(·(exact to_));(·(exact to_)))|refine t1_ ?_|(refine ta_ ?_;intro _)|((fail_if_success (refine ybi rfl ?_));refine ybj rfl ?_ ?_<;>(intro ht;rw [ht];first|replace ht := oet_ ht|replace ht := oef_ ht|skip))|(refine ych ?_;first|(refine ybw rfl ?_ ?_<;>intro ht)|(refine ybx rfl ?_ ?_<;>intro ht)))
  (refine ycn (ycp Tryz.func6 rfl (by kernel_rfl) rfl) (W1) rfl rfl rfl ?_ ?_; (· (exact to_)))
  repeat' (first|(refine ycf ?_;apply ybk;(·first|(first|exact qv_eql_bool rfl rfl hbb|exact qv_eql_str rfl rfl hst|exact tk_));(·rfl);(·rfl))|(refine ybg 0 rfl rfl rfl rfl (Nat.le_of_ble_eq_true rfl) rfl (ybh rfl) rfl rfl ?_ ?_ ?_;(·(exact to_));(·(exact to_)))|refine t1_ ?_|(refine ta_ ?_;intro _)|((fail_if_success (refine ybi rfl ?_));refine ybj rfl ?_ ?_<;>(intro ht;rw [ht];first|replace ht := oet_ ht|replace ht := oef_ ht|skip))|(refine ych ?_;first|(refine ybw rfl ?_ ?_<;>intro ht)|(refine ybx rfl ?_ ?_<;>intro ht)))
  (refine ycn (ycp Tryz.func6 rfl (by kernel_rfl) rfl) (W2) rfl rfl rfl ?_ ?_; (· (exact to_)))
  repeat' (first|(refine ycf ?_;apply ybk;(·first|(first|exact qv_eql_bool rfl rfl hbb|exact qv_eql_str rfl rfl hst|exact tk_));(·rfl);(·rfl))|(refine ybg 0 rfl rfl rfl rfl (Nat.le_of_ble_eq_true rfl) rfl (ybh rfl) rfl rfl ?_ ?_ ?_;(·(exact to_));(·(exact to_)))|refine t1_ ?_|(refine ta_ ?_;intro _)|((fail_if_success (refine ybi rfl ?_));refine ybj rfl ?_ ?_<;>(intro ht;rw [ht];first|replace ht := oet_ ht|replace ht := oef_ ht|skip))|(refine ych ?_;first|(refine ybw rfl ?_ ?_<;>intro ht)|(refine ybx rfl ?_ ?_<;>intro ht)))
  exact nx_ret1 rfl (rv_tmp rfl) (fun w' s' => ⟨rfl, s'.nil⟩)
end Go.Proofs.YtndpclcbobgdlaaGreatDoor
end

section
namespace Go.Proofs.YtndpclcbobgdlaaGreatDoor
open Go Go.Ck
set_option maxHeartbeats 4000000
def RbT (x : Ts) : Prop := Bytes x.a.name ∧ Bytes x.a.value ∧ Bytes x.a.raw
def RlT (x : Ts) : Prop := x.a.name.length ≤ 9223372036854775807 ∧ x.a.value.length ≤ 9223372036854775807 ∧ x.a.raw.length ≤ 9223372036854775807 ∧ x.a.stay.length ≤ 9223372036854775807
theorem cutT_by {a : Ta} (h : Bytes a.name ∧ Bytes a.value ∧ Bytes a.raw) : Bytes (cutT a).name ∧ Bytes (cutT a).value ∧ Bytes (cutT a).raw :=
  ⟨fun b hb => h.1 b (List.mem_of_mem_take hb), fun b hb => h.2.1 b (List.mem_of_mem_take hb), fun b hb => h.2.2 b (List.mem_of_mem_take hb)⟩
theorem cutT_len (a : Ta) : (cutT a).name.length ≤ 260 ∧ (cutT a).value.length ≤ 300 ∧ (cutT a).raw.length ≤ 100 ∧ (cutT a).stay.length ≤ 40 := by
  refine ⟨?_, ?_, ?_, ?_⟩ <;> simp only [cutT, List.length_take] <;> omega
theorem few34_sp (v : Value) (l : List Ts) (h : View) (hs : Rts h v l) (hb : ∀ x ∈ l, RbT x) (hll : ∀ x ∈ l, RlT x) (hl : l.length ≤ 9223372036854775807) (w : World) (s : St ⟨w, h, []⟩ h [] w) :
    Calls Tryz.prog 5 [v, .int .i64 12].toArray w fun e w' => ∃ z : View × Value × Value × List Ts × List Ts, e = .returned (.tuple #[z.2.1, z.2.2.1]) ∧ St ⟨w, h, []⟩ z.1 [] w' ∧
      (Rts z.1 z.2.1 z.2.2.2.1 ∧ Tss z.1 z.2.2.1 z.2.2.2.2 ∧ z.2.2.2.1.map Ts.a = (l.take 12).map (fun x => cutT x.a) ∧ z.2.2.2.2.map Ts.a = (l.take 12).map (fun x => cutT x.a)) := by
  obtain ⟨hs, hsv⟩ := hs
  obtain ⟨_, ad, cap, rfl, hcap, _⟩ := id hs
  refine calls_enter Tryz.func5 rfl Tryz.ntmps5 rfl s ?_
  repeat' (first|refine tw_ ?_|(refine ta_ ?_;intro _)|((fail_if_success (refine ybi rfl ?_));refine ybj rfl ?_ ?_<;>(intro ht;rw [ht];first|replace ht := oet_ ht|replace ht := oef_ ht|skip))|(refine ych ?_;first|(refine ybw rfl ?_ ?_<;>intro ht)|(refine ybx rfl ?_ ?_<;>intro ht)))
  refine cx_row 36 9 ?_
  refine cx_row 39 9 ?_
  refine cx_loop (X := Nat × View × (Value × List Ts) × (Value × List Ts)) (fun y => [(0, .slice ad l.length cap), (1, .int .i64 12), (6, y.2.2.1.1), (7, y.2.2.2.1), (8, .int .i64 (y.1 : Nat))]) (fun y => y.2.1) (fun y => [Res.row 36 9 y.2.2.1.1 y.2.2.1.2.length (y.2.2.1.2.flatMap rtc), Res.row 39 9 y.2.2.2.1 y.2.2.2.2.length (y.2.2.2.2.flatMap tsc)])
    (fun y => y.1 ≤ l.length ∧ y.1 ≤ 12 ∧ Le h y.2.1 ∧ (∀ o ∈ y.2.2.1.2, Rtv y.2.1 o) ∧ (∀ o ∈ y.2.2.2.2, Tsv y.2.1 o) ∧ y.2.2.1.2.map Ts.a = (l.take y.1).map (fun x => cutT x.a) ∧ y.2.2.2.2.map Ts.a = (l.take y.1).map (fun x => cutT x.a)) (fun y => 12 - y.1) (0, h, (.slice none 0 0, []), (.slice none 0 0, [])) ⟨Nat.zero_le _, Nat.zero_le _, Le.refl _, fun o ho => (by cases ho), fun o ho => (by cases ho), rfl, rfl⟩ ts_ (fun _ s => s.picks [1, 0]) ?_
  rintro ⟨k, hk, ⟨va, A⟩, ⟨vb, B⟩⟩ ⟨p1, p0, p2, p3, p4, p5, p6⟩
  dsimp only at p1 p0 p2 p3 p4 p5 p6 ⊢
  have hAl : A.length = k := by
    have := congrArg List.length p5
    simp at this
    omega
  have hBl : B.length = k := by
    have := congrArg List.length p6
    simp at this
    omega
  by_cases hkl : k < l.length
  · by_cases hk12 : k < 12
    · obtain ⟨bs, o, rfl⟩ := hs.ad (by omega) (by omega)
      have hs3 := hs.mono p2
      have hel : ∀ L, Cells hk L ⟨bs, o + k * 9, none⟩ (rtc l[k]) := fun L => hs3.elem rtc_len k hkl
      have hxv : Rtv hk l[k] := (hsv _ (List.getElem_mem hkl)).mono p2
      have hlim := hll _ (List.getElem_mem hkl)
      have hbx := hb _ (List.getElem_mem hkl)
      have htk : (l.take (k + 1)).map (fun x => cutT x.a) = (l.take k).map (fun x => cutT x.a) ++ [cutT l[k].a] := by rw [List.take_succ_eq_append_getElem hkl, List.map_append]; rfl
      generalize l[k] = e0 at hel hxv hlim hbx htk
      have T1 := tame34_sp e0 hk hxv hlim
      repeat' (first|(refine ycf ?_;apply ybk;(·first|(first|exact tk_|(apply yad;(·rfl);(·exact hel _);(·exact rtc_len e0))));(·rfl);(·rfl))|refine t1_ ?_|(refine ta_ ?_;intro _)|((fail_if_success (refine ybi rfl ?_));refine ybj rfl ?_ ?_<;>(intro ht;rw [ht];first|replace ht := oet_ ht|replace ht := oef_ ht|skip))|(refine ych ?_;first|(refine ybw rfl ?_ ?_<;>intro ht)|(refine ybx rfl ?_ ?_<;>intro ht)))
      (refine yco (ycp Tryz.func13 rfl (by kernel_rfl) rfl) (T1) rfl rfl rfl ?_ ?_ ?_; (· (exact to_)); (· intro _ _ hle; (exact to_)); intro x px hle)
      obtain ⟨h2, z⟩ := x
      obtain ⟨zv, za⟩ := px
      dsimp only at zv za hle ⊢
      have hle2 := hle
      have hzo := zv.ones
      have hzb := cutT_by hbx
      have hzl := cutT_len e0.a
      rw [← za] at hzb hzl
      have T2 := to34_sp z h2 zv hzb (by omega)
      repeat' (first|(refine ycf ?_;apply ybk;(·first|(first|exact tk_|(apply yad;(·rfl);(·exact yaz 0 rfl);(·exact rtc_len z))));(·rfl);(·rfl))|(refine ybg 0 rfl rfl rfl rfl (Nat.le_of_ble_eq_true rfl) (List.all_eq_true.2 hzo) (ybh rfl) rfl rfl ?_ ?_ ?_;(·(exact to_));(·(exact to_)))|refine t1_ ?_|(refine ta_ ?_;intro _)|((fail_if_success (refine ybi rfl ?_));refine ybj rfl ?_ ?_<;>(intro ht;rw [ht];first|replace ht := oet_ ht|replace ht := oef_ ht|skip))|(refine ych ?_;first|(refine ybw rfl ?_ ?_<;>intro ht)|(refine ybx rfl ?_ ?_<;>intro ht)))
      rename_i b9
      refine cx_region_drawT [Res.blk b9 (.cells (rtc z).toArray 36 (0, 0))] [2, 3, 6, 7, 8, 9, 10] rfl (by kernel_rfl) ?_
      repeat' (refine ycf ?_;(first|(first|(apply ybm;(·(first|(first|exact tk_|(apply yad;(·rfl);(·exact yaz 0 rfl);(·exact rtc_len z)))|exact tq_));(·rfl);(·rfl);(·(exact fun _ s => hd_m (Le.refl _) (all_m1 tmh_) _ s)))|refine ybl rfl rfl ?_|((fail_if_success (refine ybi rfl ?_));refine ybj rfl ?_ ?_<;>(intro ht;rw [ht];first|replace ht := oet_ ht|replace ht := oef_ ht|skip))|(refine tb_ ?_ ?_ ?_;(·(first|exact ybf|(refine .inl ?_;(exact fun _ s => hd_m (Le.refl _) (all_m1 tmh_) _ s))|exact to_));(·intro _;(first|exact ybf|(refine .inl ?_;(exact fun _ s => hd_m (Le.refl _) (all_m1 tmh_) _ s))|exact to_));intro _)|(first|(refine tqs_ ?_ ?_ ?_;(·(first|exact ybf|(refine .inl ?_;(exact fun _ s => hd_m (Le.refl _) (all_m1 tmh_) _ s))|exact to_));(·(first|exact ybf|(refine .inl ?_;(exact fun _ s => hd_m (Le.refl _) (all_m1 tmh_) _ s))|exact to_))))|(apply ybn;(·(first|(first|exact tk_|(apply yad;(·rfl);(·exact yaz 0 rfl);(·exact rtc_len z)))|exact tq_));(·rfl);(·rfl);(·rfl);(·(first|exact ybf|(refine .inl ?_;(exact fun _ s => hd_m (Le.refl _) (all_m1 tmh_) _ s))|exact to_))))|refine ycg ?_))
      refine rx_append (sz := 9) 2 rfl rfl rfl (yaz 0 rfl) (by show (rtc z).length = 1 * 9; exact rtc_len z) (fun u hu => hzo u hu) rfl (by omega) (by unfold maxLen; omega) (by omega) rfl rfl rfl ?_ ?_ ?_
      · (first|exact ybf|(refine .inl ?_;(exact fun _ s => hd_m (Le.refl _) (all_m1 tmh_) _ s))|exact to_)
      · intro v';(first|exact ybf|(refine .inl ?_;(exact fun _ s => hd_m (Le.refl _) (all_m1 tmh_) _ s))|exact to_)
      intro va2 _
      repeat' (refine ycf ?_;(first|(first|(apply ybm;(·(first|(first|exact tk_|(apply yad;(·rfl);(·exact yaz 0 rfl);(·exact rtc_len z)))|exact tq_));(·rfl);(·rfl);(·(exact fun _ s => hd_m (Le.refl _) (all_m1 tmh_) _ s)))|refine ybl rfl rfl ?_|((fail_if_success (refine ybi rfl ?_));refine ybj rfl ?_ ?_<;>(intro ht;rw [ht];first|replace ht := oet_ ht|replace ht := oef_ ht|skip))|(refine tb_ ?_ ?_ ?_;(·(first|exact ybf|(refine .inl ?_;(exact fun _ s => hd_m (Le.refl _) (all_m1 tmh_) _ s))|exact to_));(·intro _;(first|exact ybf|(refine .inl ?_;(exact fun _ s => hd_m (Le.refl _) (all_m1 tmh_) _ s))|exact to_));intro _)|(first|(refine tqs_ ?_ ?_ ?_;(·(first|exact ybf|(refine .inl ?_;(exact fun _ s => hd_m (Le.refl _) (all_m1 tmh_) _ s))|exact to_));(·(first|exact ybf|(refine .inl ?_;(exact fun _ s => hd_m (Le.refl _) (all_m1 tmh_) _ s))|exact to_))))|(apply ybn;(·(first|(first|exact tk_|(apply yad;(·rfl);(·exact yaz 0 rfl);(·exact rtc_len z)))|exact tq_));(·rfl);(·rfl);(·rfl);(·(first|exact ybf|(refine .inl ?_;(exact fun _ s => hd_m (Le.refl _) (all_m1 tmh_) _ s))|exact to_))))|refine ycg ?_))
      refine yco (ycp Tryz.func14 rfl (by kernel_rfl) rfl) T2 rfl rfl rfl ?_ ?_ ?_
      · (first|exact ybf|(refine .inl ?_;(exact fun _ s => hd_m (Le.refl _) (all_m1 tmh_) _ s))|exact to_)
      · intro _ _ hle; exact .inl fun _ s => hd_m hle (all_m1 tmh_) _ s
      intro x px hle
      obtain ⟨h3, z2⟩ := x
      obtain ⟨zv2, za2⟩ := px
      dsimp only at zv2 za2 hle ⊢
      have hzo2 := zv2.ones
      repeat' (refine ycf ?_;(first|(first|(apply ybm;(·(first|(first|exact tk_|(apply yad;(·rfl);(·exact yaz 0 rfl);(·exact rtc_len z)))|exact tq_));(·rfl);(·rfl);(·(exact fun _ s => hd_m hle (all_m1 tmh_) _ s)))|refine ybl rfl rfl ?_|((fail_if_success (refine ybi rfl ?_));refine ybj rfl ?_ ?_<;>(intro ht;rw [ht];first|replace ht := oet_ ht|replace ht := oef_ ht|skip))|(refine tb_ ?_ ?_ ?_;(·(first|exact ybf|(refine .inl ?_;(exact fun _ s => hd_m hle (all_m1 tmh_) _ s))|exact to_));(·intro _;(first|exact ybf|(refine .inl ?_;(exact fun _ s => hd_m hle (all_m1 tmh_) _ s))|exact to_));intro _)|(first|(refine tqs_ ?_ ?_ ?_;(·(first|exact ybf|(refine .inl ?_;(exact fun _ s => hd_m hle (all_m1 tmh_) _ s))|exact to_));(·(first|exact ybf|(refine .inl ?_;(exact fun _ s => hd_m hle (all_m1 tmh_) _ s))|exact to_))))|(apply ybn;(·(first|(first|exact tk_|(apply yad;(·rfl);(·exact yaz 0 rfl);(·exact rtc_len z)))|exact tq_));(·rfl);(·rfl);(·rfl);(·(first|exact ybf|(refine .inl ?_;(exact fun _ s => hd_m hle (all_m1 tmh_) _ s))|exact to_))))|refine ycg ?_))
      refine rx_append (sz := 9) 4 rfl rfl rfl (yaz 0 rfl) (by show (tsc z2).length = 1 * 9; exact tsc_len z2) (fun u hu => hzo2 u hu) rfl (by omega) (by unfold maxLen; omega) (by omega) rfl rfl rfl ?_ ?_ ?_
      · (first|exact ybf|(refine .inl ?_;(exact fun _ s => hd_m hle (all_m1 tmh_) _ s))|exact to_)
      · intro v';(first|exact ybf|(refine .inl ?_;(exact fun _ s => hd_m hle (all_m1 tmh_) _ s))|exact to_)
      intro vb2 _
      repeat' (refine ycf ?_;(first|(first|(apply ybm;(·(first|(first|exact tk_|(apply yad;(·rfl);(·exact yaz 0 rfl);(·exact rtc_len z)))|exact tq_));(·rfl);(·rfl);(·(exact fun _ s => hd_m hle (all_m1 tmh_) _ s)))|refine ybl rfl rfl ?_|((fail_if_success (refine ybi rfl ?_));refine ybj rfl ?_ ?_<;>(intro ht;rw [ht];first|replace ht := oet_ ht|replace ht := oef_ ht|skip))|(refine tb_ ?_ ?_ ?_;(·(first|exact ybf|(refine .inl ?_;(exact fun _ s => hd_m hle (all_m1 tmh_) _ s))|exact to_));(·intro _;(first|exact ybf|(refine .inl ?_;(exact fun _ s => hd_m hle (all_m1 tmh_) _ s))|exact to_));intro _)|(first|(refine tqs_ ?_ ?_ ?_;(·(first|exact ybf|(refine .inl ?_;(exact fun _ s => hd_m hle (all_m1 tmh_) _ s))|exact to_));(·(first|exact ybf|(refine .inl ?_;(exact fun _ s => hd_m hle (all_m1 tmh_) _ s))|exact to_))))|(apply ybn;(·(first|(first|exact tk_|(apply yad;(·rfl);(·exact yaz 0 rfl);(·exact rtc_len z)))|exact tq_));(·rfl);(·rfl);(·rfl);(·(first|exact ybf|(refine .inl ?_;(exact fun _ s => hd_m hle (all_m1 tmh_) _ s))|exact to_))))|refine ycg ?_))
      repeat' (first|(refine ycf ?_;apply ybk;(·first|(exact tk_));(·rfl);(·rfl))|refine t1_ ?_|(refine ta_ ?_;intro _)|((fail_if_success (refine ybi rfl ?_));refine ybj rfl ?_ ?_<;>(intro ht;rw [ht];first|replace ht := oet_ ht|replace ht := oef_ ht|skip))|(refine ych ?_;first|(refine ybw rfl ?_ ?_<;>intro ht)|(refine ybx rfl ?_ ?_<;>intro ht)))
      have hcA : (A ++ [z]).flatMap rtc = A.flatMap rtc ++ rtc z := by simp
      have hcB : (B ++ [z2]).flatMap tsc = B.flatMap tsc ++ tsc z2 := by simp
      refine nx_round (k + 1, h3, (va2, A ++ [z]), (vb2, B ++ [z2])) ⟨by show k + 1 ≤ _; omega, by show k + 1 ≤ 12; omega, p2.trans (hle2.trans hle), fun o ho => ?_, fun o ho => ?_, ?_, ?_⟩ (by show 12 - (k + 1) < 12 - k; omega) ts_ (fun _ s => ?_)
      · rcases List.mem_append.1 ho with ho | ho
        · exact (p3 o ho).mono (hle2.trans hle)
        · rw [List.mem_singleton.1 ho]; exact zv.mono hle
      · rcases List.mem_append.1 ho with ho | ho
        · exact (p4 o ho).mono (hle2.trans hle)
        · rw [List.mem_singleton.1 ho]; exact zv2
      · dsimp only
        rw [htk, List.map_append, p5]
        simp [za]
      · dsimp only
        rw [htk, List.map_append, p6]
        simp [za, za2]
      · dsimp only
        rw [List.length_append, List.length_append, hcA, hcB]
        exact s.picks [3, 3]
    · refine cx_persist rfl fun h5 hl5 q5 => ?_
      refine cx_persist rfl fun h6 hl6 q6 => ?_
      repeat' (first|(refine ycf ?_;apply ybk;(·first|(exact tk_));(·rfl);(·rfl))|refine t1_ ?_|(refine ta_ ?_;intro _)|((fail_if_success (refine ybi rfl ?_));refine ybj rfl ?_ ?_<;>(intro ht;rw [ht];first|replace ht := oet_ ht|replace ht := oef_ ht|skip))|(refine ych ?_;first|(refine ybw rfl ?_ ?_<;>intro ht)|(refine ybx rfl ?_ ?_<;>intro ht)))
      refine nx_ret2 rfl (rv_tmp rfl) (rv_tmp rfl) (fun w' s' => ⟨(h6, va, vb, A, B), rfl, s'.nil, ⟨q5.mono hl6, fun o ho => (p3 o ho).mono (hl5.trans hl6)⟩, ⟨q6, fun o ho => (p4 o ho).mono (hl5.trans hl6)⟩, ?_, ?_⟩)
      · show A.map Ts.a = _
        rw [p5, show k = 12 by omega]
      · show B.map Ts.a = _
        rw [p6, show k = 12 by omega]
  · refine cx_persist rfl fun h5 hl5 q5 => ?_
    refine cx_persist rfl fun h6 hl6 q6 => ?_
    repeat' (first|(refine ycf ?_;apply ybk;(·first|(exact tk_));(·rfl);(·rfl))|refine t1_ ?_|(refine ta_ ?_;intro _)|((fail_if_success (refine ybi rfl ?_));refine ybj rfl ?_ ?_<;>(intro ht;rw [ht];first|replace ht := oet_ ht|replace ht := oef_ ht|skip))|(refine ych ?_;first|(refine ybw rfl ?_ ?_<;>intro ht)|(refine ybx rfl ?_ ?_<;>intro ht)))
    refine nx_ret2 rfl (rv_tmp rfl) (rv_tmp rfl) (fun w' s' => ⟨(h6, va, vb, A, B), rfl, s'.nil, ⟨q5.mono hl6, fun o ho => (p3 o ho).mono (hl5.trans hl6)⟩, ⟨q6, fun o ho => (p4 o ho).mono (hl5.trans hl6)⟩, ?_, ?_⟩)
    · show A.map Ts.a = _
      rw [p5, List.take_of_length_le (by omega), List.take_of_length_le (by omega)]
    · show B.map Ts.a = _
      rw [p6, List.take_of_length_le (by omega), List.take_of_length_le (by omega)]
end Go.Proofs.YtndpclcbobgdlaaGreatDoor
end

section
namespace Go.Ck
open Go
section
variable {P : Program} {n : Nat} {F : List (Nat × Value)} {h : View} {L : List Res} {dst : Option Nat} {ty : Nat} {pos : String} {af : Array Edge} {gd : Option (Nat × Bool)}
theorem qv_slice_ijT {T e k : Nat} {x y z : Operand} {ad : Option Addr} {len cap : Nat} (i jn : Nat) {i' j : Int} {ki kj : IntKind} [tu : TyU P T (.slice e)] [ts : TyS P e k] (hx : ev F x = some (.slice ad len cap)) (hy : ev F y = some (.int ki i')) (hz : ev F z = some (.int kj j)) (hi : i' = (i : Int)) (hj : j = (jn : Int)) (h1 : i ≤ jn) (h2 : jn ≤ cap) :
    QV P n F h L ⟨dst, .slice T x (some y) (some z) none, ty, pos, af, gd⟩ (.slice (cutF ad cap i k) (jn - i) (cap - i)) := .mk fun a w f s => by
  subst hi hj
  have h3 : (0 : Int) ≤ (i : Int) ∧ (i : Int) ≤ (jn : Int) := by omega
  simp [execOp, f.ev hx, f.ev hy, f.ev hz, Instr.sliceAt, Instr.slice, Instr.sliceBounds, Instr.sliceBound, asIntOf, run_underlying tu.u, h3, h2, ts.s, cutF]
  omega
end
end Go.Ck
namespace Go.Proofs.YtndpclcbobgdlaaGreatDoor
open Go Go.Ck
set_option maxHeartbeats 4000000
theorem rx_bviewT {P : Program} {n : Nat} {K : Bs} {F : List (Nat × Value)} {h : View} {L : List Res} {Q : Exit → Act → World → Prop} {g : Rg} {prs : List (Nat × Oper)} {b : Nat} {e : TypeId} {cs : Array Value} (k : Nat) (hA : K.A = []) (hk : L[k]? = some (Res.blk b (.cells cs e (0, 0)))) (hx : ∀ h', Le h h' → h' b = some (.cells cs e (0, 0)) → RX P n K g prs F h' (L.eraseIdx k) Q) :
    RX P n K g prs F h L Q := by
  refine rx_perm (perm_at hk) ?_
  refine rx_bpersist hA fun hn => hx _ (fun z o hz => ?_) ?_
  · exact Le.addV hn z o hz
  · exact addV_same
theorem one_rts {h : View} {b : Nat} {z : Ts} (hb : h b = some (.cells (rtc z).toArray 36 (0, 0))) (hz : Rtv h z) : Rts h (.slice (some ⟨b, 0, none⟩) 1 1) [z] := by
  refine ⟨⟨by simp [rtc], _, _, rfl, Nat.le_refl _, .inr ⟨b, 0, (rtc z).toArray, 36, (0, 0), rfl, hb, fun j u hj => ?_⟩⟩, fun x hx => by rw [List.mem_singleton.1 hx]; exact hz⟩
  rw [show [z].flatMap rtc = rtc z by simp] at hj
  simpa using hj
theorem part_rts {h : View} {ad : Option Addr} {cap : Nat} {A : List Ts} (hA : Rts h (.slice ad A.length cap) A) {k : Nat} (hk : k < A.length) : Rts h (.slice (cutF ad cap k 9) (k + 1 - k) (cap - k)) [A[k]] := by
  refine ⟨?_, fun x hx => by rw [List.mem_singleton.1 hx]; exact hA.2 _ (List.getElem_mem hk)⟩
  have h1 := sc_take (j := 1) (sc_drop hA.1 (by omega) (Nat.le_of_lt hk)) (by omega)
  rw [Nat.one_mul, flat_at rtc_len A k hk] at h1
  rw [show k + 1 - k = 1 by omega]
  simpa using h1
theorem enc_sum : ∀ (A : List Ta) (m : Nat), (∀ a ∈ A, (encT a).length ≤ m) → (A.flatMap encT).length ≤ A.length * m
  | [], m, _ => by simp
  | a :: A, m, h => by
    have h1 := h a (List.mem_cons_self ..)
    have h2 := enc_sum A m fun x hx => h x (List.mem_cons_of_mem _ hx)
    rw [List.flatMap_cons, List.length_append, List.length_cons, Nat.add_mul]
    omega
structure FewT (E : List Ta) : Prop where
  n : E.length ≤ 12
  b : ∀ a ∈ E, Bytes a.name ∧ Bytes a.value ∧ Bytes a.raw
  z : ∀ a ∈ E, (encT a).length ≤ 746
theorem FewT.sum {E : List Ta} (h : FewT E) : (E.flatMap encT).length ≤ 10000 := by
  have := enc_sum E 746 h.z
  have := h.n
  omega
theorem fewT_of {l : List Ts} (hb : ∀ x ∈ l, RbT x) : FewT ((l.take 12).map fun x => cutT x.a) := by
  refine ⟨by simp; omega, fun a ha => ?_, fun a ha => ?_⟩
  · obtain ⟨x, hx, rfl⟩ := List.mem_map.1 ha
    exact cutT_by (hb x (List.mem_of_mem_take hx))
  · obtain ⟨x, hx, rfl⟩ := List.mem_map.1 ha
    have := cutT_len x.a
    rw [encT_len]
    omega
theorem encL_byT {E : List Ta} (h : ∀ a ∈ E, Bytes a.name ∧ Bytes a.value ∧ Bytes a.raw) : Bytes (encL E) := by
  refine bytes_appT (putLow_byT 8 _) fun x hx => ?_
  obtain ⟨a, ha, hx⟩ := List.mem_flatMap.1 hx
  have h1 := h a ha
  rw [encT_hd] at hx
  exact bytes_appT (bytes_appT (hdT_by h1.1 h1.2.1) (encF_by _)) (bytes_appT (putLow_byT 4 _) h1.2.2) x hx
theorem TraceWrites_sp (v : Value) (l : List Ts) (h : View) (hs : Rts h v l) (hb : ∀ x ∈ l, RbT x) (hll : ∀ x ∈ l, RlT x) (hl : l.length ≤ 9223372036854775807) (w : World) (s : St ⟨w, h, []⟩ h [] w) :
    Calls Tryz.prog 3 [v].toArray w fun e w' => ∃ h', e = .returned (.bool true) ∧ St ⟨w, h, []⟩ h' [] w' := by
  have W1 := few34_sp v l h hs hb hll hl
  have hE := fewT_of hb
  generalize ((l.take 12).map fun x => cutT x.a) = E at W1 hE
  refine calls_enter Tryz.func3 rfl Tryz.ntmps3 rfl s ?_
  repeat' (first|(refine ycf ?_;apply ybk;(·first|(exact tk_));(·rfl);(·rfl))|refine t1_ ?_|(refine ta_ ?_;intro _)|((fail_if_success (refine ybi rfl ?_));refine ybj rfl ?_ ?_<;>(intro ht;rw [ht];first|replace ht := oet_ ht|replace ht := oef_ ht|skip))|(refine ych ?_;first|(refine ybw rfl ?_ ?_<;>intro ht)|(refine ybx rfl ?_ ?_<;>intro ht)))
  (refine yco (ycp Tryz.func5 rfl (by kernel_rfl) rfl) (W1) rfl rfl rfl ?_ ?_ ?_; (· (exact to_)); (· intro _ _ hle; (exact to_)); intro x px hle)
  obtain ⟨h1, va, vb, A, B⟩ := x
  obtain ⟨rA, tB, eA, eB⟩ := px
  dsimp only at rA tB eA eB hle ⊢
  have hAl : A.length = E.length := by rw [← eA, List.length_map]
  have hBl : B.length = E.length := by rw [← eB, List.length_map]
  have hEn := hE.n
  have hES := hE.sum
  obtain ⟨_, ada, capa, rfl, hcapa, _⟩ := id rA.1
  obtain ⟨_, adb, capb, rfl, _, _⟩ := id tB.1
  have hbA : ∀ x ∈ A, Bytes x.a.name ∧ Bytes x.a.value ∧ Bytes x.a.raw := fun x hx => hE.b _ (by rw [← eA]; exact List.mem_map_of_mem hx)
  have W2 := Write34_sp _ A h1 rA (by omega) hbA (by rw [eA]; omega)
  rw [eA] at W2
  repeat' (first|(refine ycf ?_;apply ybk;(·first|(exact tk_));(·rfl);(·rfl))|refine t1_ ?_|(refine ta_ ?_;intro _)|((fail_if_success (refine ybi rfl ?_));refine ybj rfl ?_ ?_<;>(intro ht;rw [ht];first|replace ht := oet_ ht|replace ht := oef_ ht|skip))|(refine ych ?_;first|(refine ybw rfl ?_ ?_<;>intro ht)|(refine ybx rfl ?_ ?_<;>intro ht)))
  (refine ycn (ycp Tryz.func6 rfl (by kernel_rfl) rfl) (W2) rfl rfl rfl ?_ ?_; (· (exact to_)))
  repeat' (first|(refine ycf ?_;apply ybk;(·first|(exact tk_));(·rfl);(·rfl))|refine t1_ ?_|(refine ta_ ?_;intro _)|((fail_if_success (refine ybi rfl ?_));refine ybj rfl ?_ ?_<;>(intro ht;rw [ht];first|replace ht := oet_ ht|replace ht := oef_ ht|skip))|(refine ych ?_;first|(refine ybw rfl ?_ ?_<;>intro ht)|(refine ybx rfl ?_ ?_<;>intro ht)))
  have W3 := TWrite_sp _ B h1 tB (by omega) (by rw [eB]; omega)
  rw [eB] at W3
  (refine yco (ycp Tryz.func7 rfl (by kernel_rfl) rfl) (W3) rfl rfl rfl ?_ ?_ ?_; (· (exact to_)); (· intro _ _ hle; (exact to_)); intro x px hle)
  obtain ⟨h2, vc⟩ := x
  dsimp only at px hle ⊢
  have hle2 := hle
  have px0 := px
  obtain ⟨_, adc, capc, rfl, _, _⟩ := id px
  repeat' (first|(refine ycf ?_;apply ybk;(·first|(exact tk_));(·rfl);(·rfl))|refine t1_ ?_|(refine ta_ ?_;intro _)|((fail_if_success (refine ybi rfl ?_));refine ybj rfl ?_ ?_<;>(intro ht;rw [ht];first|replace ht := oet_ ht|replace ht := oef_ ht|skip))|(refine ych ?_;first|(refine ybw rfl ?_ ?_<;>intro ht)|(refine ybx rfl ?_ ?_<;>intro ht)))
  (refine yco (ycp Tryz.func8 rfl (by kernel_rfl) rfl) (traces_sp h2) rfl rfl rfl ?_ ?_ ?_; (· (exact to_)); (· intro _ _ hle; (exact to_)); intro x px hle)
  obtain ⟨h3, rfl⟩ : ∃ y, y = x := ⟨x, rfl⟩
  have hv3 : Le h1 h3 := hle2.trans hle
  have rA3 := rA.mono hv3
  have tB3 := tB.mono hv3
  have b3 := px0.mono hle
  obtain ⟨hv, ehv⟩ : ∃ y, y = h3 := ⟨_, rfl⟩
  rw [← ehv] at rA3 tB3 hle hv3 b3 ⊢
  cases hR : allR E with
  | false =>
    rw [if_neg (by decide), if_neg (by decide)]
    repeat' (first|(refine ycf ?_;apply ybk;(·first|(first|(apply qv_neq_bool (t := false);(·rfl);(·rfl);(·rfl))|exact tk_));(·rfl);(·rfl))|refine t1_ ?_|(refine ta_ ?_;intro _)|((fail_if_success (refine ybi rfl ?_));refine ybj rfl ?_ ?_<;>(intro ht;rw [ht];first|replace ht := oet_ ht|replace ht := oef_ ht|skip))|(refine ych ?_;first|(refine ybw rfl ?_ ?_<;>intro ht)|(refine ybx rfl ?_ ?_<;>intro ht)))
    refine cx_loop (X := Nat × View) (fun y => [(3, .slice ada A.length capa), (4, .slice adb B.length capb), (6, .bool false), (9, .int .i64 (y.1 : Nat))]) (fun y => y.2) (fun y => []) (fun y => y.1 ≤ B.length ∧ Le hv y.2) (fun y => B.length - y.1) (0, hv) ⟨Nat.zero_le _, Le.refl _⟩ ts_ (fun _ s => s.nil) ?_
    rintro ⟨k, hk⟩ ⟨p1, p2⟩
    dsimp only at p1 p2 ⊢
    by_cases hkl : k < B.length
    · have tBk := tB3.mono p2
      have rAk := rA3.mono p2
      obtain ⟨bs, o, eab⟩ := tBk.1.ad (by omega) (by omega)
      have hel : ∀ L, Cells hk L ⟨bs, o + k * 9, none⟩ (tsc B[k]) := fun L => by
        have := tBk.1
        rw [eab] at this
        exact this.elem tsc_len k hkl
      have hxv : Tsv hk B[k] := tBk.2 _ (List.getElem_mem hkl)
      have hkA : k < A.length := by omega
      have hae : A[k].a = B[k].a := by
        have e1 : (A.map Ts.a)[k]'(by simpa using hkA) = (B.map Ts.a)[k]'(by simpa using hkl) := by simp only [eA, eB]
        simpa using e1
      have hP := part_rts rAk hkA
      have hbk := hbA _ (List.getElem_mem hkA)
      have hzk : (encT A[k].a).length ≤ 746 := hE.z _ (by rw [← eA]; exact List.mem_map_of_mem (List.getElem_mem hkA))
      generalize B[k] = z at hel hxv hae
      generalize A[k] = y at hae hP hbk hzk
      have F1 := from34_sp z hk hxv
      have hdo := (docT_ok hxv).ones
      rw [eab]
      repeat' (first|(refine ycf ?_;apply ybk;(·first|(first|exact tk_|(apply yad;(·rfl);(·exact hel _);(·exact tsc_len z))));(·rfl);(·rfl))|refine t1_ ?_|(refine ta_ ?_;intro _)|((fail_if_success (refine ybi rfl ?_));refine ybj rfl ?_ ?_<;>(intro ht;rw [ht];first|replace ht := oet_ ht|replace ht := oef_ ht|skip))|(refine ych ?_;first|(refine ybw rfl ?_ ?_<;>intro ht)|(refine ybx rfl ?_ ?_<;>intro ht)))
      refine cx_region_drawT [] [4, 5, 11] rfl (by kernel_rfl) ?_
      repeat' (refine ycf ?_;(first|(first|(apply ybm;(·(first|(first|exact tk_|(apply yad;(·rfl);(·exact hel _);(·exact tsc_len z))|(refine qv_slice_ijT k (k + 1) rfl rfl rfl rfl (by omega) (by omega) (by omega)))|exact tq_));(·rfl);(·rfl);(·(exact fun _ s => hd_weak _ s)))|refine ybl rfl rfl ?_|((fail_if_success (refine ybi rfl ?_));refine ybj rfl ?_ ?_<;>(intro ht;rw [ht];first|replace ht := oet_ ht|replace ht := oef_ ht|skip))|(refine tb_ ?_ ?_ ?_;(·(first|exact ybf|(refine .inl ?_;(exact fun _ s => hd_weak _ s))|exact to_));(·intro _;(first|exact ybf|(refine .inl ?_;(exact fun _ s => hd_weak _ s))|exact to_));intro _)|(first|(refine tqs_ ?_ ?_ ?_;(·(first|exact ybf|(refine .inl ?_;(exact fun _ s => hd_weak _ s))|exact to_));(·(first|exact ybf|(refine .inl ?_;(exact fun _ s => hd_weak _ s))|exact to_))))|(apply ybn;(·(first|(first|exact tk_|(apply yad;(·rfl);(·exact hel _);(·exact tsc_len z))|(refine qv_slice_ijT k (k + 1) rfl rfl rfl rfl (by omega) (by omega) (by omega)))|exact tq_));(·rfl);(·rfl);(·rfl);(·(first|exact ybf|(refine .inl ?_;(exact fun _ s => hd_weak _ s))|exact to_))))|refine ycg ?_))
      (refine ycn (ycp Tryz.func10 rfl (by kernel_rfl) rfl) (F1) rfl rfl rfl ?_ ?_;(·(first|exact ybf|(refine .inl ?_;(exact fun _ s => hd_weak _ s))|exact to_)))
      repeat' (refine ycf ?_;(first|(first|(apply ybm;(·(first|(first|exact tk_|(apply yad;(·rfl);(·exact hel _);(·exact tsc_len z))|(refine qv_slice_ijT k (k + 1) rfl rfl rfl rfl (by omega) (by omega) (by omega)))|exact tq_));(·rfl);(·rfl);(·(exact fun _ s => hd_weak _ s)))|refine ybl rfl rfl ?_|((fail_if_success (refine ybi rfl ?_));refine ybj rfl ?_ ?_<;>(intro ht;rw [ht];first|replace ht := oet_ ht|replace ht := oef_ ht|skip))|(refine tb_ ?_ ?_ ?_;(·(first|exact ybf|(refine .inl ?_;(exact fun _ s => hd_weak _ s))|exact to_));(·intro _;(first|exact ybf|(refine .inl ?_;(exact fun _ s => hd_weak _ s))|exact to_));intro _)|(first|(refine tqs_ ?_ ?_ ?_;(·(first|exact ybf|(refine .inl ?_;(exact fun _ s => hd_weak _ s))|exact to_));(·(first|exact ybf|(refine .inl ?_;(exact fun _ s => hd_weak _ s))|exact to_))))|(apply ybn;(·(first|(first|exact tk_|(apply yad;(·rfl);(·exact hel _);(·exact tsc_len z))|(refine qv_slice_ijT k (k + 1) rfl rfl rfl rfl (by omega) (by omega) (by omega)))|exact tq_));(·rfl);(·rfl);(·rfl);(·(first|exact ybf|(refine .inl ?_;(exact fun _ s => hd_weak _ s))|exact to_))))|refine ycg ?_))
      refine rx_bviewT 0 rfl rfl fun h' hle' hb' => ?_
      have S1 := Same34_sp _ _ [docT z] [y] h' (one_rts hb' ((docT_ok hxv).mono hle')) (hP.mono hle') (by simp [docT, hae]) (by simp) (fun x hx => by rw [List.mem_singleton.1 hx]; show Bytes z.a.name ∧ Bytes z.a.value ∧ Bytes z.a.raw; rw [← hae]; exact hbk) (by simp only [List.map_cons, List.map_nil, List.flatMap_cons, List.flatMap_nil, List.append_nil]; show (encT z.a).length ≤ _; rw [← hae]; omega)
      (refine ycn (ycp Tryz.func9 rfl (by kernel_rfl) rfl) (S1) rfl rfl rfl ?_ ?_;(·(first|exact ybf|(refine .inl ?_;(exact fun _ s => hd_m hle' (fun r hr => by cases hr) _ s))|exact to_)))
      repeat' (refine ycf ?_;(first|(first|(apply ybm;(·(first|(exact tk_)|exact tq_));(·rfl);(·rfl);(·(exact fun _ s => hd_m hle' (fun r hr => by cases hr) _ s)))|refine ybl rfl rfl ?_|((fail_if_success (refine ybi rfl ?_));refine ybj rfl ?_ ?_<;>(intro ht;rw [ht];first|replace ht := oet_ ht|replace ht := oef_ ht|skip))|(refine tb_ ?_ ?_ ?_;(·(first|exact ybf|(refine .inl ?_;(exact fun _ s => hd_m hle' (fun r hr => by cases hr) _ s))|exact to_));(·intro _;(first|exact ybf|(refine .inl ?_;(exact fun _ s => hd_m hle' (fun r hr => by cases hr) _ s))|exact to_));intro _)|(first|(refine tqs_ ?_ ?_ ?_;(·(first|exact ybf|(refine .inl ?_;(exact fun _ s => hd_m hle' (fun r hr => by cases hr) _ s))|exact to_));(·(first|exact ybf|(refine .inl ?_;(exact fun _ s => hd_m hle' (fun r hr => by cases hr) _ s))|exact to_))))|(apply ybn;(·(first|(exact tk_)|exact tq_));(·rfl);(·rfl);(·rfl);(·(first|exact ybf|(refine .inl ?_;(exact fun _ s => hd_m hle' (fun r hr => by cases hr) _ s))|exact to_))))|refine ycg ?_))
      repeat' (first|(refine ycf ?_;apply ybk;(·first|(exact tk_));(·rfl);(·rfl))|refine t1_ ?_|(refine ta_ ?_;intro _)|((fail_if_success (refine ybi rfl ?_));refine ybj rfl ?_ ?_<;>(intro ht;rw [ht];first|replace ht := oet_ ht|replace ht := oef_ ht|skip))|(refine ych ?_;first|(refine ybw rfl ?_ ?_<;>intro ht)|(refine ybx rfl ?_ ?_<;>intro ht)))
      exact nx_round (k + 1, h') ⟨by show k + 1 ≤ _; omega, p2.trans hle'⟩ (by show B.length - (k + 1) < B.length - k; omega) ts_ (fun _ s => s.nil)
    · --(exact tk_):= (exact tk_)
      repeat' (first|(refine ycf ?_;apply ybk;(·first|(exact tk_));(·rfl);(·rfl))|refine t1_ ?_|(refine ta_ ?_;intro _)|((fail_if_success (refine ybi rfl ?_));refine ybj rfl ?_ ?_<;>(intro ht;rw [ht];first|replace ht := oet_ ht|replace ht := oef_ ht|skip))|(refine ych ?_;first|(refine ybw rfl ?_ ?_<;>intro ht)|(refine ybx rfl ?_ ?_<;>intro ht)))
      exact nx_ret1 rfl (rv_tmp rfl) (fun w' s' => ⟨hk, rfl, s'.nil⟩)
  | true =>
    rw [hR, if_pos rfl] at b3
    rw [if_pos rfl, if_pos rfl]
    repeat' (first|(refine ycf ?_;apply ybk;(·first|(first|(apply qv_neq_bool (t := false);(·rfl);(·rfl);(·rfl))|exact tk_));(·rfl);(·rfl))|refine t1_ ?_|(refine ta_ ?_;intro _)|((fail_if_success (refine ybi rfl ?_));refine ybj rfl ?_ ?_<;>(intro ht;rw [ht];first|replace ht := oet_ ht|replace ht := oef_ ht|skip))|(refine ych ?_;first|(refine ybw rfl ?_ ?_<;>intro ht)|(refine ybx rfl ?_ ?_<;>intro ht)))
    refine cx_loop (X := Nat × View) (fun y => [(3, .slice ada A.length capa), (4, .slice adb B.length capb), (5, .string (bstr (encL E))), (6, .bool true), (7, .slice adc (encL E).length capc), (9, .int .i64 (y.1 : Nat))]) (fun y => y.2) (fun y => []) (fun y => y.1 ≤ B.length ∧ Le hv y.2) (fun y => B.length - y.1) (0, hv) ⟨Nat.zero_le _, Le.refl _⟩ ts_ (fun _ s => s.nil) ?_
    rintro ⟨k, hk⟩ ⟨p1, p2⟩
    dsimp only at p1 p2 ⊢
    by_cases hkl : k < B.length
    · have tBk := tB3.mono p2
      have rAk := rA3.mono p2
      obtain ⟨bs, o, eab⟩ := tBk.1.ad (by omega) (by omega)
      have hel : ∀ L, Cells hk L ⟨bs, o + k * 9, none⟩ (tsc B[k]) := fun L => by
        have := tBk.1
        rw [eab] at this
        exact this.elem tsc_len k hkl
      have hxv : Tsv hk B[k] := tBk.2 _ (List.getElem_mem hkl)
      have hkA : k < A.length := by omega
      have hae : A[k].a = B[k].a := by
        have e1 : (A.map Ts.a)[k]'(by simpa using hkA) = (B.map Ts.a)[k]'(by simpa using hkl) := by simp only [eA, eB]
        simpa using e1
      have hP := part_rts rAk hkA
      have hbk := hbA _ (List.getElem_mem hkA)
      have hzk : (encT A[k].a).length ≤ 746 := hE.z _ (by rw [← eA]; exact List.mem_map_of_mem (List.getElem_mem hkA))
      generalize B[k] = z at hel hxv hae
      generalize A[k] = y at hae hP hbk hzk
      have F1 := from34_sp z hk hxv
      have hdo := (docT_ok hxv).ones
      rw [eab]
      repeat' (first|(refine ycf ?_;apply ybk;(·first|(first|exact tk_|(apply yad;(·rfl);(·exact hel _);(·exact tsc_len z))));(·rfl);(·rfl))|refine t1_ ?_|(refine ta_ ?_;intro _)|((fail_if_success (refine ybi rfl ?_));refine ybj rfl ?_ ?_<;>(intro ht;rw [ht];first|replace ht := oet_ ht|replace ht := oef_ ht|skip))|(refine ych ?_;first|(refine ybw rfl ?_ ?_<;>intro ht)|(refine ybx rfl ?_ ?_<;>intro ht)))
      refine cx_region_drawT [] [4, 5, 11] rfl (by kernel_rfl) ?_
      repeat' (refine ycf ?_;(first|(first|(apply ybm;(·(first|(first|exact tk_|(apply yad;(·rfl);(·exact hel _);(·exact tsc_len z))|(refine qv_slice_ijT k (k + 1) rfl rfl rfl rfl (by omega) (by omega) (by omega)))|exact tq_));(·rfl);(·rfl);(·(exact fun _ s => hd_weak _ s)))|refine ybl rfl rfl ?_|((fail_if_success (refine ybi rfl ?_));refine ybj rfl ?_ ?_<;>(intro ht;rw [ht];first|replace ht := oet_ ht|replace ht := oef_ ht|skip))|(refine tb_ ?_ ?_ ?_;(·(first|exact ybf|(refine .inl ?_;(exact fun _ s => hd_weak _ s))|exact to_));(·intro _;(first|exact ybf|(refine .inl ?_;(exact fun _ s => hd_weak _ s))|exact to_));intro _)|(first|(refine tqs_ ?_ ?_ ?_;(·(first|exact ybf|(refine .inl ?_;(exact fun _ s => hd_weak _ s))|exact to_));(·(first|exact ybf|(refine .inl ?_;(exact fun _ s => hd_weak _ s))|exact to_))))|(apply ybn;(·(first|(first|exact tk_|(apply yad;(·rfl);(·exact hel _);(·exact tsc_len z))|(refine qv_slice_ijT k (k + 1) rfl rfl rfl rfl (by omega) (by omega) (by omega)))|exact tq_));(·rfl);(·rfl);(·rfl);(·(first|exact ybf|(refine .inl ?_;(exact fun _ s => hd_weak _ s))|exact to_))))|refine ycg ?_))
      (refine ycn (ycp Tryz.func10 rfl (by kernel_rfl) rfl) (F1) rfl rfl rfl ?_ ?_;(·(first|exact ybf|(refine .inl ?_;(exact fun _ s => hd_weak _ s))|exact to_)))
      repeat' (refine ycf ?_;(first|(first|(apply ybm;(·(first|(first|exact tk_|(apply yad;(·rfl);(·exact hel _);(·exact tsc_len z))|(refine qv_slice_ijT k (k + 1) rfl rfl rfl rfl (by omega) (by omega) (by omega)))|exact tq_));(·rfl);(·rfl);(·(exact fun _ s => hd_weak _ s)))|refine ybl rfl rfl ?_|((fail_if_success (refine ybi rfl ?_));refine ybj rfl ?_ ?_<;>(intro ht;rw [ht];first|replace ht := oet_ ht|replace ht := oef_ ht|skip))|(refine tb_ ?_ ?_ ?_;(·(first|exact ybf|(refine .inl ?_;(exact fun _ s => hd_weak _ s))|exact to_));(·intro _;(first|exact ybf|(refine .inl ?_;(exact fun _ s => hd_weak _ s))|exact to_));intro _)|(first|(refine tqs_ ?_ ?_ ?_;(·(first|exact ybf|(refine .inl ?_;(exact fun _ s => hd_weak _ s))|exact to_));(·(first|exact ybf|(refine .inl ?_;(exact fun _ s => hd_weak _ s))|exact to_))))|(apply ybn;(·(first|(first|exact tk_|(apply yad;(·rfl);(·exact hel _);(·exact tsc_len z))|(refine qv_slice_ijT k (k + 1) rfl rfl rfl rfl (by omega) (by omega) (by omega)))|exact tq_));(·rfl);(·rfl);(·rfl);(·(first|exact ybf|(refine .inl ?_;(exact fun _ s => hd_weak _ s))|exact to_))))|refine ycg ?_))
      refine rx_bviewT 0 rfl rfl fun h' hle' hb' => ?_
      have S1 := Same34_sp _ _ [docT z] [y] h' (one_rts hb' ((docT_ok hxv).mono hle')) (hP.mono hle') (by simp [docT, hae]) (by simp) (fun x hx => by rw [List.mem_singleton.1 hx]; show Bytes z.a.name ∧ Bytes z.a.value ∧ Bytes z.a.raw; rw [← hae]; exact hbk) (by simp only [List.map_cons, List.map_nil, List.flatMap_cons, List.flatMap_nil, List.append_nil]; show (encT z.a).length ≤ _; rw [← hae]; omega)
      (refine ycn (ycp Tryz.func9 rfl (by kernel_rfl) rfl) (S1) rfl rfl rfl ?_ ?_;(·(first|exact ybf|(refine .inl ?_;(exact fun _ s => hd_m hle' (fun r hr => by cases hr) _ s))|exact to_)))
      repeat' (refine ycf ?_;(first|(first|(apply ybm;(·(first|(exact tk_)|exact tq_));(·rfl);(·rfl);(·(exact fun _ s => hd_m hle' (fun r hr => by cases hr) _ s)))|refine ybl rfl rfl ?_|((fail_if_success (refine ybi rfl ?_));refine ybj rfl ?_ ?_<;>(intro ht;rw [ht];first|replace ht := oet_ ht|replace ht := oef_ ht|skip))|(refine tb_ ?_ ?_ ?_;(·(first|exact ybf|(refine .inl ?_;(exact fun _ s => hd_m hle' (fun r hr => by cases hr) _ s))|exact to_));(·intro _;(first|exact ybf|(refine .inl ?_;(exact fun _ s => hd_m hle' (fun r hr => by cases hr) _ s))|exact to_));intro _)|(first|(refine tqs_ ?_ ?_ ?_;(·(first|exact ybf|(refine .inl ?_;(exact fun _ s => hd_m hle' (fun r hr => by cases hr) _ s))|exact to_));(·(first|exact ybf|(refine .inl ?_;(exact fun _ s => hd_m hle' (fun r hr => by cases hr) _ s))|exact to_))))|(apply ybn;(·(first|(exact tk_)|exact tq_));(·rfl);(·rfl);(·rfl);(·(first|exact ybf|(refine .inl ?_;(exact fun _ s => hd_m hle' (fun r hr => by cases hr) _ s))|exact to_))))|refine ycg ?_))
      repeat' (first|(refine ycf ?_;apply ybk;(·first|(exact tk_));(·rfl);(·rfl))|refine t1_ ?_|(refine ta_ ?_;intro _)|((fail_if_success (refine ybi rfl ?_));refine ybj rfl ?_ ?_<;>(intro ht;rw [ht];first|replace ht := oet_ ht|replace ht := oef_ ht|skip))|(refine ych ?_;first|(refine ybw rfl ?_ ?_<;>intro ht)|(refine ybx rfl ?_ ?_<;>intro ht)))
      exact nx_round (k + 1, h') ⟨by show k + 1 ≤ _; omega, p2.trans hle'⟩ (by show B.length - (k + 1) < B.length - k; omega) ts_ (fun _ s => s.nil)
    · have hbc := b3.mono p2
      have hbyE : Bytes (encL E) := encL_byT hE.b
      have hokE : ∀ a ∈ E, TaOk a := fun a ha => TaR.ok (oet_ (List.all_eq_true.1 hR a ha)) (hE.b a ha).1 (hE.b a ha).2.1 (hE.b a ha).2.2
      have hput : trS (encL E) = (true, E) := trS_put hokE (by omega)
      have hEl : (encL E).length ≤ 100000 := by unfold encL; rw [List.length_append, num8_lenT]; omega
      have T1 := TRead_sp _ (encL E) hbyE (by omega) hk hbc
      rw [hput, if_pos rfl] at T1
      repeat' (first|(refine ycf ?_;apply ybk;(·first|(exact tk_));(·rfl);(·rfl))|refine t1_ ?_|(refine ta_ ?_;intro _)|((fail_if_success (refine ybi rfl ?_));refine ybj rfl ?_ ?_<;>(intro ht;rw [ht];first|replace ht := oet_ ht|replace ht := oef_ ht|skip))|(refine ych ?_;first|(refine ybw rfl ?_ ?_<;>intro ht)|(refine ybx rfl ?_ ?_<;>intro ht)))
      (refine yco (ycp Tryz.func11 rfl (by kernel_rfl) rfl) (T1) rfl rfl rfl ?_ ?_ ?_; (· (exact to_)); (· intro _ _ hle; (exact to_)); intro x px hle)
      obtain ⟨h5, vd, C⟩ := x
      obtain ⟨tC, eC⟩ := px
      dsimp only at tC eC hle ⊢
      have hle5 := p2.trans hle
      have rA5 := rA3.mono hle5
      have b5 := b3.mono hle5
      have hCl : C.length = E.length := by rw [← eC, List.length_map]
      have hCA : (C.length : Int) = A.length := by omega
      obtain ⟨_, add, capd, rfl, _, _⟩ := id tC.1
      have hst : (!((bstr (encL E)).toList == (bstr (encL E)).toList)) = false := by rw [beq_self_eq_true]; rfl
      repeat' (first|(refine ycf ?_;apply ybk;(·first|(first|exact qv_str_bs rfl b5|(refine qv_neq_str rfl rfl hst)|exact tk_));(·rfl);(·rfl))|refine t1_ ?_|(refine ta_ ?_;intro _)|((fail_if_success (refine ybi rfl ?_));refine ybj rfl ?_ ?_<;>(intro ht;rw [ht];first|replace ht := oet_ ht|replace ht := oef_ ht|skip))|(refine ych ?_;first|(refine ybw rfl ?_ ?_<;>intro ht)|(refine ybx rfl ?_ ?_<;>intro ht)))
      refine cx_loop (X := Nat × View) (fun y => [(3, .slice ada A.length capa), (10, .slice add C.length capd), (12, .int .i64 (y.1 : Nat))]) (fun y => y.2) (fun y => []) (fun y => y.1 ≤ C.length ∧ Le h5 y.2) (fun y => C.length - y.1) (0, h5) ⟨Nat.zero_le _, Le.refl _⟩ ts_ (fun _ s => s.nil) ?_
      rintro ⟨k, hk⟩ ⟨p1, p2⟩
      dsimp only at p1 p2 ⊢
      by_cases hkl : k < C.length
      · have tBk := tC.mono p2
        have rAk := rA5.mono p2
        obtain ⟨bs, o, eab⟩ := tBk.1.ad (by omega) (by omega)
        have hel : ∀ L, Cells hk L ⟨bs, o + k * 9, none⟩ (tsc C[k]) := fun L => by
          have := tBk.1
          rw [eab] at this
          exact this.elem tsc_len k hkl
        have hxv : Tsv hk C[k] := tBk.2 _ (List.getElem_mem hkl)
        have hkA : k < A.length := by omega
        have hae : A[k].a = C[k].a := by
          have e1 : (A.map Ts.a)[k]'(by simpa using hkA) = (C.map Ts.a)[k]'(by simpa using hkl) := by simp only [eA, eC]
          simpa using e1
        have hP := part_rts rAk hkA
        have hbk := hbA _ (List.getElem_mem hkA)
        have hzk : (encT A[k].a).length ≤ 746 := hE.z _ (by rw [← eA]; exact List.mem_map_of_mem (List.getElem_mem hkA))
        generalize C[k] = z at hel hxv hae
        generalize A[k] = y at hae hP hbk hzk
        have F1 := from34_sp z hk hxv
        have hdo := (docT_ok hxv).ones
        rw [eab]
        repeat' (first|(refine ycf ?_;apply ybk;(·first|(first|exact tk_|(apply yad;(·rfl);(·exact hel _);(·exact tsc_len z))));(·rfl);(·rfl))|refine t1_ ?_|(refine ta_ ?_;intro _)|((fail_if_success (refine ybi rfl ?_));refine ybj rfl ?_ ?_<;>(intro ht;rw [ht];first|replace ht := oet_ ht|replace ht := oef_ ht|skip))|(refine ych ?_;first|(refine ybw rfl ?_ ?_<;>intro ht)|(refine ybx rfl ?_ ?_<;>intro ht)))
        refine cx_region_drawT [] [4, 5, 11] rfl (by kernel_rfl) ?_
        repeat' (refine ycf ?_;(first|(first|(apply ybm;(·(first|(first|exact tk_|(apply yad;(·rfl);(·exact hel _);(·exact tsc_len z))|(refine qv_slice_ijT k (k + 1) rfl rfl rfl rfl (by omega) (by omega) (by omega)))|exact tq_));(·rfl);(·rfl);(·(exact fun _ s => hd_weak _ s)))|refine ybl rfl rfl ?_|((fail_if_success (refine ybi rfl ?_));refine ybj rfl ?_ ?_<;>(intro ht;rw [ht];first|replace ht := oet_ ht|replace ht := oef_ ht|skip))|(refine tb_ ?_ ?_ ?_;(·(first|exact ybf|(refine .inl ?_;(exact fun _ s => hd_weak _ s))|exact to_));(·intro _;(first|exact ybf|(refine .inl ?_;(exact fun _ s => hd_weak _ s))|exact to_));intro _)|(first|(refine tqs_ ?_ ?_ ?_;(·(first|exact ybf|(refine .inl ?_;(exact fun _ s => hd_weak _ s))|exact to_));(·(first|exact ybf|(refine .inl ?_;(exact fun _ s => hd_weak _ s))|exact to_))))|(apply ybn;(·(first|(first|exact tk_|(apply yad;(·rfl);(·exact hel _);(·exact tsc_len z))|(refine qv_slice_ijT k (k + 1) rfl rfl rfl rfl (by omega) (by omega) (by omega)))|exact tq_));(·rfl);(·rfl);(·rfl);(·(first|exact ybf|(refine .inl ?_;(exact fun _ s => hd_weak _ s))|exact to_))))|refine ycg ?_))
        (refine ycn (ycp Tryz.func10 rfl (by kernel_rfl) rfl) (F1) rfl rfl rfl ?_ ?_;(·(first|exact ybf|(refine .inl ?_;(exact fun _ s => hd_weak _ s))|exact to_)))
        repeat' (refine ycf ?_;(first|(first|(apply ybm;(·(first|(first|exact tk_|(apply yad;(·rfl);(·exact hel _);(·exact tsc_len z))|(refine qv_slice_ijT k (k + 1) rfl rfl rfl rfl (by omega) (by omega) (by omega)))|exact tq_));(·rfl);(·rfl);(·(exact fun _ s => hd_weak _ s)))|refine ybl rfl rfl ?_|((fail_if_success (refine ybi rfl ?_));refine ybj rfl ?_ ?_<;>(intro ht;rw [ht];first|replace ht := oet_ ht|replace ht := oef_ ht|skip))|(refine tb_ ?_ ?_ ?_;(·(first|exact ybf|(refine .inl ?_;(exact fun _ s => hd_weak _ s))|exact to_));(·intro _;(first|exact ybf|(refine .inl ?_;(exact fun _ s => hd_weak _ s))|exact to_));intro _)|(first|(refine tqs_ ?_ ?_ ?_;(·(first|exact ybf|(refine .inl ?_;(exact fun _ s => hd_weak _ s))|exact to_));(·(first|exact ybf|(refine .inl ?_;(exact fun _ s => hd_weak _ s))|exact to_))))|(apply ybn;(·(first|(first|exact tk_|(apply yad;(·rfl);(·exact hel _);(·exact tsc_len z))|(refine qv_slice_ijT k (k + 1) rfl rfl rfl rfl (by omega) (by omega) (by omega)))|exact tq_));(·rfl);(·rfl);(·rfl);(·(first|exact ybf|(refine .inl ?_;(exact fun _ s => hd_weak _ s))|exact to_))))|refine ycg ?_))
        refine rx_bviewT 0 rfl rfl fun h' hle' hb' => ?_
        have S1 := Same34_sp _ _ [docT z] [y] h' (one_rts hb' ((docT_ok hxv).mono hle')) (hP.mono hle') (by simp [docT, hae]) (by simp) (fun x hx => by rw [List.mem_singleton.1 hx]; show Bytes z.a.name ∧ Bytes z.a.value ∧ Bytes z.a.raw; rw [← hae]; exact hbk) (by simp only [List.map_cons, List.map_nil, List.flatMap_cons, List.flatMap_nil, List.append_nil]; show (encT z.a).length ≤ _; rw [← hae]; omega)
        (refine ycn (ycp Tryz.func9 rfl (by kernel_rfl) rfl) (S1) rfl rfl rfl ?_ ?_;(·(first|exact ybf|(refine .inl ?_;(exact fun _ s => hd_m hle' (fun r hr => by cases hr) _ s))|exact to_)))
        repeat' (refine ycf ?_;(first|(first|(apply ybm;(·(first|(exact tk_)|exact tq_));(·rfl);(·rfl);(·(exact fun _ s => hd_m hle' (fun r hr => by cases hr) _ s)))|refine ybl rfl rfl ?_|((fail_if_success (refine ybi rfl ?_));refine ybj rfl ?_ ?_<;>(intro ht;rw [ht];first|replace ht := oet_ ht|replace ht := oef_ ht|skip))|(refine tb_ ?_ ?_ ?_;(·(first|exact ybf|(refine .inl ?_;(exact fun _ s => hd_m hle' (fun r hr => by cases hr) _ s))|exact to_));(·intro _;(first|exact ybf|(refine .inl ?_;(exact fun _ s => hd_m hle' (fun r hr => by cases hr) _ s))|exact to_));intro _)|(first|(refine tqs_ ?_ ?_ ?_;(·(first|exact ybf|(refine .inl ?_;(exact fun _ s => hd_m hle' (fun r hr => by cases hr) _ s))|exact to_));(·(first|exact ybf|(refine .inl ?_;(exact fun _ s => hd_m hle' (fun r hr => by cases hr) _ s))|exact to_))))|(apply ybn;(·(first|(exact tk_)|exact tq_));(·rfl);(·rfl);(·rfl);(·(first|exact ybf|(refine .inl ?_;(exact fun _ s => hd_m hle' (fun r hr => by cases hr) _ s))|exact to_))))|refine ycg ?_))
        repeat' (first|(refine ycf ?_;apply ybk;(·first|(exact tk_));(·rfl);(·rfl))|refine t1_ ?_|(refine ta_ ?_;intro _)|((fail_if_success (refine ybi rfl ?_));refine ybj rfl ?_ ?_<;>(intro ht;rw [ht];first|replace ht := oet_ ht|replace ht := oef_ ht|skip))|(refine ych ?_;first|(refine ybw rfl ?_ ?_<;>intro ht)|(refine ybx rfl ?_ ?_<;>intro ht)))
        exact nx_round (k + 1, h') ⟨by show k + 1 ≤ _; omega, p2.trans hle'⟩ (by show C.length - (k + 1) < C.length - k; omega) ts_ (fun _ s => s.nil)
      · --(exact tk_):= (exact tk_)
        repeat' (first|(refine ycf ?_;apply ybk;(·first|(exact tk_));(·rfl);(·rfl))|refine t1_ ?_|(refine ta_ ?_;intro _)|((fail_if_success (refine ybi rfl ?_));refine ybj rfl ?_ ?_<;>(intro ht;rw [ht];first|replace ht := oet_ ht|replace ht := oef_ ht|skip))|(refine ych ?_;first|(refine ybw rfl ?_ ?_<;>intro ht)|(refine ybx rfl ?_ ?_<;>intro ht)))
        exact nx_ret1 rfl (rv_tmp rfl) (fun w' s' => ⟨hk, rfl, s'.nil⟩)
end Go.Proofs.YtndpclcbobgdlaaGreatDoor
end

section
namespace Go.Ck
open Go Go.ChangeShapes
section
variable {H : Type} {enc : TypeId × Value → H} {P : Program} {w : World} {base : Nat} {spare : Nat → Bool} {held : Bool}
theorem trod_fields {t : TypeId} {fs : Array Field} {fuel : Nat} {cs : List Value} {x : DataW H × List MemPlace} (ht : P.underlying t = some (.struct fs)) (h : DataW.trod enc P w base spare held fuel t cs = some x) :
    cs.length = P.cellsOf t ∧ ∀ f ∈ fs.toList, ∃ m y, DataW.trod enc P w base spare held m f.type ((cs.drop f.offset).take (P.cellsOf f.type)) = some y := by
  cases fuel with
  | zero => simp [DataW.trod] at h
  | succ n =>
    unfold DataW.trod at h
    simp only [ht] at h
    split at h
    · rename_i hl
      obtain ⟨xs, hxs, _⟩ := Option.map_eq_some_iff.1 h
      refine ⟨hl, fun f hf => ?_⟩
      obtain ⟨i, hi, rfl⟩ := List.getElem_of_mem hf
      have := mapM_some_get hxs i _ (List.getElem?_eq_getElem hi)
      have hlen := mapM_some_length hxs
      rw [List.getElem?_eq_getElem (by omega)] at this
      exact ⟨n, _, this⟩
    · cases h
end
end Go.Ck
end
