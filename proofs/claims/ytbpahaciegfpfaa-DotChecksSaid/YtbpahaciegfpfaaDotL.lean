/-
  DotL: the law's own helpers tame, to, from, dots.
  Conditions: lists of at most 2^62 dots.
-/
import Derived.Test.YtbpahaciegfpfaaDotK
namespace Go.Proofs.Ytbpahaciegfpfaa
open Go Go.Ck
set_option maxRecDepth 100000
set_option maxHeartbeats 1000000
set_option linter.unusedVariables false

theorem qv_min {P : Program} {n : Nat} {F : List (Nat × Value)} {h : View} {L : List Res} {dst : Option Nat} {ty : Nat} {pos : String} {af : Array Edge} {gd : Option (Nat × Bool)} {ts : Array TypeId} {x y : Operand} {k : IntKind} {i j : Int} (hx : ev F x = some (.int k i)) (hy : ev F y = some (.int k j)) :
    QV P n F h L ⟨dst, .call ⟨.builtin .min, #[x, y], ts⟩, ty, pos, af, gd⟩ (.int k (if j < i then j else i)) := .mk fun a w f s => by
  simp [execOp, resolve, invoke, builtin, Builtin.min_, f.ev hx, f.ev hy, Builtin.min2]

theorem qv_min' {P : Program} {n : Nat} {F : List (Nat × Value)} {h : View} {L : List Res} {dst : Option Nat} {ty : Nat} {pos : String} {af : Array Edge} {gd : Option (Nat × Bool)} {ts : Array TypeId} {x y : Operand} {k : IntKind} {i j r : Int} (hx : ev F x = some (.int k i)) (hy : ev F y = some (.int k j)) (hr : (if j < i then j else i) = r) :
    QV P n F h L ⟨dst, .call ⟨.builtin .min, #[x, y], ts⟩, ty, pos, af, gd⟩ (.int k r) := by subst hr; exact qv_min hx hy
theorem sc_take {h : View} {k m cap j : Nat} {ad : Option Addr} {xs : List Value} (s : Sc h k (.slice ad m cap) m xs) (hj : j ≤ m) : Sc h k (.slice ad j cap) j (xs.take (j * k)) := by
  obtain ⟨h1, ad', cap', h2, h3, h4⟩ := s
  cases h2
  refine ⟨?_, ad, cap, rfl, by omega, ?_⟩
  · rw [List.length_take, h1]
    exact Nat.min_eq_left (Nat.mul_le_mul_right k hj)
  · rcases h4 with rfl | ⟨b, o, cs, e, fz, q1, q2, q3⟩
    · exact .inl (by simp)
    · refine .inr ⟨b, o, cs, e, fz, q1, q2, fun i u hi => q3 i u ?_⟩
      rw [List.getElem?_take] at hi
      split at hi
      · exact hi
      · cases hi
theorem flat_take {l : List Dt} : ∀ {j : Nat}, (l.flatMap dcs).take (j * 2) = (l.take j).flatMap dcs := by
  induction l with
  | nil => intro j; simp
  | cons d l ih =>
    intro j
    cases j with
    | zero => simp
    | succ j =>
      have : (j + 1) * 2 = (dcs d).length + j * 2 := by rw [dcs_len]; omega
      rw [this]
      simp only [List.flatMap_cons, List.take_succ_cons, List.take_length_add_append, ih]

theorem fill2 {u : List Int} {ad : Option Addr} {m c : Nat} (hu : u.length = 16) : fillL (fun i : Nat => ([(0, 16), (16, 1)] : List (Nat × Nat))[i]?) (up zeroU ++ [.slice none 0 0]) [(0, .agg (up u).toArray), (1, .slice ad m c)] = some (cxc u (.slice ad m c)) := by
  obtain ⟨a0, a1, a2, a3, a4, a5, a6, a7, a8, a9, a10, a11, a12, a13, a14, a15, rfl⟩ := list16 u hu
  rfl

theorem to_sp (cv : Value) (u : List Int) (l : List Dt) (h : View) (hc : Cx h cv u l) (hl : l.length ≤ 1000000) (w : World) (s : St ⟨w, h, []⟩ h [] w) :
    Calls Try.prog 15 [cv].toArray w fun e w' => ∃ x : View × Value, e = .returned x.2 ∧ St ⟨w, h, []⟩ x.1 [] w' ∧ Cx x.1 x.2 u l := by
  obtain ⟨hu, mv, rfl, hs⟩ := hc
  obtain ⟨_, ad, cap, rfl, hcap, _⟩ := id hs
  refine calls_enter Try.func15 rfl Try.ntmps15 rfl s ?_
  repeat' (first | (refine ycf ?_; apply ybk; (· first | (first | (apply yad (vs := up u); (· rfl); (· exact ycm (yaz 1 rfl)); (· simp [up, hu])) | (apply yad (vs := up u); (· rfl); (· exact ycm (yaz 2 rfl)); (· simp [up, hu]))) | (apply yae; (· rfl); (· (first | exact yck (yaz 1 rfl) hu rfl | exact yck (yaz 2 rfl) hu rfl)))); (· rfl); (· rfl)) | refine t1_ ?_ | (refine ta_ ?_; intro _) | ((fail_if_success (refine ybi rfl ?_)); refine ybj rfl ?_ ?_ <;> (intro ht; rw [ht]; first | replace ht := of_decide_eq_true ht | replace ht := of_decide_eq_false ht | skip)) | (refine ych ?_; first | (refine ybw rfl ?_ ?_ <;> intro ht) | (refine ybx rfl ?_ ?_ <;> intro ht)))
  refine cx_region_draw' rfl (by kernel_rfl) ?_
  repeat' (refine ycf ?_;(first|(first|(apply ybm;(·(first|(first|(apply yad (vs := up u);(·rfl);(·exact ycm (yaz 1 rfl));(·simp [up, hu]))|(apply yad (vs := up u);(·rfl);(·exact ycm (yaz 2 rfl));(·simp [up, hu])))|(apply yae;(·rfl);(·(first|exact yck (yaz 1 rfl) hu rfl|exact yck (yaz 2 rfl) hu rfl)))|exact tq_));(·rfl);(·rfl);(·(exact th_)))|refine ybl rfl rfl ?_|((fail_if_success (refine ybi rfl ?_));refine ybj rfl ?_ ?_<;>(intro ht;rw [ht];first|replace ht := of_decide_eq_true ht|replace ht := of_decide_eq_false ht|skip))|(refine tb_ ?_ ?_ ?_;(·(exact to_));(·intro _;(exact to_));intro _)|(first|(refine tqs_ ?_ ?_ ?_;(·(exact to_));(·(exact to_))))|(apply ybn;(·(first|(first|(apply yad (vs := up u);(·rfl);(·exact ycm (yaz 1 rfl));(·simp [up, hu]))|(apply yad (vs := up u);(·rfl);(·exact ycm (yaz 2 rfl));(·simp [up, hu])))|(apply yae;(·rfl);(·(first|exact yck (yaz 1 rfl) hu rfl|exact yck (yaz 2 rfl) hu rfl)))|exact tq_));(·rfl);(·rfl);(·rfl);(·(exact to_))))|refine ycg ?_))
  refine yba ma_buildSlice0 rfl rfl rfl ?_ ?_ ?_
  · (exact to_)
  · intro _; (exact to_)
  intro b
  refine rx_rowOf 2 0 0 (by omega) (by unfold maxLen; omega) rfl ?_
  repeat' (refine ycf ?_;(first|(first|(apply ybm;(·(first|(first|(apply yad (vs := up u);(·rfl);(·exact ycm (yaz 1 rfl));(·simp [up, hu]))|(apply yad (vs := up u);(·rfl);(·exact ycm (yaz 2 rfl));(·simp [up, hu])))|(apply yae;(·rfl);(·(first|exact yck (yaz 1 rfl) hu rfl|exact yck (yaz 2 rfl) hu rfl)))|exact tq_));(·rfl);(·rfl);(·(exact th_)))|refine ybl rfl rfl ?_|((fail_if_success (refine ybi rfl ?_));refine ybj rfl ?_ ?_<;>(intro ht;rw [ht];first|replace ht := of_decide_eq_true ht|replace ht := of_decide_eq_false ht|skip))|(refine tb_ ?_ ?_ ?_;(·(exact to_));(·intro _;(exact to_));intro _)|(first|(refine tqs_ ?_ ?_ ?_;(·(exact to_));(·(exact to_))))|(apply ybn;(·(first|(first|(apply yad (vs := up u);(·rfl);(·exact ycm (yaz 1 rfl));(·simp [up, hu]))|(apply yad (vs := up u);(·rfl);(·exact ycm (yaz 2 rfl));(·simp [up, hu])))|(apply yae;(·rfl);(·(first|exact yck (yaz 1 rfl) hu rfl|exact yck (yaz 2 rfl) hu rfl)))|exact tq_));(·rfl);(·rfl);(·rfl);(·(exact to_))))|refine ycg ?_))
  refine rx_append_sc (sz := 2) 0 rfl rfl rfl hs (one_dcs l) rfl (by omega) (by unfold maxLen; omega) (by omega) rfl rfl rfl ?_ ?_ ?_
  · (exact to_)
  · intro v'; (exact to_)
  intro v2 _
  refine rx_persist rfl fun h3 hle3 hs3 => ?_
  have hs3' : Ds h3 v2 l := by simpa using hs3
  obtain ⟨_, ad2, cap2, rfl, _, _⟩ := id hs3'
  have hfu := fill2 (ad := ad2) (m := l.length) (c := cap2) hu
  repeat' (refine ycf ?_;(first|(first|(apply ybm;(·(first|(apply yax (cs := cxc u (.slice ad2 l.length cap2));(·rfl);(·exact hfu))|(apply yae;(·rfl);(·(first|exact yck (yaz 1 rfl) hu rfl|exact yck (yaz 2 rfl) hu rfl)))|exact tq_));(·rfl);(·rfl);(·(first|exact fun _ s => s|exact fun _ s => s.tl|exact fun _ s => s.tl.tl|exact fun _ s => Hd.sub s hle3 (fun r hr => hr))))|refine ybl rfl rfl ?_|((fail_if_success (refine ybi rfl ?_));refine ybj rfl ?_ ?_<;>(intro ht;rw [ht];first|replace ht := of_decide_eq_true ht|replace ht := of_decide_eq_false ht|skip))|(refine tb_ ?_ ?_ ?_;(·(first|exact ybf|(refine .inl ?_;(first|exact fun _ s => s|exact fun _ s => s.tl|exact fun _ s => s.tl.tl|exact fun _ s => Hd.sub s hle3 (fun r hr => hr)))|exact to_));(·intro _;(first|exact ybf|(refine .inl ?_;(first|exact fun _ s => s|exact fun _ s => s.tl|exact fun _ s => s.tl.tl|exact fun _ s => Hd.sub s hle3 (fun r hr => hr)))|exact to_));intro _)|(first|(refine ybg 0 rfl rfl rfl (cxc_sz hu) (cxc_fit hu) (cxc_one rfl) (ybh (cxc_all hu)) rfl rfl ?_ ?_ ?_;(·(first|exact ybf|(refine .inl ?_;(first|exact fun _ s => s|exact fun _ s => s.tl|exact fun _ s => s.tl.tl|exact fun _ s => Hd.sub s hle3 (fun r hr => hr)))|exact to_));(·(first|exact ybf|(refine .inl ?_;(first|exact fun _ s => s|exact fun _ s => s.tl|exact fun _ s => s.tl.tl|exact fun _ s => Hd.sub s hle3 (fun r hr => hr)))|exact to_)))|(refine tqs_ ?_ ?_ ?_;(·(first|exact ybf|(refine .inl ?_;(first|exact fun _ s => s|exact fun _ s => s.tl|exact fun _ s => s.tl.tl|exact fun _ s => Hd.sub s hle3 (fun r hr => hr)))|exact to_));(·(first|exact ybf|(refine .inl ?_;(first|exact fun _ s => s|exact fun _ s => s.tl|exact fun _ s => s.tl.tl|exact fun _ s => Hd.sub s hle3 (fun r hr => hr)))|exact to_))))|(apply ybn;(·(first|(apply yax (cs := cxc u (.slice ad2 l.length cap2));(·rfl);(·exact hfu))|(apply yae;(·rfl);(·(first|exact yck (yaz 1 rfl) hu rfl|exact yck (yaz 2 rfl) hu rfl)))|exact tq_));(·rfl);(·rfl);(·rfl);(·(first|exact ybf|(refine .inl ?_;(first|exact fun _ s => s|exact fun _ s => s.tl|exact fun _ s => s.tl.tl|exact fun _ s => Hd.sub s hle3 (fun r hr => hr)))|exact to_))))|refine ycg ?_))
  repeat' (first|(refine ycf ?_;apply ybk;(·first|(apply yax (cs := cxc u (.slice ad2 l.length cap2));(·rfl);(·exact hfu))|(apply yae;(·rfl);(·(first|exact yck (yaz 1 rfl) hu rfl|exact yck (yaz 2 rfl) hu rfl))));(·rfl);(·rfl))|(refine ybg 0 rfl rfl rfl (cxc_sz hu) (cxc_fit hu) (cxc_one rfl) (ybh (cxc_all hu)) rfl rfl ?_ ?_ ?_;(·(first|exact ybf|(refine .inl ?_;(first|exact fun _ s => s|exact fun _ s => s.tl|exact fun _ s => s.tl.tl|exact fun _ s => Hd.sub s hle3 (fun r hr => hr)))|exact to_));(·(first|exact ybf|(refine .inl ?_;(first|exact fun _ s => s|exact fun _ s => s.tl|exact fun _ s => s.tl.tl|exact fun _ s => Hd.sub s hle3 (fun r hr => hr)))|exact to_)))|refine t1_ ?_|(refine ta_ ?_;intro _)|((fail_if_success (refine ybi rfl ?_));refine ybj rfl ?_ ?_<;>(intro ht;rw [ht];first|replace ht := of_decide_eq_true ht|replace ht := of_decide_eq_false ht|skip))|(refine ych ?_;first|(refine ybw rfl ?_ ?_<;>intro ht)|(refine ybx rfl ?_ ?_<;>intro ht)))
  exact nx_ret1 rfl (rv_cells rfl (yaz 0 rfl) (cxc_all hu)) (fun w' s' => ⟨(h3, cxv u (.slice ad2 l.length cap2)), rfl, s'.nil, hu, _, rfl, hs3'⟩)

theorem tame_sp (cv : Value) (u : List Int) (l : List Dt) (h : View) (hc : Cx h cv u l) (hl : l.length ≤ 9223372036854775807) (w : World) (s : St ⟨w, h, []⟩ h [] w) :
    Calls Try.prog 14 [cv].toArray w fun e w' => ∃ x : View × Value, e = .returned x.2 ∧ St ⟨w, h, []⟩ x.1 [] w' ∧ Cx x.1 x.2 u (l.take 40) := by
  obtain ⟨hu, mv, rfl, hs⟩ := hc
  obtain ⟨_, ad, cap, rfl, hcap, _⟩ := id hs
  refine calls_enter Try.func14 rfl Try.ntmps14 rfl s ?_
  have hj : (if (40 : Int) < (l.length : Int) then (40 : Int) else (l.length : Int)) = ((min l.length 40 : Nat) : Int) := by split <;> omega
  generalize hJ : min l.length 40 = j at hj
  have hjl : j ≤ l.length := by omega
  have hj40 : j ≤ 40 := by omega
  have etk : l.take 40 = l.take j := by
    by_cases h40 : l.length ≤ 40
    · rw [List.take_of_length_le h40, List.take_of_length_le (by omega)]
    · have : j = 40 := by omega
      rw [this]
  have htl : (l.take j).length = j := by simp; omega
  have hst : Ds h (.slice ad j cap) (l.take j) := by
    unfold Ds
    rw [htl, ← flat_take]
    exact sc_take hs hjl
  repeat' (first|(refine ycf ?_;apply ybk;(·first|(first|(refine qv_min' rfl rfl hj)|(apply qv_slice_to;(·rfl);(·rfl);(·omega);(·omega)))|(apply yae;(·rfl);(·(first|exact yck (yaz 1 rfl) hu rfl|exact yck (yaz 2 rfl) hu rfl))));(·rfl);(·rfl))|(refine ybg 0 rfl rfl rfl (cxc_sz hu) (cxc_fit hu) (cxc_one rfl) (ybh (cxc_all hu)) rfl rfl ?_ ?_ ?_;(·(first|exact ybf|(refine .inl ?_;(first|exact fun _ s => s|exact fun _ s => s.tl|exact fun _ s => s.tl.tl|exact fun _ s => Hd.sub s hle3 (fun r hr => hr)))|exact to_));(·(first|exact ybf|(refine .inl ?_;(first|exact fun _ s => s|exact fun _ s => s.tl|exact fun _ s => s.tl.tl|exact fun _ s => Hd.sub s hle3 (fun r hr => hr)))|exact to_)))|refine t1_ ?_|(refine ta_ ?_;intro _)|((fail_if_success (refine ybi rfl ?_));refine ybj rfl ?_ ?_<;>(intro ht;rw [ht];first|replace ht := of_decide_eq_true ht|replace ht := of_decide_eq_false ht|skip))|(refine ych ?_;first|(refine ybw rfl ?_ ?_<;>intro ht)|(refine ybx rfl ?_ ?_<;>intro ht)))
  refine yba ma_buildSlice0 rfl rfl rfl ybf (fun _ => ybf) ?_
  intro b
  refine rx_rowOf 2 0 0 (by omega) (by unfold maxLen; omega) rfl ?_
  repeat' (first|(refine ycf ?_;apply ybk;(·first|(first|(refine qv_min' rfl rfl hj)|(apply qv_slice_to;(·rfl);(·rfl);(·omega);(·omega)))|(apply yae;(·rfl);(·(first|exact yck (yaz 1 rfl) hu rfl|exact yck (yaz 2 rfl) hu rfl))));(·rfl);(·rfl))|(refine ybg 0 rfl rfl rfl (cxc_sz hu) (cxc_fit hu) (cxc_one rfl) (ybh (cxc_all hu)) rfl rfl ?_ ?_ ?_;(·(first|exact ybf|(refine .inl ?_;(first|exact fun _ s => s|exact fun _ s => s.tl|exact fun _ s => s.tl.tl|exact fun _ s => Hd.sub s hle3 (fun r hr => hr)))|exact to_));(·(first|exact ybf|(refine .inl ?_;(first|exact fun _ s => s|exact fun _ s => s.tl|exact fun _ s => s.tl.tl|exact fun _ s => Hd.sub s hle3 (fun r hr => hr)))|exact to_)))|refine t1_ ?_|(refine ta_ ?_;intro _)|((fail_if_success (refine ybi rfl ?_));refine ybj rfl ?_ ?_<;>(intro ht;rw [ht];first|replace ht := of_decide_eq_true ht|replace ht := of_decide_eq_false ht|skip))|(refine ych ?_;first|(refine ybw rfl ?_ ?_<;>intro ht)|(refine ybx rfl ?_ ?_<;>intro ht)))
  refine rx_append_sc (sz := 2) (m := j) (news := (l.take j).flatMap dcs) 0 rfl rfl rfl (by unfold Ds at hst; rw [htl] at hst; exact hst) (one_dcs _) rfl (by omega) (by unfold maxLen; omega) (by omega) rfl rfl rfl ybf (fun _ => ybf) ?_
  intro v2 _
  refine rx_persist rfl fun h3 hle3 hs3 => ?_
  have hs3' : Ds h3 v2 (l.take j) := by unfold Ds; rw [htl]; simpa using hs3
  obtain ⟨_, ad2, cap2, rfl, _, _⟩ := id hs3'
  repeat' (first|(refine ycf ?_;apply ybk;(·first|(apply yad (vs := cxc u (.slice ad2 (l.take j).length cap2));(·rfl);(·exact yaz 1 rfl);(·exact ycj hu))|(apply yae;(·rfl);(·(first|exact yck (yaz 1 rfl) hu rfl|exact yck (yaz 2 rfl) hu rfl))));(·rfl);(·rfl))|(first|(refine ybg 1 rfl rfl rfl rfl (fit_more hu) rfl (spl_more hu) rfl rfl ?_ ?_ ?_;(·(first|exact ybf|(refine .inl ?_;(first|exact fun _ s => s|exact fun _ s => s.tl|exact fun _ s => s.tl.tl|exact fun _ s => Hd.sub s hle3 (fun r hr => hr)))|exact to_));(·(first|exact ybf|(refine .inl ?_;(first|exact fun _ s => s|exact fun _ s => s.tl|exact fun _ s => s.tl.tl|exact fun _ s => Hd.sub s hle3 (fun r hr => hr)))|exact to_)))|(refine ybg 0 rfl rfl rfl (cxc_sz hu) (cxc_fit hu) (cxc_one rfl) (ybh (cxc_all hu)) rfl rfl ?_ ?_ ?_;(·(first|exact ybf|(refine .inl ?_;(first|exact fun _ s => s|exact fun _ s => s.tl|exact fun _ s => s.tl.tl|exact fun _ s => Hd.sub s hle3 (fun r hr => hr)))|exact to_));(·(first|exact ybf|(refine .inl ?_;(first|exact fun _ s => s|exact fun _ s => s.tl|exact fun _ s => s.tl.tl|exact fun _ s => Hd.sub s hle3 (fun r hr => hr)))|exact to_))))|refine t1_ ?_|(refine ta_ ?_;intro _)|((fail_if_success (refine ybi rfl ?_));refine ybj rfl ?_ ?_<;>(intro ht;rw [ht];first|replace ht := of_decide_eq_true ht|replace ht := of_decide_eq_false ht|skip))|(refine ych ?_;first|(refine ybw rfl ?_ ?_<;>intro ht)|(refine ybx rfl ?_ ?_<;>intro ht)))
  refine nx_ret1 rfl (rv_cells rfl (yaz 0 rfl) (cxc_all hu)) (fun w' s' => ⟨(h3, cxv u (.slice ad2 (l.take j).length cap2)), rfl, s'.nil, hu, _, rfl, ?_⟩)
  rw [etk]; exact hs3'
end Go.Proofs.Ytbpahaciegfpfaa
