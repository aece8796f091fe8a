/-
  DotI: slices.SortFunc and slices.SortedFunc at dots by dot.order.
  Conditions: at most a million dots.
-/
import Derived.Shelf.SlSortCmp.NoneTotal
import Derived.Test.YtbpahaciegfpfaaDotSo
import Derived.Test.YtbpahaciegfpfaaDotH
namespace Go.Proofs.Ytbpahaciegfpfaa
open Go Go.Ck Go.Shelf Go.RowKit Go.Lib Go.Sort
set_option maxRecDepth 100000
set_option maxHeartbeats 2000000
set_option linter.unusedVariables false

theorem st_grow {w w' : World} {h : View} {L : List Res} (s : St ⟨w, h, []⟩ h L w') : ∃ q os', w' = Sort.grow (w.drewN q) os' := by
  refine ⟨w'.drawn - w.drawn, w'.heap.extract w.heap.size w'.heap.size, ?_⟩
  have e1 := s.os
  have e2 := s.tape
  have e3 := s.output
  have e4 := s.drawn
  have e5 : w'.heap = w.heap ++ w'.heap.extract w.heap.size w'.heap.size := by
    apply Array.ext_getElem?
    intro k
    have hs : w.heap.size ≤ w'.heap.size := s.size
    by_cases hk : k < w.heap.size
    · rw [Array.getElem?_append_left hk]
      exact s.keep k hk (by simp)
    · rw [Array.getElem?_append_right (by omega), Array.getElem?_extract]
      by_cases hk2 : k < w'.heap.size
      · rw [if_pos (by omega)]
        congr 1; omega
      · rw [if_neg (by omega), Array.getElem?_eq_none (by omega)]
  have e4' : w.drawn ≤ w'.drawn := e4
  obtain ⟨a1, a2, a3, a4, a5⟩ := w'
  obtain ⟨b1, b2, b3, b4, b5⟩ := w
  simp only at e1 e2 e3 e4' e5
  subst e1 e2 e3
  show World.mk _ _ _ _ _ = World.mk _ _ _ _ _
  congr 1
  show a3 = b3 + (a3 - b3)
  omega

theorem order_lays (blk off size : Nat) (w : World) : CmpLays Try.prog 56 #[] dcs 2 ordD blk off size w := fun m os dk _ x y => by
  have := order_sp x y (fun _ => none) _ (St.start (w := sortWorldK dcs 2 w blk off m dk os) (L := []) ⟨fun b o hb => (by cases hb), fun r hr => (by cases hr)⟩ (by simp [doms]) (fun b hb => rfl))
  refine this.mono ?_
  rintro e w' ⟨rfl, s'⟩
  exact ⟨rfl, st_grow s'⟩

theorem ord_lt (x y : Dt) : ltOf ordD x y = decide (x.1 < y.1 ∨ x.1 = y.1 ∧ x.2 < y.2) := by
  unfold ltOf ordD cmpI
  rw [decide_eq_decide]
  repeat' split
  all_goals omega
theorem ord_swo : Sort.SWO (ltOf ordD) where
  irrefl x := by rw [ord_lt]; simp
  trans x y z h1 h2 := by rw [ord_lt] at *; simp at *; omega
  ntrans x y z h1 h2 := by rw [ord_lt] at *; simp at *; omega

theorem holds_row {w : World} {g : Nat} {l : List Dt} {cur : Array Value} {e : TypeId} (hg : w.heap[g]? = some (.cells cur e (0, 0))) (ht : cur.toList.take (l.length * 2) = l.flatMap dcs) : HoldsK dcs 2 w g 0 l.toArray := by
  intro j hj
  rw [size_flatK] at hj
  have hj' : j < l.length * 2 := by simpa using hj
  refine ⟨?_, by simp [World.frozen?, hg]⟩
  rw [get_flatK dcs 2 l.toArray j hj]
  have hd : j / 2 < l.length := by omega
  have h1 : ((l.flatMap dcs).drop (j / 2 * 2)).take 2 = dcs l[j / 2] := flat_at dcs_len l (j / 2) hd
  have h2 : cur[j]? = (l.flatMap dcs)[j]? := by
    rw [← ht, List.getElem?_take_of_lt hj', Array.getElem?_toList]
  have h3 : (l.flatMap dcs)[j]? = (dcs l[j / 2])[j % 2]? := by
    rw [← h1, List.getElem?_take_of_lt (by omega), List.getElem?_drop]
    congr 1; omega
  simp only [World.cell?, hg, Nat.zero_add]
  simp only [Option.isSome_none, Bool.false_eq_true, if_false]
  rw [h2, h3]
  have h4 : (dcs l[j / 2])[j % 2]? = some ((dcs l[j / 2])[j % 2]!) := by
    rw [getElem!_pos _ (j % 2) (by rw [dcs_len]; omega), List.getElem?_eq_getElem]
  rw [h4]
  simp [getElem!_pos, hd]

def SortedD (l : List Dt) : Prop := l.Pairwise fun x y => ¬ ordD y x < 0

theorem flat_eq {l : List Dt} : (flatK dcs 2 l.toArray).toList = l.flatMap dcs := by
  apply List.ext_getElem?
  intro j
  by_cases hj : j < l.length * 2
  · have hd : j / 2 < l.length := by omega
    have h1 : ((l.flatMap dcs).drop (j / 2 * 2)).take 2 = dcs l[j / 2] := flat_at dcs_len l (j / 2) hd
    have h3 : (l.flatMap dcs)[j]? = (dcs l[j / 2])[j % 2]? := by
      rw [← h1, List.getElem?_take_of_lt (by omega), List.getElem?_drop]
      congr 1; omega
    have h4 : (dcs l[j / 2])[j % 2]? = some ((dcs l[j / 2])[j % 2]!) := by
      rw [getElem!_pos _ (j % 2) (by rw [dcs_len]; omega), List.getElem?_eq_getElem]
    have hs : j < (flatK dcs 2 l.toArray).size := by simpa using hj
    have := get_flatK dcs 2 l.toArray j (by simpa using hj)
    rw [getElem!_pos _ j hs] at this
    rw [h3, h4, Array.getElem?_toList, Array.getElem?_eq_getElem hs, this]
    simp [getElem!_pos, hd]
  · rw [List.getElem?_eq_none (by simp; omega), List.getElem?_eq_none]
    have : (l.flatMap dcs).length = l.length * 2 := by
      clear hj
      induction l with
      | nil => rfl
      | cons d l ih => simp [dcs_len, ih]; omega
    omega

theorem row_sorted {w : World} {g cap n : Nat} {e : TypeId} {os : Array Obj} {cur : Array Value} {l l' : List Dt} (hl : l'.length = l.length) (hb : w.heap[g]? = some (.cells cur e (0, 0))) (h1 : l.length ≤ cap) (h2 : cap ≤ maxLen) (h3 : cur.size = cap * 2) :
    (sortWorldK dcs 2 w g 0 n l'.toArray os).ownsRow 0 e 2 (.slice (some ⟨g, 0, none⟩) l.length cap) l'.length (l'.flatMap dcs) := by
  have hg : g < w.heap.size := (Array.getElem?_eq_some_iff.1 hb).1
  have hfl : (flatK dcs 2 l'.toArray).size = l'.length * 2 := by simp
  have hh : (sortWorldK dcs 2 w g 0 n l'.toArray os).heap[g]? = some (.cells (Sort.putCells id 0 (flatK dcs 2 l'.toArray) cur) e (0, 0)) := by
    unfold sortWorldK putRowK
    rw [Sort.heap_grow_old _ _ (by simpa using hg)]
    simp [Sort.putRow, Sort.mapBlock, Sort.ahead, Array.getElem?_modify, hb, Sort.onCells]
  refine ⟨?_, .inr ⟨g, cap, _, by rw [hl], Nat.zero_le _, hh, by omega, h2, by simp [Sort.putCells, h3], ?_⟩⟩
  · rw [← flat_eq]; simp
  · rw [← flat_eq]
    apply List.ext_getElem?
    intro j
    by_cases hj : j < l'.length * 2
    · have hs : j < (flatK dcs 2 l'.toArray).size := by omega
      rw [List.getElem?_take_of_lt hj, Array.getElem?_toList, Array.getElem?_toList]
      simp only [Sort.putCells, Array.getElem?_mapIdx]
      rw [Array.getElem?_eq_getElem (show j < cur.size by rw [h3]; omega), Array.getElem?_eq_getElem hs]
      simp only [Option.map_some, Nat.zero_le, Nat.zero_add, true_and, Nat.sub_zero, id]
      rw [if_pos hs, getElem!_pos _ j hs]
    · rw [List.getElem?_take_eq_none (by omega), List.getElem?_eq_none]
      simp; omega

theorem sort_sp (v : Value) (l : List Dt) (h : View) (hlen : l.length ≤ 1000000) (w : World) (s : St ⟨w, h, doms [rowD v l]⟩ h [rowD v l] w) :
    Calls Try.prog 68 [v, .func (.func 56) #[] #[]].toArray w fun e w' => ∃ l', e = .returned (.tuple #[]) ∧ St ⟨w, h, doms [rowD v l]⟩ h [rowD v l'] w' ∧ l'.Perm l ∧ SortedD l' := by
  have ho : w.ownsRow 0 24 2 v l.length (l.flatMap dcs) := s.hd.own (rowD v l) (List.mem_cons_self ..)
  rcases ho.2 with ⟨rfl, h0⟩ | ⟨g, cap, cur, rfl, _, hg, hn, hm, hs, ht⟩
  · obtain rfl : l = [] := List.eq_nil_of_length_eq_zero h0
    refine (AnyF.slices_SortFunc_none Try.sortDot none 0 _ w).mono ?_
    rintro e w' ⟨rfl, rfl⟩
    exact ⟨[], rfl, s, List.Perm.nil, List.Pairwise.nil⟩
  · have hblk : g < w.heap.size := (Array.getElem?_eq_some_iff.1 hg).1
    have eg : ∀ args w, (callFunc 56 args).run Try.prog w = .ok (.enter 56 args) w := enters_of (fn := Try.f56) rfl (by kernel_rfl) rfl
    have hcon := AnyQ.slices_SortFunc Try.sortDot 2 Try.isAgg24 Try.sizeOf24 dcs dcs_len (fun x v hv => one_dcs [x] v (by simpa using hv)) ordD ord_swo 56 #[] g 0 cap l.toArray w eg (order_lays g 0 l.toArray.size w) (holds_row hg ht) hblk (by simp; omega)
    refine hcon.mono ?_
    rintro e w' ⟨rfl, d', n, os, hp, hso, rfl⟩
    have hsz : d'.toList.length = l.length := by simpa using hp.1
    refine ⟨d'.toList, rfl, ?_, ?_, ?_⟩
    · have hr := row_sorted (n := n) (os := os) (l' := d'.toList) hsz hg hn hm hs
      rw [Array.toArray_toList] at hr
      refine St.swap (k := 0) s rfl rfl rfl rfl ?_ ?_ ?_ hr ?_ ?_
      · show w.drawn ≤ w.drawn + n
        omega
      · simp [sortWorldK, putRowK, Sort.grow, Sort.ahead]
      · intro j hj hjn
        have hjg : g ≠ j := fun e => hjn (by simp [Res.row, Value.ownBlock, e])
        unfold sortWorldK putRowK
        rw [Sort.heap_grow_old _ _ (by simpa using hj)]
        simp [Sort.putRow, Sort.mapBlock, Sort.ahead, Array.getElem?_modify, hjg]
      · simp [Res.row, Value.ownBlock]
      · intro b hb
        exact .inl hb
    · have := hp.2.2
      have e1 : (d'.extract 0 l.toArray.size).toList = d'.toList := by
        have : l.toArray.size = d'.size := by simp [← hsz]
        rw [this, Array.extract_size]
      have e2 : (l.toArray.extract 0 l.toArray.size).toList = l := by rw [Array.extract_size]
      rw [e1, e2] at this
      exact this
    · unfold SortedD
      rw [List.pairwise_iff_getElem]
      intro i j hi hj hij
      have := hso i j (Nat.zero_le _) hij (by simpa [← hsz] using hj)
      rw [getElem!_pos d' i (by simpa using hi), getElem!_pos d' j (by simpa using hj)] at this
      simpa [ltOf] using this

theorem sortedFunc_sp (b : Nat) (mv : Value) (Lm : List Dt) (h : View) (hs : Ds h mv Lm) (hb : h b = some (.cells #[mv] 22)) (hlen : Lm.length ≤ 1000000) (w : World) (s : St ⟨w, h, []⟩ h [] w) :
    Calls Try.prog 54 [.func (.func 69) #[] #[.pointer (some ⟨b, 0, none⟩)], .func (.func 56) #[] #[]].toArray w fun e w' => ∃ x : Value × List Dt, e = .returned x.1 ∧ St ⟨w, h, []⟩ h [rowD x.1 x.2] w' ∧ x.2.Perm Lm ∧ SortedD x.2 := by
  refine calls_enter Try.func54 rfl Try.ntmps54 rfl s ?_
  repeat' (first | refine tw_ ?_ | (refine ta_ ?_; intro _) | ((fail_if_success (refine ybi rfl ?_)); refine ybj rfl ?_ ?_ <;> (intro ht; rw [ht]; first | replace ht := of_decide_eq_true ht | replace ht := of_decide_eq_false ht | skip)) | (refine ych ?_; first | (refine ybw rfl ?_ ?_ <;> intro ht) | (refine ybx rfl ?_ ?_ <;> intro ht)))
  (refine yco (ycp Try.func67 rfl (by kernel_rfl) rfl) (collect_sp b mv Lm h hs hb hlen) rfl rfl rfl ?_ ?_ ?_; (· (exact to_)); (· intro _ _ hle; (exact to_)); intro x px hle)
  repeat' (first | refine tw_ ?_ | (refine ta_ ?_; intro _) | ((fail_if_success (refine ybi rfl ?_)); refine ybj rfl ?_ ?_ <;> (intro ht; rw [ht]; first | replace ht := of_decide_eq_true ht | replace ht := of_decide_eq_false ht | skip)) | (refine ych ?_; first | (refine ybw rfl ?_ ?_ <;> intro ht) | (refine ybx rfl ?_ ?_ <;> intro ht)))
  (refine rx_call_m (ycp Try.func68 rfl (by kernel_rfl) rfl) (perm_at (k := 0) rfl) (sort_sp _ Lm h hlen) rfl rfl rfl ?_ ?_ ?_; (· (exact to_)); (· intro _ _ hle; (exact to_)); intro x px hle)
  repeat' (first | refine tw_ ?_ | (refine ta_ ?_; intro _) | ((fail_if_success (refine ybi rfl ?_)); refine ybj rfl ?_ ?_ <;> (intro ht; rw [ht]; first | replace ht := of_decide_eq_true ht | replace ht := of_decide_eq_false ht | skip)) | (refine ych ?_; first | (refine ybw rfl ?_ ?_ <;> intro ht) | (refine ybx rfl ?_ ?_ <;> intro ht)))
  exact nx_ret1 rfl (rv_tmp rfl) (fun w' s' => ⟨(_, x), rfl, s', px⟩)
end Go.Proofs.Ytbpahaciegfpfaa
