/-
  Part 5 of a proof: DotI DotJ DotK DotL.
  Conditions: each theorem states its own.
-/
import Derived.Shelf.SlSortCmp.NoneTotal
import Derived.Test.YtkkjppeaaicgaaaGreatSrEPM4
section
namespace Go.Proofs.YtkkjppeaaicgaaaGreat
open Go Go.Ck Go.Shelf Go.RowKit Go.Lib Go.Sort
set_option maxRecDepth 100000
set_option maxHeartbeats 2000000
set_option linter.unusedVariables false

theorem st_grow {w w' : World} {h : View} {L : List Res} (s : St ⟨w, h, []⟩ h L w') : ∃ q os', w' = Sort.grow (w.drewN q) os' := by
  refine ⟨w'.drawn - w.drawn, w'.heap.extract w.heap.size w'.heap.size, ?_⟩
  have e1 := s.os
  have e2 := s.tape
  have e3 := s.output
  have e4 := s.drawn
  have e5 : w'.heap = w.heap ++ w'.heap.extract w.heap.size w'.heap.size := by
    apply Array.ext_getElem?
    intro k
    have hs : w.heap.size ≤ w'.heap.size := s.size
    by_cases hk : k < w.heap.size
    · rw [Array.getElem?_append_left hk]
      exact s.keep k hk (by simp)
    · rw [Array.getElem?_append_right (by omega), Array.getElem?_extract]
      by_cases hk2 : k < w'.heap.size
      · rw [if_pos (by omega)]
        congr 1; omega
      · rw [if_neg (by omega), Array.getElem?_eq_none (by omega)]
  have e4' : w.drawn ≤ w'.drawn := e4
  obtain ⟨a1, a2, a3, a4, a5⟩ := w'
  obtain ⟨b1, b2, b3, b4, b5⟩ := w
  simp only at e1 e2 e3 e4' e5
  subst e1 e2 e3
  show World.mk _ _ _ _ _ = World.mk _ _ _ _ _
  congr 1
  show a3 = b3 + (a3 - b3)
  omega

theorem order_lays (blk off size : Nat) (w : World) : CmpLays Tryz.prog 76 #[] dcs 2 ordD blk off size w := fun m os dk _ x y => by
  have := order_sp x y (fun _ => none) _ (St.start (w := sortWorldK dcs 2 w blk off m dk os) (L := []) ⟨fun b o hb => (by cases hb), fun r hr => (by cases hr)⟩ (by simp [doms]) (fun b hb => rfl))
  refine this.mono ?_
  rintro e w' ⟨rfl, s'⟩
  exact ⟨rfl, st_grow s'⟩

theorem ord_lt (x y : Dt) : ltOf ordD x y = decide (x.1 < y.1 ∨ x.1 = y.1 ∧ x.2 < y.2) := by
  unfold ltOf ordD cmpI
  rw [decide_eq_decide]
  repeat' split
  all_goals omega
theorem ord_swo : Sort.SWO (ltOf ordD) where
  irrefl x := by rw [ord_lt]; simp
  trans x y z h1 h2 := by rw [ord_lt] at *; simp at *; omega
  ntrans x y z h1 h2 := by rw [ord_lt] at *; simp at *; omega

theorem holds_row {w : World} {g : Nat} {l : List Dt} {cur : Array Value} {e : TypeId} (hg : w.heap[g]? = some (.cells cur e (0, 0))) (ht : cur.toList.take (l.length * 2) = l.flatMap dcs) : HoldsK dcs 2 w g 0 l.toArray := by
  intro j hj
  rw [size_flatK] at hj
  have hj' : j < l.length * 2 := by simpa using hj
  refine ⟨?_, by simp [World.frozen?, hg]⟩
  rw [get_flatK dcs 2 l.toArray j hj]
  have hd : j / 2 < l.length := by omega
  have h1 : ((l.flatMap dcs).drop (j / 2 * 2)).take 2 = dcs l[j / 2] := flat_at dcs_len l (j / 2) hd
  have h2 : cur[j]? = (l.flatMap dcs)[j]? := by
    rw [← ht, List.getElem?_take_of_lt hj', Array.getElem?_toList]
  have h3 : (l.flatMap dcs)[j]? = (dcs l[j / 2])[j % 2]? := by
    rw [← h1, List.getElem?_take_of_lt (by omega), List.getElem?_drop]
    congr 1; omega
  simp only [World.cell?, hg, Nat.zero_add]
  simp only [Option.isSome_none, Bool.false_eq_true, if_false]
  rw [h2, h3]
  have h4 : (dcs l[j / 2])[j % 2]? = some ((dcs l[j / 2])[j % 2]!) := by
    rw [getElem!_pos _ (j % 2) (by rw [dcs_len]; omega), List.getElem?_eq_getElem]
  rw [h4]
  simp [getElem!_pos, hd]

def SortedD (l : List Dt) : Prop := l.Pairwise fun x y => ¬ ordD y x < 0

theorem flat_eq {l : List Dt} : (flatK dcs 2 l.toArray).toList = l.flatMap dcs := by
  apply List.ext_getElem?
  intro j
  by_cases hj : j < l.length * 2
  · have hd : j / 2 < l.length := by omega
    have h1 : ((l.flatMap dcs).drop (j / 2 * 2)).take 2 = dcs l[j / 2] := flat_at dcs_len l (j / 2) hd
    have h3 : (l.flatMap dcs)[j]? = (dcs l[j / 2])[j % 2]? := by
      rw [← h1, List.getElem?_take_of_lt (by omega), List.getElem?_drop]
      congr 1; omega
    have h4 : (dcs l[j / 2])[j % 2]? = some ((dcs l[j / 2])[j % 2]!) := by
      rw [getElem!_pos _ (j % 2) (by rw [dcs_len]; omega), List.getElem?_eq_getElem]
    have hs : j < (flatK dcs 2 l.toArray).size := by simpa using hj
    have := get_flatK dcs 2 l.toArray j (by simpa using hj)
    rw [getElem!_pos _ j hs] at this
    rw [h3, h4, Array.getElem?_toList, Array.getElem?_eq_getElem hs, this]
    simp [getElem!_pos, hd]
  · rw [List.getElem?_eq_none (by simp; omega), List.getElem?_eq_none]
    have : (l.flatMap dcs).length = l.length * 2 := by
      clear hj
      induction l with
      | nil => rfl
      | cons d l ih => simp [dcs_len, ih]; omega
    omega

theorem row_sorted {w : World} {g cap n : Nat} {e : TypeId} {os : Array Obj} {cur : Array Value} {l l' : List Dt} (hl : l'.length = l.length) (hb : w.heap[g]? = some (.cells cur e (0, 0))) (h1 : l.length ≤ cap) (h2 : cap ≤ maxLen) (h3 : cur.size = cap * 2) :
    (sortWorldK dcs 2 w g 0 n l'.toArray os).ownsRow 0 e 2 (.slice (some ⟨g, 0, none⟩) l.length cap) l'.length (l'.flatMap dcs) := by
  have hg : g < w.heap.size := (Array.getElem?_eq_some_iff.1 hb).1
  have hfl : (flatK dcs 2 l'.toArray).size = l'.length * 2 := by simp
  have hh : (sortWorldK dcs 2 w g 0 n l'.toArray os).heap[g]? = some (.cells (Sort.putCells id 0 (flatK dcs 2 l'.toArray) cur) e (0, 0)) := by
    unfold sortWorldK putRowK
    rw [Sort.heap_grow_old _ _ (by simpa using hg)]
    simp [Sort.putRow, Sort.mapBlock, Sort.ahead, Array.getElem?_modify, hb, Sort.onCells]
  refine ⟨?_, .inr ⟨g, cap, _, by rw [hl], Nat.zero_le _, hh, by omega, h2, by simp [Sort.putCells, h3], ?_⟩⟩
  · rw [← flat_eq]; simp
  · rw [← flat_eq]
    apply List.ext_getElem?
    intro j
    by_cases hj : j < l'.length * 2
    · have hs : j < (flatK dcs 2 l'.toArray).size := by omega
      rw [List.getElem?_take_of_lt hj, Array.getElem?_toList, Array.getElem?_toList]
      simp only [Sort.putCells, Array.getElem?_mapIdx]
      rw [Array.getElem?_eq_getElem (show j < cur.size by rw [h3]; omega), Array.getElem?_eq_getElem hs]
      simp only [Option.map_some, Nat.zero_le, Nat.zero_add, true_and, Nat.sub_zero, id]
      rw [if_pos hs, getElem!_pos _ j hs]
    · rw [List.getElem?_take_eq_none (by omega), List.getElem?_eq_none]
      simp; omega

theorem sort_sp (v : Value) (l : List Dt) (h : View) (hlen : l.length ≤ 1000000) (w : World) (s : St ⟨w, h, doms [rowD v l]⟩ h [rowD v l] w) :
    Calls Tryz.prog 49 [v, .func (.func 76) #[] #[]].toArray w fun e w' => ∃ l', e = .returned (.tuple #[]) ∧ St ⟨w, h, doms [rowD v l]⟩ h [rowD v l'] w' ∧ l'.Perm l ∧ SortedD l' := by
  have ho : w.ownsRow 0 40 2 v l.length (l.flatMap dcs) := s.hd.own (rowD v l) (List.mem_cons_self ..)
  rcases ho.2 with ⟨rfl, h0⟩ | ⟨g, cap, cur, rfl, _, hg, hn, hm, hs, ht⟩
  · obtain rfl : l = [] := List.eq_nil_of_length_eq_zero h0
    refine (AnyF.slices_SortFunc_none Tryz.sortDot none 0 _ w).mono ?_
    rintro e w' ⟨rfl, rfl⟩
    exact ⟨[], rfl, s, List.Perm.nil, List.Pairwise.nil⟩
  · have hblk : g < w.heap.size := (Array.getElem?_eq_some_iff.1 hg).1
    have eg : ∀ args w, (callFunc 76 args).run Tryz.prog w = .ok (.enter 76 args) w := enters_of (fn := Tryz.f76) rfl (by kernel_rfl) rfl
    have hcon := AnyQ.slices_SortFunc Tryz.sortDot 2 Tryz.isAgg40 Tryz.sizeOf40 dcs dcs_len (fun x v hv => one_dcs [x] v (by simpa using hv)) ordD ord_swo 76 #[] g 0 cap l.toArray w eg (order_lays g 0 l.toArray.size w) (holds_row hg ht) hblk (by simp; omega)
    refine hcon.mono ?_
    rintro e w' ⟨rfl, d', n, os, hp, hso, rfl⟩
    have hsz : d'.toList.length = l.length := by simpa using hp.1
    refine ⟨d'.toList, rfl, ?_, ?_, ?_⟩
    · have hr := row_sorted (n := n) (os := os) (l' := d'.toList) hsz hg hn hm hs
      rw [Array.toArray_toList] at hr
      refine St.swap (k := 0) s rfl rfl rfl rfl ?_ ?_ ?_ hr ?_ ?_
      · show w.drawn ≤ w.drawn + n
        omega
      · simp [sortWorldK, putRowK, Sort.grow, Sort.ahead]
      · intro j hj hjn
        have hjg : g ≠ j := fun e => hjn (by simp [Res.row, Value.ownBlock, e])
        unfold sortWorldK putRowK
        rw [Sort.heap_grow_old _ _ (by simpa using hj)]
        simp [Sort.putRow, Sort.mapBlock, Sort.ahead, Array.getElem?_modify, hjg]
      · simp [Res.row, Value.ownBlock]
      · intro b hb
        exact .inl hb
    · have := hp.2.2
      have e1 : (d'.extract 0 l.toArray.size).toList = d'.toList := by
        have : l.toArray.size = d'.size := by simp [← hsz]
        rw [this, Array.extract_size]
      have e2 : (l.toArray.extract 0 l.toArray.size).toList = l := by rw [Array.extract_size]
      rw [e1, e2] at this
      exact this
    · unfold SortedD
      rw [List.pairwise_iff_getElem]
      intro i j hi hj hij
      have := hso i j (Nat.zero_le _) hij (by simpa [← hsz] using hj)
      rw [getElem!_pos d' i (by simpa using hi), getElem!_pos d' j (by simpa using hj)] at this
      simpa [ltOf] using this

theorem sortedFunc_sp (b : Nat) (mv : Value) (Lm : List Dt) (h : View) (hs : Ds h mv Lm) (hb : h b = some (.cells #[mv] 42)) (hlen : Lm.length ≤ 1000000) (w : World) (s : St ⟨w, h, []⟩ h [] w) :
    Calls Tryz.prog 90 [.func (.func 103) #[] #[.pointer (some ⟨b, 0, none⟩)], .func (.func 76) #[] #[]].toArray w fun e w' => ∃ x : Value × List Dt, e = .returned x.1 ∧ St ⟨w, h, []⟩ h [rowD x.1 x.2] w' ∧ x.2.Perm Lm ∧ SortedD x.2 := by
  refine calls_enter Tryz.func90 rfl Tryz.ntmps90 rfl s ?_
  repeat' (first | refine tw_ ?_ | (refine ta_ ?_; intro _) | ((fail_if_success (refine ybi rfl ?_)); refine ybj rfl ?_ ?_ <;> (intro ht; rw [ht]; first | replace ht := of_decide_eq_true ht | replace ht := of_decide_eq_false ht | skip)) | (refine ych ?_; first | (refine ybw rfl ?_ ?_ <;> intro ht) | (refine ybx rfl ?_ ?_ <;> intro ht)))
  (refine yco (ycp Tryz.func102 rfl (by kernel_rfl) rfl) (collect_sp b mv Lm h hs hb hlen) rfl rfl rfl ?_ ?_ ?_; (· (exact to_)); (· intro _ _ hle; (exact to_)); intro x px hle)
  repeat' (first | refine tw_ ?_ | (refine ta_ ?_; intro _) | ((fail_if_success (refine ybi rfl ?_)); refine ybj rfl ?_ ?_ <;> (intro ht; rw [ht]; first | replace ht := of_decide_eq_true ht | replace ht := of_decide_eq_false ht | skip)) | (refine ych ?_; first | (refine ybw rfl ?_ ?_ <;> intro ht) | (refine ybx rfl ?_ ?_ <;> intro ht)))
  (refine rx_call_m (ycp Tryz.func49 rfl (by kernel_rfl) rfl) (perm_at (k := 0) rfl) (sort_sp _ Lm h hlen) rfl rfl rfl ?_ ?_ ?_; (· (exact to_)); (· intro _ _ hle; (exact to_)); intro x px hle)
  repeat' (first | refine tw_ ?_ | (refine ta_ ?_; intro _) | ((fail_if_success (refine ybi rfl ?_)); refine ybj rfl ?_ ?_ <;> (intro ht; rw [ht]; first | replace ht := of_decide_eq_true ht | replace ht := of_decide_eq_false ht | skip)) | (refine ych ?_; first | (refine ybw rfl ?_ ?_ <;> intro ht) | (refine ybx rfl ?_ ?_ <;> intro ht)))
  exact nx_ret1 rfl (rv_tmp rfl) (fun w' s' => ⟨(_, x), rfl, s', px⟩)
end Go.Proofs.YtkkjppeaaicgaaaGreat
end

section
namespace Go.Proofs.YtkkjppeaaicgaaaGreat
open Go Go.Ck
set_option maxRecDepth 100000
set_option maxHeartbeats 1000000
set_option linter.unusedVariables false

def tstep (x : List Int × List Dt) (d : Dt) : List Int × List Dt :=
  if d.2 = x.1.getD (d.1 - 1).toNat 0 + 1 then (x.1.set (d.1 - 1).toNat d.2, x.2)
  else if x.1.getD (d.1 - 1).toNat 0 < d.2 ∧ d ∉ x.2 then (x.1, x.2 ++ [d]) else x
def tfold (u : List Int) (l : List Dt) : List Int × List Dt := l.foldl tstep (u, [])
def zeroU : List Int := List.replicate 16 0

theorem list16 : ∀ u : List Int, u.length = 16 → ∃ a0 a1 a2 a3 a4 a5 a6 a7 a8 a9 a10 a11 a12 a13 a14 a15, u = [a0, a1, a2, a3, a4, a5, a6, a7, a8, a9, a10, a11, a12, a13, a14, a15]
  | [a0, a1, a2, a3, a4, a5, a6, a7, a8, a9, a10, a11, a12, a13, a14, a15], _ => ⟨a0, a1, a2, a3, a4, a5, a6, a7, a8, a9, a10, a11, a12, a13, a14, a15, rfl⟩

theorem cxc_sz {u : List Int} {x : Value} (hu : u.length = 16) : (Value.agg (cxc u x).toArray).cells.size = 17 := by
  show (cxc u x).toArray.size = 17
  simp [ycj hu]
theorem cxc_fit {u : List Int} {x : Value} (hu : u.length = 16) : 0 + (Value.agg (cxc u x).toArray).cells.size ≤ 17 := by rw [cxc_sz hu]; omega
theorem cxc_all {u : List Int} {x : Value} (hu : u.length = 16) : (Value.agg (cxc u x).toArray).cells.toList.length = 17 := by
  show (cxc u x).toArray.toList.length = 17
  simp [ycj hu]
theorem cxc_one {u : List Int} {x : Value} (hx : x.oneCell' = true) : (Value.agg (cxc u x).toArray).cells.toList.all Value.oneCell' = true := by
  show (cxc u x).toArray.toList.all Value.oneCell' = true
  simp only [cxc, up, List.all_append, List.all_map, List.all_cons, List.all_nil, hx]
  simp [Value.oneCell', List.all_eq_true]
theorem tstep_len {x : List Int × List Dt} {d : Dt} : (tstep x d).1.length = x.1.length := by
  unfold tstep; split
  · simp
  · split <;> rfl
theorem tfold_succ {u : List Int} {l : List Dt} {k : Nat} (hk : k < l.length) : tfold u (l.take (k + 1)) = tstep (tfold u (l.take k)) l[k] := by
  unfold tfold
  rw [List.take_succ_eq_append_getElem hk, List.foldl_append]
  rfl
theorem tfold_ok {u : List Int} (hu : u.length = 16) (hub : ∀ x ∈ u, 0 ≤ x ∧ x ≤ 1099511627776) {l : List Dt} (hr : ∀ d ∈ l, rightB d = true) : ∀ k, k ≤ l.length →
    (tfold u (l.take k)).1.length = 16 ∧ (∀ x ∈ (tfold u (l.take k)).1, 0 ≤ x ∧ x ≤ 1099511627776) ∧ (tfold u (l.take k)).2.length ≤ k ∧ ∀ d ∈ (tfold u (l.take k)).2, rightB d = true := by
  intro k
  induction k with
  | zero => intro _; exact ⟨hu, hub, by simp [tfold], by simp [tfold]⟩
  | succ k ih =>
    intro hk
    obtain ⟨h1, h2, h3, h4⟩ := ih (by omega)
    rw [tfold_succ (by omega)]
    have hd := hr l[k] (List.getElem_mem _)
    have hdr := right_of hd
    unfold tstep
    split
    · refine ⟨by simpa using h1, fun x hx => ?_, Nat.le_succ_of_le h3, h4⟩
      rcases List.mem_or_eq_of_mem_set hx with hx | rfl
      · exact h2 x hx
      · omega
    · split
      · refine ⟨h1, h2, by simp; omega, fun d hd' => ?_⟩
        rcases List.mem_append.1 hd' with hd' | hd'
        · exact h4 d hd'
        · have : d = l[k] := by simpa using hd'
          rw [this]; exact hd
      · exact ⟨h1, h2, by omega, h4⟩

theorem spl_cxc {u : List Int} {mv : Value} {x : Int} {i o : Nat} (ho : o = i) (hi : i < u.length) : spl (cxc u mv).toArray.toList o (Value.int .i64 x).cells.toList = cxc (u.set i x) mv := by
  subst ho
  show (up u ++ [mv]).take o ++ [Value.int .i64 x] ++ (up u ++ [mv]).drop (o + 1) = up (u.set o x) ++ [mv]
  have hl : (up u).length = u.length := by simp [up]
  rw [List.take_append_of_le_length (by omega), List.drop_append_of_le_length (by omega)]
  unfold up
  rw [List.map_set, List.set_eq_take_append_cons_drop, if_pos (by simpa using hi)]
  simp
theorem fit_cxc {u : List Int} {mv : Value} {x : Int} {i o : Nat} (hu : u.length = 16) (ho : o = i) (hi : i < u.length) : o + (Value.int .i64 x).cells.size ≤ (cxc u mv).toArray.size := by
  show o + 1 ≤ _
  simp [ycj hu]; omega

theorem spl_more {u : List Int} {mv : Value} {ad : Option Addr} {m c : Nat} (hu : u.length = 16) : spl (cxc u mv).toArray.toList 16 (Value.slice ad m c).cells.toList = cxc u (.slice ad m c) := by
  show (up u ++ [mv]).take 16 ++ [Value.slice ad m c] ++ (up u ++ [mv]).drop (16 + 1) = up u ++ [Value.slice ad m c]
  have hl : (up u).length = 16 := by simp [up, hu]
  rw [← hl, List.take_left, List.drop_eq_nil_of_le (by simp)]
  simp
theorem fit_more {u : List Int} {mv : Value} {ad : Option Addr} {m c : Nat} (hu : u.length = 16) : 0 + 16 + (Value.slice ad m c).cells.size ≤ (cxc u mv).toArray.size := by
  show 16 + 1 ≤ _
  simp [ycj hu]

theorem tidy_sp (u : List Int) (mv : Value) (Lm : List Dt) (h : View) (hu : u.length = 16) (hub : ∀ x ∈ u, 0 ≤ x ∧ x ≤ 1099511627776) (hs : Ds h mv Lm) (hr : ∀ d ∈ Lm, rightB d = true) (hlen : Lm.length ≤ 1000000) (w : World) (s : St ⟨w, h, []⟩ h [] w) :
    Calls Tryz.prog 73 [.agg (up u).toArray, mv].toArray w fun e w' => ∃ x : View × Value × List Dt × Int, e = .returned (.tuple #[x.2.1, .int .i64 x.2.2.2]) ∧ St ⟨w, h, []⟩ x.1 [] w' ∧ x.2.2.1.Perm Lm ∧ SortedD x.2.2.1 ∧
      (if 32 < (tfold u x.2.2.1).2.length then x.2.2.2 = 11 ∧ Cx x.1 x.2.1 zeroU [] else x.2.2.2 = 0 ∧ Cx x.1 x.2.1 (tfold u x.2.2.1).1 (tfold u x.2.2.1).2) := by
  refine calls_enter Tryz.func73 rfl Tryz.ntmps73 rfl s ?_
  have hfu : fillL (fun i : Nat => ([(0, 16), (16, 1)] : List (Nat × Nat))[i]?) (up zeroU ++ [.slice none 0 0]) [(0, .agg (up u).toArray)] = some (cxc u (.slice none 0 0)) := by
    obtain ⟨a0, a1, a2, a3, a4, a5, a6, a7, a8, a9, a10, a11, a12, a13, a14, a15, rfl⟩ := list16 u hu
    rfl
  repeat' (first | (refine ycf ?_; apply ybk; (· first | (first | (apply yad (vs := up u); (· rfl); (· exact yaz 1 rfl); (· simp [up, hu])) | (apply yax (cs := cxc u (.slice none 0 0)); (· rfl); (· exact hfu)))); (· rfl); (· rfl)) | (refine ybg 0 rfl rfl rfl (cxc_sz hu) (cxc_fit hu) (cxc_one rfl) (ybh (cxc_all hu)) rfl rfl ?_ ?_ ?_; (· (exact to_)); (· (exact to_))) | refine t1_ ?_ | (refine ta_ ?_; intro _) | ((fail_if_success (refine ybi rfl ?_)); refine ybj rfl ?_ ?_ <;> (intro ht; rw [ht]; first | replace ht := of_decide_eq_true ht | replace ht := of_decide_eq_false ht | skip)) | (refine ych ?_; first | (refine ybw rfl ?_ ?_ <;> intro ht) | (refine ybx rfl ?_ ?_ <;> intro ht)))
  (refine yco (ycp Tryz.func91 rfl (by kernel_rfl) rfl) (values_sp mv Lm h hs) rfl rfl rfl ?_ ?_ ?_; (· (exact to_)); (· intro _ _ hle; (exact to_)); intro x px hle)
  repeat' (first | (refine ycf ?_; apply ybk; (· first | (first | (apply yad (vs := up u); (· rfl); (· exact yaz 1 rfl); (· simp [up, hu])) | (apply yax (cs := cxc u (.slice none 0 0)); (· rfl); (· exact hfu)))); (· rfl); (· rfl)) | (refine ybg 0 rfl rfl rfl (cxc_sz hu) (cxc_fit hu) (cxc_one rfl) (ybh (cxc_all hu)) rfl rfl ?_ ?_ ?_; (· (exact to_)); (· (exact to_))) | refine t1_ ?_ | (refine ta_ ?_; intro _) | ((fail_if_success (refine ybi rfl ?_)); refine ybj rfl ?_ ?_ <;> (intro ht; rw [ht]; first | replace ht := of_decide_eq_true ht | replace ht := of_decide_eq_false ht | skip)) | (refine ych ?_; first | (refine ybw rfl ?_ ?_ <;> intro ht) | (refine ybx rfl ?_ ?_ <;> intro ht)))
  generalize hv1 : addV h x _ = h1 at *
  have hb1 : h1 x = some (.cells #[mv] 42 (0, 0)) := by rw [← hv1]; exact addV_same
  have hle1 := hle
  (refine yco (ycp Tryz.func90 rfl (by kernel_rfl) rfl) (sortedFunc_sp x mv Lm h1 (hs.mono hle1) hb1 hlen) rfl rfl rfl ?_ ?_ ?_; (· (exact to_)); (· intro _ _ hle; (exact to_)); intro x px hle)
  refine rx_persist rfl fun h2 hle2 hsv => ?_
  obtain ⟨v, srt⟩ := x
  obtain ⟨hperm, hsorted⟩ := px
  replace hsv : Ds h2 v srt := hsv
  obtain ⟨_, ad, cap, rfl, hcap, _⟩ := id hsv
  have hsl : srt.length = Lm.length := hperm.length_eq
  have hsr : ∀ d ∈ srt, rightB d = true := fun d hd => hr d (hperm.mem_iff.1 hd)
  repeat' (first | (refine ycf ?_; apply ybk; (· first | (first | (apply yad (vs := up u); (· rfl); (· exact yaz 1 rfl); (· simp [up, hu])) | (apply yax (cs := cxc u (.slice none 0 0)); (· rfl); (· exact hfu)))); (· rfl); (· rfl)) | (refine ybg 0 rfl rfl rfl (cxc_sz hu) (cxc_fit hu) (cxc_one rfl) (ybh (cxc_all hu)) rfl rfl ?_ ?_ ?_; (· (exact to_)); (· (exact to_))) | refine t1_ ?_ | (refine ta_ ?_; intro _) | ((fail_if_success (refine ybi rfl ?_)); refine ybj rfl ?_ ?_ <;> (intro ht; rw [ht]; first | replace ht := of_decide_eq_true ht | replace ht := of_decide_eq_false ht | skip)) | (refine ych ?_; first | (refine ybw rfl ?_ ?_ <;> intro ht) | (refine ybx rfl ?_ ?_ <;> intro ht)))
  rename_i b2 b4 b6 hlex hl1 hl2
  refine cx_row 40 2 ?_
  refine cx_loop (X := Nat × Value) (fun y => [(4, .pointer (some ⟨b4, 0, none⟩)), (5, .int .i64 0), (6, .pointer (some ⟨b6, 0, none⟩)), (14, .slice ad srt.length cap), (15, .int .i64 srt.length), (16, .int .i64 y.1)]) (fun _ => h2)
    (fun y => [Res.row 40 2 y.2 (tfold u (srt.take y.1)).2.length ((tfold u (srt.take y.1)).2.flatMap dcs), Res.blk b6 (.cells (cxc (tfold u (srt.take y.1)).1 y.2).toArray 44 (0, 0)), Res.blk b4 (.cells (cxc zeroU (.slice none 0 0)).toArray 44 (0, 0))])
    (fun y => y.1 ≤ srt.length) (fun y => srt.length - y.1) (0, .slice none 0 0) (Nat.zero_le _) ts_ (fun _ s => st_left (B := [_]) s) ?_
  rintro ⟨k, v'⟩ hk
  replace hk : k ≤ srt.length := hk
  obtain ⟨t1, t2, t3, t4⟩ := tfold_ok hu hub hsr k hk
  by_cases hkl : k < srt.length
  · have eT := tfold_succ (u := u) hkl
    dsimp only
    generalize tfold u (srt.take k) = T at t1 t2 t3 t4 eT ⊢
    obtain ⟨u1, m1⟩ := T
    dsimp only at t1 t2 t3 t4 ⊢
    have hd := hsr srt[k] (List.getElem_mem _)
    have hdr := right_of hd
    obtain ⟨bs, o, rfl⟩ := hsv.ad (by omega) (by omega)
    have hel : ∀ L, Cells h2 L ⟨bs, o + k * 2, none⟩ (dcs srt[k]) := fun L => hsv.elem dcs_len k hkl
    have hgb := t2 (u1.getD (srt[k].1 - 1).toNat 0) (getD_mem (by omega))
    repeat' (first|(refine ycf ?_;apply ybk;(·first|(first|(apply yad;(·rfl);(·exact hel _);(·rfl))|(apply qv_nilCheck;rfl))|(apply yae;(·rfl);(·(first|exact ycl (yaz 2 rfl) (srt[k].1 - 1).toNat (by omega) (by omega)|exact yck (yaz 2 rfl) t1 rfl))));(·rfl);(·rfl))|(refine ybg 2 rfl rfl rfl rfl (fit_cxc (i := (srt[k].1 - 1).toNat) t1 (by omega) (by omega)) rfl (spl_cxc (i := (srt[k].1 - 1).toNat) (by omega) (by omega)) rfl rfl ?_ ?_ ?_;(·(exact to_));(·(exact to_)))|refine t1_ ?_|(refine ta_ ?_;intro _)|((fail_if_success (refine ybi rfl ?_));refine ybj rfl ?_ ?_<;>(intro ht;rw [ht];first|replace ht := of_decide_eq_true ht|replace ht := of_decide_eq_false ht|skip))|(refine ych ?_;first|(refine ybw rfl ?_ ?_<;>intro ht)|(refine ybx rfl ?_ ?_<;>intro ht)))
    · refine cx_region_draw' rfl (by kernel_rfl) ?_
      repeat' (refine ycf ?_;(first|(first|(apply ybm;(·(first|(first|(apply yad;(·rfl);(·exact hel _);(·rfl))|(apply qv_nilCheck;rfl))|(apply yae;(·rfl);(·(first|exact ycl (yaz 2 rfl) (srt[k].1 - 1).toNat (by omega) (by omega)|exact yck (yaz 2 rfl) t1 rfl)))|exact tq_));(·rfl);(·rfl);(·(exact th_)))|refine ybl rfl rfl ?_|((fail_if_success (refine ybi rfl ?_));refine ybj rfl ?_ ?_<;>(intro ht;rw [ht];first|replace ht := of_decide_eq_true ht|replace ht := of_decide_eq_false ht|skip))|(refine tb_ ?_ ?_ ?_;(·(exact to_));(·intro _;(exact to_));intro _)|(first|(refine ybg 2 rfl rfl rfl rfl (fit_cxc (i := (srt[k].1 - 1).toNat) t1 (by omega) (by omega)) rfl (spl_cxc (i := (srt[k].1 - 1).toNat) (by omega) (by omega)) rfl rfl ?_ ?_ ?_;(·(exact to_));(·(exact to_)))|(refine tqs_ ?_ ?_ ?_;(·(exact to_));(·(exact to_))))|(apply ybn;(·(first|(first|(apply yad;(·rfl);(·exact hel _);(·rfl))|(apply qv_nilCheck;rfl))|(apply yae;(·rfl);(·(first|exact ycl (yaz 2 rfl) (srt[k].1 - 1).toNat (by omega) (by omega)|exact yck (yaz 2 rfl) t1 rfl)))|exact tq_));(·rfl);(·rfl);(·rfl);(·(exact to_))))|refine ycg ?_))
      repeat' (first|(refine ycf ?_;apply ybk;(·first|(first|(apply yad;(·rfl);(·exact hel _);(·rfl))|(apply qv_nilCheck;rfl))|(apply yae;(·rfl);(·(first|exact ycl (yaz 2 rfl) (srt[k].1 - 1).toNat (by omega) (by omega)|exact yck (yaz 2 rfl) t1 rfl))));(·rfl);(·rfl))|(refine ybg 2 rfl rfl rfl rfl (fit_cxc (i := (srt[k].1 - 1).toNat) t1 (by omega) (by omega)) rfl (spl_cxc (i := (srt[k].1 - 1).toNat) (by omega) (by omega)) rfl rfl ?_ ?_ ?_;(·(exact to_));(·(exact to_)))|refine t1_ ?_|(refine ta_ ?_;intro _)|((fail_if_success (refine ybi rfl ?_));refine ybj rfl ?_ ?_<;>(intro ht;rw [ht];first|replace ht := of_decide_eq_true ht|replace ht := of_decide_eq_false ht|skip))|(refine ych ?_;first|(refine ybw rfl ?_ ?_<;>intro ht)|(refine ybx rfl ?_ ?_<;>intro ht)))
      · have e2 : tstep (u1, m1) srt[k] = (u1.set (srt[k].1 - 1).toNat (u1.getD (srt[k].1 - 1).toNat 0 + 1), m1) := by
          unfold tstep
          rw [if_pos ht, ht]
        refine nx_round (k + 1, v') (by show k + 1 ≤ _; omega) (by show srt.length - (k + 1) < srt.length - k; omega) ts_ (fun _ s => ?_)
        dsimp only
        rw [eT, e2]
        exact s.tl
      · have hne := ht
        refine cx_region_draw' rfl (by kernel_rfl) ?_
        repeat' (refine ycf ?_;(first|(first|(apply ybm;(·(first|(first|(apply yad;(·rfl);(·exact hel _);(·rfl))|(apply qv_nilCheck;rfl))|(apply yae;(·rfl);(·(first|exact ycl (yaz 2 rfl) (srt[k].1 - 1).toNat (by omega) (by omega)|exact yck (yaz 2 rfl) t1 rfl)))|exact tq_));(·rfl);(·rfl);(·(exact th_)))|refine ybl rfl rfl ?_|((fail_if_success (refine ybi rfl ?_));refine ybj rfl ?_ ?_<;>(intro ht;rw [ht];first|replace ht := of_decide_eq_true ht|replace ht := of_decide_eq_false ht|skip))|(refine tb_ ?_ ?_ ?_;(·(exact to_));(·intro _;(exact to_));intro _)|(first|(refine ybg 2 rfl rfl rfl rfl (fit_cxc (i := (srt[k].1 - 1).toNat) t1 (by omega) (by omega)) rfl (spl_cxc (i := (srt[k].1 - 1).toNat) (by omega) (by omega)) rfl rfl ?_ ?_ ?_;(·(exact to_));(·(exact to_)))|(refine tqs_ ?_ ?_ ?_;(·(exact to_));(·(exact to_))))|(apply ybn;(·(first|(first|(apply yad;(·rfl);(·exact hel _);(·rfl))|(apply qv_nilCheck;rfl))|(apply yae;(·rfl);(·(first|exact ycl (yaz 2 rfl) (srt[k].1 - 1).toNat (by omega) (by omega)|exact yck (yaz 2 rfl) t1 rfl)))|exact tq_));(·rfl);(·rfl);(·rfl);(·(exact to_))))|refine ycg ?_))
        · have hgt := ht
          (refine rx_call_lend (u := .bool (decide (srt[k] ∈ m1))) 1 (ycp Tryz.func92 rfl (by kernel_rfl) rfl) rfl (fun h' _ hsc => contains_sp v' m1 srt[k] h' hsc (by omega)) rfl rfl rfl ?_ ?_; (· (exact to_)))
          by_cases hin : srt[k] ∈ m1
          · have e2 : tstep (u1, m1) srt[k] = (u1, m1) := by
              unfold tstep
              rw [if_neg hne, if_neg (fun hx => hx.2 hin)]
            have ed : decide (srt[k] ∈ m1) = true := decide_eq_true hin
            rw [ed]
            repeat' (refine ycf ?_;(first|(first|(apply ybm;(·(first|(first|(apply yad;(·rfl);(·exact hel _);(·rfl))|(apply qv_nilCheck;rfl))|(apply yae;(·rfl);(·(first|exact ycl (yaz 2 rfl) (srt[k].1 - 1).toNat (by omega) (by omega)|exact yck (yaz 2 rfl) t1 rfl)))|exact tq_));(·rfl);(·rfl);(·(exact th_)))|refine ybl rfl rfl ?_|((fail_if_success (refine ybi rfl ?_));refine ybj rfl ?_ ?_<;>(intro ht;rw [ht];first|replace ht := of_decide_eq_true ht|replace ht := of_decide_eq_false ht|skip))|(refine tb_ ?_ ?_ ?_;(·(exact to_));(·intro _;(exact to_));intro _)|(first|(refine ybg 2 rfl rfl rfl rfl (fit_cxc (i := (srt[k].1 - 1).toNat) t1 (by omega) (by omega)) rfl (spl_cxc (i := (srt[k].1 - 1).toNat) (by omega) (by omega)) rfl rfl ?_ ?_ ?_;(·(exact to_));(·(exact to_)))|(refine tqs_ ?_ ?_ ?_;(·(exact to_));(·(exact to_))))|(apply ybn;(·(first|(first|(apply yad;(·rfl);(·exact hel _);(·rfl))|(apply qv_nilCheck;rfl))|(apply yae;(·rfl);(·(first|exact ycl (yaz 2 rfl) (srt[k].1 - 1).toNat (by omega) (by omega)|exact yck (yaz 2 rfl) t1 rfl)))|exact tq_));(·rfl);(·rfl);(·rfl);(·(exact to_))))|refine ycg ?_))
            repeat' (first|(refine ycf ?_;apply ybk;(·first|(first|(apply yad;(·rfl);(·exact hel _);(·rfl))|(apply qv_nilCheck;rfl))|(apply yae;(·rfl);(·(first|exact ycl (yaz 2 rfl) (srt[k].1 - 1).toNat (by omega) (by omega)|exact yck (yaz 2 rfl) t1 rfl))));(·rfl);(·rfl))|(refine ybg 2 rfl rfl rfl rfl (fit_cxc (i := (srt[k].1 - 1).toNat) t1 (by omega) (by omega)) rfl (spl_cxc (i := (srt[k].1 - 1).toNat) (by omega) (by omega)) rfl rfl ?_ ?_ ?_;(·(exact to_));(·(exact to_)))|refine t1_ ?_|(refine ta_ ?_;intro _)|((fail_if_success (refine ybi rfl ?_));refine ybj rfl ?_ ?_<;>(intro ht;rw [ht];first|replace ht := of_decide_eq_true ht|replace ht := of_decide_eq_false ht|skip))|(refine ych ?_;first|(refine ybw rfl ?_ ?_<;>intro ht)|(refine ybx rfl ?_ ?_<;>intro ht)))
            refine nx_round (k + 1, v') (by show k + 1 ≤ _; omega) (by show srt.length - (k + 1) < srt.length - k; omega) ts_ (fun _ s => ?_)
            dsimp only
            rw [eT, e2]
            exact s.tl
          · have e2 : tstep (u1, m1) srt[k] = (u1, m1 ++ [srt[k]]) := by
              unfold tstep
              rw [if_neg hne, if_pos ⟨hgt, hin⟩]
            have ed : decide (srt[k] ∈ m1) = false := decide_eq_false hin
            rw [ed]
            repeat' (refine ycf ?_;(first|(first|(apply ybm;(·(first|(first|(apply yad;(·rfl);(·exact hel _);(·rfl))|(apply qv_nilCheck;rfl))|(apply yae;(·rfl);(·(first|exact ycl (yaz 2 rfl) (srt[k].1 - 1).toNat (by omega) (by omega)|exact yck (yaz 2 rfl) t1 rfl)))|exact tq_));(·rfl);(·rfl);(·(exact th_)))|refine ybl rfl rfl ?_|((fail_if_success (refine ybi rfl ?_));refine ybj rfl ?_ ?_<;>(intro ht;rw [ht];first|replace ht := of_decide_eq_true ht|replace ht := of_decide_eq_false ht|skip))|(refine tb_ ?_ ?_ ?_;(·(exact to_));(·intro _;(exact to_));intro _)|(first|(refine ybg 2 rfl rfl rfl rfl (fit_cxc (i := (srt[k].1 - 1).toNat) t1 (by omega) (by omega)) rfl (spl_cxc (i := (srt[k].1 - 1).toNat) (by omega) (by omega)) rfl rfl ?_ ?_ ?_;(·(exact to_));(·(exact to_)))|(refine tqs_ ?_ ?_ ?_;(·(exact to_));(·(exact to_))))|(apply ybn;(·(first|(first|(apply yad;(·rfl);(·exact hel _);(·rfl))|(apply qv_nilCheck;rfl))|(apply yae;(·rfl);(·(first|exact ycl (yaz 2 rfl) (srt[k].1 - 1).toNat (by omega) (by omega)|exact yck (yaz 2 rfl) t1 rfl)))|exact tq_));(·rfl);(·rfl);(·rfl);(·(exact to_))))|refine ycg ?_))
            repeat' (first|(refine ycf ?_;apply ybk;(·first|(first|(apply yad;(·rfl);(·exact hel _);(·rfl))|(apply qv_nilCheck;rfl))|(apply yae;(·rfl);(·(first|exact ycl (yaz 2 rfl) (srt[k].1 - 1).toNat (by omega) (by omega)|exact yck (yaz 2 rfl) t1 rfl))));(·rfl);(·rfl))|(refine ybg 2 rfl rfl rfl rfl (fit_cxc (i := (srt[k].1 - 1).toNat) t1 (by omega) (by omega)) rfl (spl_cxc (i := (srt[k].1 - 1).toNat) (by omega) (by omega)) rfl rfl ?_ ?_ ?_;(·(exact to_));(·(exact to_)))|refine t1_ ?_|(refine ta_ ?_;intro _)|((fail_if_success (refine ybi rfl ?_));refine ybj rfl ?_ ?_<;>(intro ht;rw [ht];first|replace ht := of_decide_eq_true ht|replace ht := of_decide_eq_false ht|skip))|(refine ych ?_;first|(refine ybw rfl ?_ ?_<;>intro ht)|(refine ybx rfl ?_ ?_<;>intro ht)))
            refine rx_append (sz := 2) 2 rfl rfl rfl (yaz 0 rfl) rfl (one_dcs [srt[k]]) rfl (by omega) (by unfold maxLen; omega) (by omega) rfl rfl rfl ybf (fun _ => ybf) ?_
            intro v2 _
            refine rx_rowform 2 rfl (fun _ h0 _ => (by omega)) ?_
            rintro g2 cap2 rfl
            repeat' (first|(refine ycf ?_;apply ybk;(·first|(first|(apply yad;(·rfl);(·exact hel _);(·rfl))|(apply qv_nilCheck;rfl))|(apply yae;(·rfl);(·(first|exact ycl (yaz 2 rfl) (srt[k].1 - 1).toNat (by omega) (by omega)|exact yck (yaz 2 rfl) t1 rfl))));(·rfl);(·rfl))|(refine ybg 3 rfl rfl rfl rfl (fit_more t1) rfl (spl_more t1) rfl rfl ?_ ?_ ?_;(·(exact to_));(·(exact to_)))|refine t1_ ?_|(refine ta_ ?_;intro _)|((fail_if_success (refine ybi rfl ?_));refine ybj rfl ?_ ?_<;>(intro ht;rw [ht];first|replace ht := of_decide_eq_true ht|replace ht := of_decide_eq_false ht|skip))|(refine ych ?_;first|(refine ybw rfl ?_ ?_<;>intro ht)|(refine ybx rfl ?_ ?_<;>intro ht)))
            refine nx_round (k + 1, .slice (some ⟨g2, 0, none⟩) (m1.length + 1) cap2) (by show k + 1 ≤ _; omega) (by show srt.length - (k + 1) < srt.length - k; omega) ts_ (fun _ s => ?_)
            dsimp only
            rw [eT, e2]
            dsimp only
            rw [List.length_append, List.flatMap_append]
            exact s.tl.tl
        · have e2 : tstep (u1, m1) srt[k] = (u1, m1) := by
            unfold tstep
            rw [if_neg hne, if_neg (fun hx => ht hx.1)]
          repeat' (first|(refine ycf ?_;apply ybk;(·first|(first|(apply yad;(·rfl);(·exact hel _);(·rfl))|(apply qv_nilCheck;rfl))|(apply yae;(·rfl);(·(first|exact ycl (yaz 2 rfl) (srt[k].1 - 1).toNat (by omega) (by omega)|exact yck (yaz 2 rfl) t1 rfl))));(·rfl);(·rfl))|(refine ybg 3 rfl rfl rfl rfl (fit_more t1) rfl (spl_more t1) rfl rfl ?_ ?_ ?_;(·(exact to_));(·(exact to_)))|refine t1_ ?_|(refine ta_ ?_;intro _)|((fail_if_success (refine ybi rfl ?_));refine ybj rfl ?_ ?_<;>(intro ht;rw [ht];first|replace ht := of_decide_eq_true ht|replace ht := of_decide_eq_false ht|skip))|(refine ych ?_;first|(refine ybw rfl ?_ ?_<;>intro ht)|(refine ybx rfl ?_ ?_<;>intro ht)))
          refine nx_round (k + 1, v') (by show k + 1 ≤ _; omega) (by show srt.length - (k + 1) < srt.length - k; omega) ts_ (fun _ s => ?_)
          dsimp only
          rw [eT, e2]
          exact s.tl
    all_goals omega
  · have ek : k = srt.length := by omega
    subst ek
    dsimp only
    rw [List.take_length] at t1 t2 t3 t4 ⊢
    generalize hT : tfold u srt = T at t1 t2 t3 t4 ⊢
    obtain ⟨u1, m1⟩ := T
    dsimp only at t1 t2 t3 t4 ⊢
    refine cx_persist rfl fun h3 hle3 hsm => ?_
    replace hsm : Ds h3 v' m1 := hsm
    obtain ⟨_, ad2, cap2, rfl, _, _⟩ := id hsm
    repeat' (first | (refine ycf ?_; apply ybk; (· first | (apply yad; (· rfl); (· exact yaz 0 rfl); (· exact ycj t1)) | (apply yae; (· rfl); (· exact yck (yaz 0 rfl) t1 rfl))); (· rfl); (· rfl)) | (refine ybg 1 rfl rfl rfl (cxc_sz t1) (cxc_fit t1) (cxc_one rfl) (ybh (cxc_all t1)) rfl rfl ?_ ?_ ?_; (· (exact to_)); (· (exact to_))) | refine t1_ ?_ | (refine ta_ ?_; intro _) | ((fail_if_success (refine ybi rfl ?_)); refine ybj rfl ?_ ?_ <;> (intro ht; rw [ht]; first | replace ht := of_decide_eq_true ht | replace ht := of_decide_eq_false ht | skip)) | (refine ych ?_; first | (refine ybw rfl ?_ ?_ <;> intro ht) | (refine ybx rfl ?_ ?_ <;> intro ht)))
    · omega
    · refine nx_ret2 rfl (rv_cells rfl (yaz 1 rfl) rfl) (rv_tmp rfl) (fun w' s' => ⟨(h3, cxv zeroU (.slice none 0 0), srt, 11), rfl, s'.nil, hperm, hsorted, ?_⟩)
      rw [hT, if_pos (by show 32 < m1.length; omega)]
      exact ⟨rfl, rfl, _, rfl, Sc.nil h3 2 none 0⟩
    · refine nx_ret2 rfl (rv_cells rfl (yaz 1 rfl) (cxc_all t1)) (rv_tmp rfl) (fun w' s' => ⟨(h3, cxv u1 (.slice ad2 m1.length cap2), srt, 0), rfl, s'.nil, hperm, hsorted, ?_⟩)
      rw [hT, if_neg (by show ¬ 32 < m1.length; omega)]
      exact ⟨rfl, t1, _, rfl, hsm⟩
end Go.Proofs.YtkkjppeaaicgaaaGreat
end

section
namespace Go.Proofs.YtkkjppeaaicgaaaGreat
open Go Go.Ck
set_option maxRecDepth 100000
set_option maxHeartbeats 1000000
set_option linter.unusedVariables false

theorem Add_sp (cv : Value) (u : List Int) (l : List Dt) (d : Dt) (h : View) (hc : Cx h cv u l) (hl : l.length ≤ 100000) (w : World) (s : St ⟨w, h, []⟩ h [] w) :
    Calls Tryz.prog 53 [cv, dv d].toArray w fun e w' => ∃ x : View × Value × List Dt × Int, e = .returned (.tuple #[x.2.1, .int .i64 x.2.2.2]) ∧ St ⟨w, h, []⟩ x.1 [] w' ∧
      (if checkC u l ≠ 0 ∨ rightB d = false then x.2.2.2 = 1 ∧ Cx x.1 x.2.1 zeroU []
      else x.2.2.1.Perm (l ++ [d]) ∧ SortedD x.2.2.1 ∧
        (if 32 < (tfold u x.2.2.1).2.length then x.2.2.2 = 11 ∧ Cx x.1 x.2.1 zeroU [] else x.2.2.2 = 0 ∧ Cx x.1 x.2.1 (tfold u x.2.2.1).1 (tfold u x.2.2.1).2)) := by
  have hc' := hc
  obtain ⟨hu, mv, rfl, hs⟩ := hc
  have hchk := check_sp _ u l h hc' (by omega)
  have hright := right_sp d h
  refine calls_enter Tryz.func53 rfl Tryz.ntmps53 rfl s ?_
  repeat' (first | (refine ycf ?_; apply ybk; (· first | (first | (apply yad; (· rfl); (· exact yaz 2 rfl); (· exact ycj hu)) | (apply yad (vs := up u); (· rfl); (· exact ycm (yaz 2 rfl)); (· simp [up, hu])))); (· rfl); (· rfl)) | refine t1_ ?_ | (refine ta_ ?_; intro _) | ((fail_if_success (refine ybi rfl ?_)); refine ybj rfl ?_ ?_ <;> (intro ht; rw [ht]; first | replace ht := of_decide_eq_true ht | replace ht := of_decide_eq_false ht | skip)) | (refine ych ?_; first | (refine ybw rfl ?_ ?_ <;> intro ht) | (refine ybx rfl ?_ ?_ <;> intro ht)))
  (refine ycn (ycp Tryz.func33 rfl (by kernel_rfl) rfl) (hchk) rfl rfl rfl ?_ ?_; (· (exact to_)))
  repeat' (first | (refine ycf ?_; apply ybk; (· first | (first | (apply yad; (· rfl); (· exact yaz 2 rfl); (· exact ycj hu)) | (apply yad (vs := up u); (· rfl); (· exact ycm (yaz 2 rfl)); (· simp [up, hu])))); (· rfl); (· rfl)) | refine t1_ ?_ | (refine ta_ ?_; intro _) | ((fail_if_success (refine ybi rfl ?_)); refine ybj rfl ?_ ?_ <;> (intro ht; rw [ht]; first | replace ht := of_decide_eq_true ht | replace ht := of_decide_eq_false ht | skip)) | (refine ych ?_; first | (refine ybw rfl ?_ ?_ <;> intro ht) | (refine ybx rfl ?_ ?_ <;> intro ht)))
  · have hk := ht
    refine nx_ret2 rfl (rv_cells rfl (yaz 0 rfl) rfl) (rv_tmp rfl) (fun w' s' => ⟨(h, cxv zeroU (.slice none 0 0), [], 1), rfl, s'.nil, ?_⟩)
    rw [if_pos (.inl hk)]
    exact ⟨rfl, rfl, _, rfl, Sc.nil h 2 none 0⟩
  have hk : checkC u l = 0 := by omega
  cases hR : rightB d with
  | false =>
    rw [hR] at hright
    (refine ycn (ycp Tryz.func72 rfl (by kernel_rfl) rfl) (hright) rfl rfl rfl ?_ ?_; (· (exact to_)))
    repeat' (first | (refine ycf ?_; apply ybk; (· first | (first | (apply yad; (· rfl); (· exact yaz 2 rfl); (· exact ycj hu)) | (apply yad (vs := up u); (· rfl); (· exact ycm (yaz 2 rfl)); (· simp [up, hu])))); (· rfl); (· rfl)) | refine t1_ ?_ | (refine ta_ ?_; intro _) | ((fail_if_success (refine ybi rfl ?_)); refine ybj rfl ?_ ?_ <;> (intro ht; rw [ht]; first | replace ht := of_decide_eq_true ht | replace ht := of_decide_eq_false ht | skip)) | (refine ych ?_; first | (refine ybw rfl ?_ ?_ <;> intro ht) | (refine ybx rfl ?_ ?_ <;> intro ht)))
    refine nx_ret2 rfl (rv_cells rfl (yaz 0 rfl) rfl) (rv_tmp rfl) (fun w' s' => ⟨(h, cxv zeroU (.slice none 0 0), [], 1), rfl, s'.nil, ?_⟩)
    rw [if_pos (.inr rfl)]
    exact ⟨rfl, rfl, _, rfl, Sc.nil h 2 none 0⟩
  | true =>
    rw [hR] at hright
    obtain ⟨hub, _, hlr⟩ := check_right hk
    have hrr : ∀ x ∈ l ++ [d], rightB x = true := fun x hx => by
      rcases List.mem_append.1 hx with hx | hx
      · exact hlr x hx
      · rw [List.mem_singleton.1 hx]; exact hR
    (refine ycn (ycp Tryz.func72 rfl (by kernel_rfl) rfl) (hright) rfl rfl rfl ?_ ?_; (· (exact to_)))
    repeat' (first | (refine ycf ?_; apply ybk; (· first | (first | (apply yad; (· rfl); (· exact yaz 2 rfl); (· exact ycj hu)) | (apply yad (vs := up u); (· rfl); (· exact ycm (yaz 2 rfl)); (· simp [up, hu]))) | (apply yae; (· rfl); (· exact yck (yaz 2 rfl) hu rfl))); (· rfl); (· rfl)) | refine t1_ ?_ | (refine ta_ ?_; intro _) | ((fail_if_success (refine ybi rfl ?_)); refine ybj rfl ?_ ?_ <;> (intro ht; rw [ht]; first | replace ht := of_decide_eq_true ht | replace ht := of_decide_eq_false ht | skip)) | (refine ych ?_; first | (refine ybw rfl ?_ ?_ <;> intro ht) | (refine ybx rfl ?_ ?_ <;> intro ht)))
    refine cx_region_fork [0, 1, 2, 3, 5] 4 6 [7, 8, 9, 10, 11, 12] rfl (by kernel_rfl) ?_
    repeat' (refine ycf ?_;(first|(first|(apply ybm;(·(first|(first|(apply yad;(·rfl);(·exact yaz 2 rfl);(·exact ycj hu))|(apply yad (vs := up u);(·rfl);(·exact ycm (yaz 2 rfl));(·simp [up, hu])))|(apply yae;(·rfl);(·exact yck (yaz 2 rfl) hu rfl))|exact tq_));(·rfl);(·rfl);(·(exact th_)))|refine ybl rfl rfl ?_|((fail_if_success (refine ybi rfl ?_));refine ybj rfl ?_ ?_<;>(intro ht;rw [ht];first|replace ht := of_decide_eq_true ht|replace ht := of_decide_eq_false ht|skip))|(refine tb_ ?_ ?_ ?_;(·(exact to_));(·intro _;(exact to_));intro _)|(first|(refine tqs_ ?_ ?_ ?_;(·(exact to_));(·(exact to_))))|(apply ybn;(·(first|(first|(apply yad;(·rfl);(·exact yaz 2 rfl);(·exact ycj hu))|(apply yad (vs := up u);(·rfl);(·exact ycm (yaz 2 rfl));(·simp [up, hu])))|(apply yae;(·rfl);(·exact yck (yaz 2 rfl) hu rfl))|exact tq_));(·rfl);(·rfl);(·rfl);(·(exact to_))))|refine ycg ?_))
    refine nx_fork ?_ ?_
    · (refine yco (ycp Tryz.func74 rfl (by kernel_rfl) rfl) (clone_sp mv l h hs (by omega)) rfl rfl rfl ?_ ?_ ?_; (· (exact to_)); (· intro _ _ hle; (exact to_)); intro x px hle)
      repeat' (refine ycf ?_;(first|(first|(apply ybm;(·(first|(first|(apply yad;(·rfl);(·exact yaz 2 rfl);(·exact ycj hu))|(apply yad (vs := up u);(·rfl);(·exact ycm (yaz 2 rfl));(·simp [up, hu])))|(apply yae;(·rfl);(·exact yck (yaz 2 rfl) hu rfl))|exact tq_));(·rfl);(·rfl);(·(exact th_)))|refine ybl rfl rfl ?_|((fail_if_success (refine ybi rfl ?_));refine ybj rfl ?_ ?_<;>(intro ht;rw [ht];first|replace ht := of_decide_eq_true ht|replace ht := of_decide_eq_false ht|skip))|(refine tb_ ?_ ?_ ?_;(·(exact to_));(·intro _;(exact to_));intro _)|(first|(refine tqs_ ?_ ?_ ?_;(·(exact to_));(·(exact to_))))|(apply ybn;(·(first|(first|(apply yad;(·rfl);(·exact yaz 2 rfl);(·exact ycj hu))|(apply yad (vs := up u);(·rfl);(·exact ycm (yaz 2 rfl));(·simp [up, hu])))|(apply yae;(·rfl);(·exact yck (yaz 2 rfl) hu rfl))|exact tq_));(·rfl);(·rfl);(·rfl);(·(exact to_))))|refine ycg ?_))
      refine rx_append (sz := 2) 1 rfl rfl rfl (yaz 0 rfl) rfl (one_dcs [d]) rfl (by omega) (by unfold maxLen; omega) (by omega) rfl rfl rfl ?_ ?_ ?_
      · (exact to_)
      · intro v'; (exact to_)
      intro v2 _
      refine rx_perm (perm_at (k := 1) rfl) (rx_persist rfl fun h3 hle3 hs3 => ?_)
      have hs3' : Ds h3 v2 (l ++ [d]) := by
        unfold Ds
        rw [List.length_append, List.flatMap_append]
        exact hs3
      (refine yco (ycp Tryz.func73 rfl (by kernel_rfl) rfl) (tidy_sp u v2 (l ++ [d]) h3 hu hub hs3' hrr (by simp; omega)) rfl rfl rfl ?_ ?_ ?_; (· (exact to_)); (· intro _ _ hle; (exact to_)); intro x px hle)
      obtain ⟨h4, v4, srt, er⟩ := x
      replace hle : Le h3 h4 := hle
      obtain ⟨p1, p2, p3⟩ := px
      have hcx : ∃ u' m', Cx h4 v4 u' m' := by
        split at p3
        · exact ⟨_, _, p3.2⟩
        · exact ⟨_, _, p3.2⟩
      obtain ⟨u', m', hu', mv', rfl, hs'⟩ := hcx
      obtain ⟨_, ad', cap', rfl, _, _⟩ := id hs'
      repeat' (refine ycf ?_;(first|(first|(apply ybm;(·(first|(first|(apply yad;(·rfl);(·exact yaz 2 rfl);(·exact ycj hu))|(apply yad (vs := up u);(·rfl);(·exact ycm (yaz 2 rfl));(·simp [up, hu])))|(apply yae;(·rfl);(·exact yck (yaz 2 rfl) hu rfl))|exact tq_));(·rfl);(·rfl);(·(first|exact fun _ s => s|exact fun _ s => s.tl|exact fun _ s => s.tl.tl|exact fun _ s => Hd.sub s (Le.trans hle3 hle) (fun r hr => List.mem_cons_of_mem _ hr))))|refine ybl rfl rfl ?_|((fail_if_success (refine ybi rfl ?_));refine ybj rfl ?_ ?_<;>(intro ht;rw [ht];first|replace ht := of_decide_eq_true ht|replace ht := of_decide_eq_false ht|skip))|(refine tb_ ?_ ?_ ?_;(·(first|exact ybf|(refine .inl ?_;(first|exact fun _ s => s|exact fun _ s => s.tl|exact fun _ s => s.tl.tl|exact fun _ s => Hd.sub s (Le.trans hle3 hle) (fun r hr => List.mem_cons_of_mem _ hr)))|exact to_));(·intro _;(first|exact ybf|(refine .inl ?_;(first|exact fun _ s => s|exact fun _ s => s.tl|exact fun _ s => s.tl.tl|exact fun _ s => Hd.sub s (Le.trans hle3 hle) (fun r hr => List.mem_cons_of_mem _ hr)))|exact to_));intro _)|(first|(refine ybg 1 rfl rfl rfl (cxc_sz hu') (cxc_fit hu') (cxc_one rfl) (ybh (cxc_all hu')) rfl rfl ?_ ?_ ?_;(·(first|exact ybf|(refine .inl ?_;(first|exact fun _ s => s|exact fun _ s => s.tl|exact fun _ s => s.tl.tl|exact fun _ s => Hd.sub s (Le.trans hle3 hle) (fun r hr => List.mem_cons_of_mem _ hr)))|exact to_));(·(first|exact ybf|(refine .inl ?_;(first|exact fun _ s => s|exact fun _ s => s.tl|exact fun _ s => s.tl.tl|exact fun _ s => Hd.sub s (Le.trans hle3 hle) (fun r hr => List.mem_cons_of_mem _ hr)))|exact to_)))|(refine tqs_ ?_ ?_ ?_;(·(first|exact ybf|(refine .inl ?_;(first|exact fun _ s => s|exact fun _ s => s.tl|exact fun _ s => s.tl.tl|exact fun _ s => Hd.sub s (Le.trans hle3 hle) (fun r hr => List.mem_cons_of_mem _ hr)))|exact to_));(·(first|exact ybf|(refine .inl ?_;(first|exact fun _ s => s|exact fun _ s => s.tl|exact fun _ s => s.tl.tl|exact fun _ s => Hd.sub s (Le.trans hle3 hle) (fun r hr => List.mem_cons_of_mem _ hr)))|exact to_))))|(apply ybn;(·(first|(first|(apply yad;(·rfl);(·exact yaz 2 rfl);(·exact ycj hu))|(apply yad (vs := up u);(·rfl);(·exact ycm (yaz 2 rfl));(·simp [up, hu])))|(apply yae;(·rfl);(·exact yck (yaz 2 rfl) hu rfl))|exact tq_));(·rfl);(·rfl);(·rfl);(·(first|exact ybf|(refine .inl ?_;(first|exact fun _ s => s|exact fun _ s => s.tl|exact fun _ s => s.tl.tl|exact fun _ s => Hd.sub s (Le.trans hle3 hle) (fun r hr => List.mem_cons_of_mem _ hr)))|exact to_))))|refine ycg ?_))
      repeat' (first|(refine ycf ?_;apply ybk;(·first|(first|(apply yad;(·rfl);(·exact yaz 2 rfl);(·exact ycj hu))|(apply yad (vs := up u);(·rfl);(·exact ycm (yaz 2 rfl));(·simp [up, hu])))|(apply yae;(·rfl);(·exact yck (yaz 2 rfl) hu rfl)));(·rfl);(·rfl))|(refine ybg 1 rfl rfl rfl (cxc_sz hu') (cxc_fit hu') (cxc_one rfl) (ybh (cxc_all hu')) rfl rfl ?_ ?_ ?_;(·(first|exact ybf|(refine .inl ?_;(first|exact fun _ s => s|exact fun _ s => s.tl|exact fun _ s => s.tl.tl|exact fun _ s => Hd.sub s (Le.trans hle3 hle) (fun r hr => List.mem_cons_of_mem _ hr)))|exact to_));(·(first|exact ybf|(refine .inl ?_;(first|exact fun _ s => s|exact fun _ s => s.tl|exact fun _ s => s.tl.tl|exact fun _ s => Hd.sub s (Le.trans hle3 hle) (fun r hr => List.mem_cons_of_mem _ hr)))|exact to_)))|refine t1_ ?_|(refine ta_ ?_;intro _)|((fail_if_success (refine ybi rfl ?_));refine ybj rfl ?_ ?_<;>(intro ht;rw [ht];first|replace ht := of_decide_eq_true ht|replace ht := of_decide_eq_false ht|skip))|(refine ych ?_;first|(refine ybw rfl ?_ ?_<;>intro ht)|(refine ybx rfl ?_ ?_<;>intro ht)))
      refine nx_ret2 rfl (rv_cells rfl (yaz 1 rfl) (cxc_all hu')) (rv_tmp rfl) (fun w' s' => ⟨(h4, cxv u' (.slice ad' m'.length cap'), srt, er), rfl, s'.nil, ?_⟩)
      rw [if_neg (by simp [hk])]
      exact ⟨p1, p2, p3⟩
    · repeat' (refine ycf ?_;(first|(first|(apply ybm;(·(first|(first|(apply yad;(·rfl);(·exact yaz 2 rfl);(·exact ycj hu))|(apply yad (vs := up u);(·rfl);(·exact ycm (yaz 2 rfl));(·simp [up, hu])))|(apply yae;(·rfl);(·exact yck (yaz 2 rfl) hu rfl))|exact tq_));(·rfl);(·rfl);(·(first|exact fun _ s => s|exact fun _ s => s.tl|exact fun _ s => s.tl.tl|exact fun _ s => Hd.sub s (Le.trans hle3 hle) (fun r hr => List.mem_cons_of_mem _ hr))))|refine ybl rfl rfl ?_|((fail_if_success (refine ybi rfl ?_));refine ybj rfl ?_ ?_<;>(intro ht;rw [ht];first|replace ht := of_decide_eq_true ht|replace ht := of_decide_eq_false ht|skip))|(refine tb_ ?_ ?_ ?_;(·(first|exact ybf|(refine .inl ?_;(first|exact fun _ s => s|exact fun _ s => s.tl|exact fun _ s => s.tl.tl|exact fun _ s => Hd.sub s (Le.trans hle3 hle) (fun r hr => List.mem_cons_of_mem _ hr)))|exact to_));(·intro _;(first|exact ybf|(refine .inl ?_;(first|exact fun _ s => s|exact fun _ s => s.tl|exact fun _ s => s.tl.tl|exact fun _ s => Hd.sub s (Le.trans hle3 hle) (fun r hr => List.mem_cons_of_mem _ hr)))|exact to_));intro _)|(first|(refine ybg 1 rfl rfl rfl (cxc_sz hu') (cxc_fit hu') (cxc_one rfl) (ybh (cxc_all hu')) rfl rfl ?_ ?_ ?_;(·(first|exact ybf|(refine .inl ?_;(first|exact fun _ s => s|exact fun _ s => s.tl|exact fun _ s => s.tl.tl|exact fun _ s => Hd.sub s (Le.trans hle3 hle) (fun r hr => List.mem_cons_of_mem _ hr)))|exact to_));(·(first|exact ybf|(refine .inl ?_;(first|exact fun _ s => s|exact fun _ s => s.tl|exact fun _ s => s.tl.tl|exact fun _ s => Hd.sub s (Le.trans hle3 hle) (fun r hr => List.mem_cons_of_mem _ hr)))|exact to_)))|(refine tqs_ ?_ ?_ ?_;(·(first|exact ybf|(refine .inl ?_;(first|exact fun _ s => s|exact fun _ s => s.tl|exact fun _ s => s.tl.tl|exact fun _ s => Hd.sub s (Le.trans hle3 hle) (fun r hr => List.mem_cons_of_mem _ hr)))|exact to_));(·(first|exact ybf|(refine .inl ?_;(first|exact fun _ s => s|exact fun _ s => s.tl|exact fun _ s => s.tl.tl|exact fun _ s => Hd.sub s (Le.trans hle3 hle) (fun r hr => List.mem_cons_of_mem _ hr)))|exact to_))))|(apply ybn;(·(first|(first|(apply yad;(·rfl);(·exact yaz 2 rfl);(·exact ycj hu))|(apply yad (vs := up u);(·rfl);(·exact ycm (yaz 2 rfl));(·simp [up, hu])))|(apply yae;(·rfl);(·exact yck (yaz 2 rfl) hu rfl))|exact tq_));(·rfl);(·rfl);(·rfl);(·(first|exact ybf|(refine .inl ?_;(first|exact fun _ s => s|exact fun _ s => s.tl|exact fun _ s => s.tl.tl|exact fun _ s => Hd.sub s (Le.trans hle3 hle) (fun r hr => List.mem_cons_of_mem _ hr)))|exact to_))))|refine ycg ?_))
      (refine yco (ycp Tryz.func74 rfl (by kernel_rfl) rfl) (clone_sp mv l h hs (by omega)) rfl rfl rfl ?_ ?_ ?_; (· (first | exact ybf | (refine .inl ?_; (first | exact fun _ s => s | exact fun _ s => s.tl | exact fun _ s => s.tl.tl | exact fun _ s => Hd.sub s (Le.trans hle3 hle) (fun r hr => List.mem_cons_of_mem _ hr))) | exact to_)); (· intro _ _ hle; (first | exact ybf | (refine .inl ?_; (first | exact fun _ s => s | exact fun _ s => s.tl | exact fun _ s => s.tl.tl | exact fun _ s => Hd.sub s (Le.trans hle3 hle) (fun r hr => List.mem_cons_of_mem _ hr))) | exact to_)); intro x px hle)
      repeat' (refine ycf ?_;(first|(first|(apply ybm;(·(first|(first|(apply yad;(·rfl);(·exact yaz 2 rfl);(·exact ycj hu))|(apply yad (vs := up u);(·rfl);(·exact ycm (yaz 2 rfl));(·simp [up, hu])))|(apply yae;(·rfl);(·exact yck (yaz 2 rfl) hu rfl))|exact tq_));(·rfl);(·rfl);(·(first|exact fun _ s => s|exact fun _ s => s.tl|exact fun _ s => s.tl.tl|exact fun _ s => Hd.sub s (Le.trans hle3 hle) (fun r hr => List.mem_cons_of_mem _ hr))))|refine ybl rfl rfl ?_|((fail_if_success (refine ybi rfl ?_));refine ybj rfl ?_ ?_<;>(intro ht;rw [ht];first|replace ht := of_decide_eq_true ht|replace ht := of_decide_eq_false ht|skip))|(refine tb_ ?_ ?_ ?_;(·(first|exact ybf|(refine .inl ?_;(first|exact fun _ s => s|exact fun _ s => s.tl|exact fun _ s => s.tl.tl|exact fun _ s => Hd.sub s (Le.trans hle3 hle) (fun r hr => List.mem_cons_of_mem _ hr)))|exact to_));(·intro _;(first|exact ybf|(refine .inl ?_;(first|exact fun _ s => s|exact fun _ s => s.tl|exact fun _ s => s.tl.tl|exact fun _ s => Hd.sub s (Le.trans hle3 hle) (fun r hr => List.mem_cons_of_mem _ hr)))|exact to_));intro _)|(first|(refine ybg 1 rfl rfl rfl (cxc_sz hu') (cxc_fit hu') (cxc_one rfl) (ybh (cxc_all hu')) rfl rfl ?_ ?_ ?_;(·(first|exact ybf|(refine .inl ?_;(first|exact fun _ s => s|exact fun _ s => s.tl|exact fun _ s => s.tl.tl|exact fun _ s => Hd.sub s (Le.trans hle3 hle) (fun r hr => List.mem_cons_of_mem _ hr)))|exact to_));(·(first|exact ybf|(refine .inl ?_;(first|exact fun _ s => s|exact fun _ s => s.tl|exact fun _ s => s.tl.tl|exact fun _ s => Hd.sub s (Le.trans hle3 hle) (fun r hr => List.mem_cons_of_mem _ hr)))|exact to_)))|(refine tqs_ ?_ ?_ ?_;(·(first|exact ybf|(refine .inl ?_;(first|exact fun _ s => s|exact fun _ s => s.tl|exact fun _ s => s.tl.tl|exact fun _ s => Hd.sub s (Le.trans hle3 hle) (fun r hr => List.mem_cons_of_mem _ hr)))|exact to_));(·(first|exact ybf|(refine .inl ?_;(first|exact fun _ s => s|exact fun _ s => s.tl|exact fun _ s => s.tl.tl|exact fun _ s => Hd.sub s (Le.trans hle3 hle) (fun r hr => List.mem_cons_of_mem _ hr)))|exact to_))))|(apply ybn;(·(first|(first|(apply yad;(·rfl);(·exact yaz 2 rfl);(·exact ycj hu))|(apply yad (vs := up u);(·rfl);(·exact ycm (yaz 2 rfl));(·simp [up, hu])))|(apply yae;(·rfl);(·exact yck (yaz 2 rfl) hu rfl))|exact tq_));(·rfl);(·rfl);(·rfl);(·(first|exact ybf|(refine .inl ?_;(first|exact fun _ s => s|exact fun _ s => s.tl|exact fun _ s => s.tl.tl|exact fun _ s => Hd.sub s (Le.trans hle3 hle) (fun r hr => List.mem_cons_of_mem _ hr)))|exact to_))))|refine ycg ?_))
      refine rx_append (sz := 2) 0 rfl rfl rfl (yaz 1 rfl) rfl (one_dcs [d]) rfl (by omega) (by unfold maxLen; omega) (by omega) rfl rfl rfl ?_ ?_ ?_
      · (first | exact ybf | (refine .inl ?_; (first | exact fun _ s => s | exact fun _ s => s.tl | exact fun _ s => s.tl.tl | exact fun _ s => Hd.sub s (Le.trans hle3 hle) (fun r hr => List.mem_cons_of_mem _ hr))) | exact to_)
      · intro v'; (first | exact ybf | (refine .inl ?_; (first | exact fun _ s => s | exact fun _ s => s.tl | exact fun _ s => s.tl.tl | exact fun _ s => Hd.sub s (Le.trans hle3 hle) (fun r hr => List.mem_cons_of_mem _ hr))) | exact to_)
      intro v2 _
      refine rx_persist rfl fun h3 hle3 hs3 => ?_
      have hs3' : Ds h3 v2 (l ++ [d]) := by
        unfold Ds
        rw [List.length_append, List.flatMap_append]
        exact hs3
      (refine yco (ycp Tryz.func73 rfl (by kernel_rfl) rfl) (tidy_sp u v2 (l ++ [d]) h3 hu hub hs3' hrr (by simp; omega)) rfl rfl rfl ?_ ?_ ?_; (· (first | exact ybf | (refine .inl ?_; (first | exact fun _ s => s | exact fun _ s => s.tl | exact fun _ s => s.tl.tl | exact fun _ s => Hd.sub s (Le.trans hle3 hle) (fun r hr => List.mem_cons_of_mem _ hr))) | exact to_)); (· intro _ _ hle; (first | exact ybf | (refine .inl ?_; (first | exact fun _ s => s | exact fun _ s => s.tl | exact fun _ s => s.tl.tl | exact fun _ s => Hd.sub s (Le.trans hle3 hle) (fun r hr => List.mem_cons_of_mem _ hr))) | exact to_)); intro x px hle)
      obtain ⟨h4, v4, srt, er⟩ := x
      replace hle : Le h3 h4 := hle
      obtain ⟨p1, p2, p3⟩ := px
      have hcx : ∃ u' m', Cx h4 v4 u' m' := by
        split at p3
        · exact ⟨_, _, p3.2⟩
        · exact ⟨_, _, p3.2⟩
      obtain ⟨u', m', hu', mv', rfl, hs'⟩ := hcx
      obtain ⟨_, ad', cap', rfl, _, _⟩ := id hs'
      repeat' (refine ycf ?_;(first|(first|(apply ybm;(·(first|(first|(apply yad;(·rfl);(·exact yaz 2 rfl);(·exact ycj hu))|(apply yad (vs := up u);(·rfl);(·exact ycm (yaz 2 rfl));(·simp [up, hu])))|(apply yae;(·rfl);(·exact yck (yaz 2 rfl) hu rfl))|exact tq_));(·rfl);(·rfl);(·(first|exact fun _ s => s|exact fun _ s => s.tl|exact fun _ s => s.tl.tl|exact fun _ s => Hd.sub s (Le.trans hle3 hle) (fun r hr => List.mem_cons_of_mem _ hr))))|refine ybl rfl rfl ?_|((fail_if_success (refine ybi rfl ?_));refine ybj rfl ?_ ?_<;>(intro ht;rw [ht];first|replace ht := of_decide_eq_true ht|replace ht := of_decide_eq_false ht|skip))|(refine tb_ ?_ ?_ ?_;(·(first|exact ybf|(refine .inl ?_;(first|exact fun _ s => s|exact fun _ s => s.tl|exact fun _ s => s.tl.tl|exact fun _ s => Hd.sub s (Le.trans hle3 hle) (fun r hr => List.mem_cons_of_mem _ hr)))|exact to_));(·intro _;(first|exact ybf|(refine .inl ?_;(first|exact fun _ s => s|exact fun _ s => s.tl|exact fun _ s => s.tl.tl|exact fun _ s => Hd.sub s (Le.trans hle3 hle) (fun r hr => List.mem_cons_of_mem _ hr)))|exact to_));intro _)|(first|(refine ybg 1 rfl rfl rfl (cxc_sz hu') (cxc_fit hu') (cxc_one rfl) (ybh (cxc_all hu')) rfl rfl ?_ ?_ ?_;(·(first|exact ybf|(refine .inl ?_;(first|exact fun _ s => s|exact fun _ s => s.tl|exact fun _ s => s.tl.tl|exact fun _ s => Hd.sub s (Le.trans hle3 hle) (fun r hr => List.mem_cons_of_mem _ hr)))|exact to_));(·(first|exact ybf|(refine .inl ?_;(first|exact fun _ s => s|exact fun _ s => s.tl|exact fun _ s => s.tl.tl|exact fun _ s => Hd.sub s (Le.trans hle3 hle) (fun r hr => List.mem_cons_of_mem _ hr)))|exact to_)))|(refine tqs_ ?_ ?_ ?_;(·(first|exact ybf|(refine .inl ?_;(first|exact fun _ s => s|exact fun _ s => s.tl|exact fun _ s => s.tl.tl|exact fun _ s => Hd.sub s (Le.trans hle3 hle) (fun r hr => List.mem_cons_of_mem _ hr)))|exact to_));(·(first|exact ybf|(refine .inl ?_;(first|exact fun _ s => s|exact fun _ s => s.tl|exact fun _ s => s.tl.tl|exact fun _ s => Hd.sub s (Le.trans hle3 hle) (fun r hr => List.mem_cons_of_mem _ hr)))|exact to_))))|(apply ybn;(·(first|(first|(apply yad;(·rfl);(·exact yaz 2 rfl);(·exact ycj hu))|(apply yad (vs := up u);(·rfl);(·exact ycm (yaz 2 rfl));(·simp [up, hu])))|(apply yae;(·rfl);(·exact yck (yaz 2 rfl) hu rfl))|exact tq_));(·rfl);(·rfl);(·rfl);(·(first|exact ybf|(refine .inl ?_;(first|exact fun _ s => s|exact fun _ s => s.tl|exact fun _ s => s.tl.tl|exact fun _ s => Hd.sub s (Le.trans hle3 hle) (fun r hr => List.mem_cons_of_mem _ hr)))|exact to_))))|refine ycg ?_))
      repeat' (first|(refine ycf ?_;apply ybk;(·first|(first|(apply yad;(·rfl);(·exact yaz 2 rfl);(·exact ycj hu))|(apply yad (vs := up u);(·rfl);(·exact ycm (yaz 2 rfl));(·simp [up, hu])))|(apply yae;(·rfl);(·exact yck (yaz 2 rfl) hu rfl)));(·rfl);(·rfl))|(refine ybg 1 rfl rfl rfl (cxc_sz hu') (cxc_fit hu') (cxc_one rfl) (ybh (cxc_all hu')) rfl rfl ?_ ?_ ?_;(·(first|exact ybf|(refine .inl ?_;(first|exact fun _ s => s|exact fun _ s => s.tl|exact fun _ s => s.tl.tl|exact fun _ s => Hd.sub s (Le.trans hle3 hle) (fun r hr => List.mem_cons_of_mem _ hr)))|exact to_));(·(first|exact ybf|(refine .inl ?_;(first|exact fun _ s => s|exact fun _ s => s.tl|exact fun _ s => s.tl.tl|exact fun _ s => Hd.sub s (Le.trans hle3 hle) (fun r hr => List.mem_cons_of_mem _ hr)))|exact to_)))|refine t1_ ?_|(refine ta_ ?_;intro _)|((fail_if_success (refine ybi rfl ?_));refine ybj rfl ?_ ?_<;>(intro ht;rw [ht];first|replace ht := of_decide_eq_true ht|replace ht := of_decide_eq_false ht|skip))|(refine ych ?_;first|(refine ybw rfl ?_ ?_<;>intro ht)|(refine ybx rfl ?_ ?_<;>intro ht)))
      refine nx_ret2 rfl (rv_cells rfl (yaz 1 rfl) (cxc_all hu')) (rv_tmp rfl) (fun w' s' => ⟨(h4, cxv u' (.slice ad' m'.length cap'), srt, er), rfl, s'.nil, ?_⟩)
      rw [if_neg (by simp [hk])]
      exact ⟨p1, p2, p3⟩
end Go.Proofs.YtkkjppeaaicgaaaGreat
end

section
namespace Go.Proofs.YtkkjppeaaicgaaaGreat
open Go Go.Ck
set_option maxRecDepth 100000
set_option maxHeartbeats 1000000
set_option linter.unusedVariables false

theorem qv_min {P : Program} {n : Nat} {F : List (Nat × Value)} {h : View} {L : List Res} {dst : Option Nat} {ty : Nat} {pos : String} {af : Array Edge} {gd : Option (Nat × Bool)} {ts : Array TypeId} {x y : Operand} {k : IntKind} {i j : Int} (hx : ev F x = some (.int k i)) (hy : ev F y = some (.int k j)) :
    QV P n F h L ⟨dst, .call ⟨.builtin .min, #[x, y], ts⟩, ty, pos, af, gd⟩ (.int k (if j < i then j else i)) := .mk fun a w f s => by
  simp [execOp, resolve, invoke, builtin, Builtin.min_, f.ev hx, f.ev hy, Builtin.min2]

theorem qv_min' {P : Program} {n : Nat} {F : List (Nat × Value)} {h : View} {L : List Res} {dst : Option Nat} {ty : Nat} {pos : String} {af : Array Edge} {gd : Option (Nat × Bool)} {ts : Array TypeId} {x y : Operand} {k : IntKind} {i j r : Int} (hx : ev F x = some (.int k i)) (hy : ev F y = some (.int k j)) (hr : (if j < i then j else i) = r) :
    QV P n F h L ⟨dst, .call ⟨.builtin .min, #[x, y], ts⟩, ty, pos, af, gd⟩ (.int k r) := by subst hr; exact qv_min hx hy
theorem sc_take {h : View} {k m cap j : Nat} {ad : Option Addr} {xs : List Value} (s : Sc h k (.slice ad m cap) m xs) (hj : j ≤ m) : Sc h k (.slice ad j cap) j (xs.take (j * k)) := by
  obtain ⟨h1, ad', cap', h2, h3, h4⟩ := s
  cases h2
  refine ⟨?_, ad, cap, rfl, by omega, ?_⟩
  · rw [List.length_take, h1]
    exact Nat.min_eq_left (Nat.mul_le_mul_right k hj)
  · rcases h4 with rfl | ⟨b, o, cs, e, fz, q1, q2, q3⟩
    · exact .inl (by simp)
    · refine .inr ⟨b, o, cs, e, fz, q1, q2, fun i u hi => q3 i u ?_⟩
      rw [List.getElem?_take] at hi
      split at hi
      · exact hi
      · cases hi
theorem flat_take {l : List Dt} : ∀ {j : Nat}, (l.flatMap dcs).take (j * 2) = (l.take j).flatMap dcs := by
  induction l with
  | nil => intro j; simp
  | cons d l ih =>
    intro j
    cases j with
    | zero => simp
    | succ j =>
      have : (j + 1) * 2 = (dcs d).length + j * 2 := by rw [dcs_len]; omega
      rw [this]
      simp only [List.flatMap_cons, List.take_succ_cons, List.take_length_add_append, ih]

theorem fill2 {u : List Int} {ad : Option Addr} {m c : Nat} (hu : u.length = 16) : fillL (fun i : Nat => ([(0, 16), (16, 1)] : List (Nat × Nat))[i]?) (up zeroU ++ [.slice none 0 0]) [(0, .agg (up u).toArray), (1, .slice ad m c)] = some (cxc u (.slice ad m c)) := by
  obtain ⟨a0, a1, a2, a3, a4, a5, a6, a7, a8, a9, a10, a11, a12, a13, a14, a15, rfl⟩ := list16 u hu
  rfl

end Go.Proofs.YtkkjppeaaicgaaaGreat
end
