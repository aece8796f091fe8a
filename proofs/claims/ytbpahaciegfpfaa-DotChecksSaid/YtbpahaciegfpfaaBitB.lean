/-
  BitB: a drawn region whose loads are carried out in the world at hand; slices.Reverse of bytes, bits.PutHigh.
  Conditions: each theorem states its own.
-/
import Derived.Test.YtbpahaciegfpfaaBitA
namespace Go.Ck
open Go
section
variable {P : Program} {n : Nat} {K : Bs} {F : List (Nat × Value)} {h : View} {L : List Res} {Q : Exit → Act → World → Prop}
theorem wp_region_lexL {ops : Array Oper} {S : World → Prop} {lo : Nat → Bool} {id : Nat} {Q : Exit → Act → World → Prop} {a : Act} {w : World} (hm : P.follows .mixedOrders = true) (hB : lexOkAt ops (masks ops) lo (barOf ops) = true)
    (h : wpX P ops S lo (barOf ops) (Q .normal) (enumFrom 0 ops.toList) a w.drew) : (Code.region id ops true).wp P Q a w := by
  refine wp_region_any hm (lex_any hB _ (enumFrom 0 ops.toList) _ a _ (by simp [enumFrom_length]) ⟨?_, ?_, ?_, ?_, ?_⟩ h)
  · intro p hp
    obtain ⟨j, h1, h2⟩ := (enumFrom_mem _ _ _).1 hp
    have : p.1 = j := by omega
    rw [this]; simpa using h1
  · exact enumFrom_sorted _ _
  · intro i hi
    simp only [Array.getD_eq_getD_getElem?, Array.getElem?_replicate, hi, if_true, Option.getD_some, true_iff]
    exact ⟨ops[i], (enumFrom_mem _ _ _).2 ⟨i, by simp [hi], by simp⟩⟩
  · intro i o ho hl
    simp only [Array.getD_eq_getD_getElem?, Array.getElem?_replicate] at hl
    split at hl <;> simp at hl
  · simp
/-- the operations of 'ex' are taken for loud ones -/
theorem cx_region_drawL {id : Nat} {ops : Array Oper} (LS : List Res) (ex : List Nat) (hm : P.follows .mixedOrders = true) (hB : lexOkAt ops (masks ops) (fun i => loOf ops i || ex.contains i) (barOf ops) = true)
    (hx : RX P n K ⟨ops, Hd h LS, fun i => loOf ops i || ex.contains i, barOf ops⟩ (enumFrom 0 ops.toList) F h L Q) : CX P n K (.region id ops true) F h L Q := by
  unfold CX
  unfold RX at hx
  exact fun a w f s => wp_region_lexL hm hB (hx a w.drew ⟨f.size, f.dfs, f.get⟩ s.drew)
end
end Go.Ck
namespace Go.Proofs.Ytbpahaciegfpfaa
open Go Go.Ck
set_option maxRecDepth 100000
set_option maxHeartbeats 1000000
set_option linter.unusedVariables false

theorem byte_cell {h : View} {L : List Res} {g o i : Nat} {l : List Int} (c : Cells h L ⟨g, 0, none⟩ (bcs l)) (ho : o = 0 + i) (hi : i < l.length) : CellAt h L g o (.int .u8 (l.getD i 0)) := by
  rw [ho]
  exact c.cell (by simp [bcs, hi])

theorem byte_cellx {h : View} {L : List Res} {g o i : Nat} {l : List Int} {x : Int} (hx : l.getD i 0 = x) (c : Cells h L ⟨g, 0, none⟩ (bcs l)) (ho : o = 0 + i) (hi : i < l.length) : CellAt h L g o (.int .u8 x) := by
  rw [← hx]
  exact byte_cell c ho hi
theorem spl_byte' {l : List Int} {o t : Nat} {x : Int} (ho : o = t) (hi : t < l.length) : spl (bcs l) o (Value.int .u8 x).cells.toList = bcs (l.set t x) := by
  subst ho
  exact spl_byte hi

theorem Reverse_sp (g cap : Nat) (l : List Int) (hl : l.length ≤ 1000000) (h : View) (w : World) (s : St ⟨w, h, doms [rowB (.slice (some ⟨g, 0, none⟩) l.length cap) l]⟩ h [rowB (.slice (some ⟨g, 0, none⟩) l.length cap) l] w) :
    Calls Try.prog 85 [.slice (some ⟨g, 0, none⟩) l.length cap].toArray w fun e w' => ∃ x : Value, e = .returned x ∧ St ⟨w, h, doms [rowB (.slice (some ⟨g, 0, none⟩) l.length cap) l]⟩ h [rowB (.slice (some ⟨g, 0, none⟩) l.length cap) l.reverse] w' ∧ True := by
  refine calls_enter Try.func85 rfl Try.ntmps85 rfl s ?_
  repeat' (first | refine tw_ ?_ | (refine ta_ ?_; intro _) | ((fail_if_success (refine ybi rfl ?_)); refine ybj rfl ?_ ?_ <;> (intro ht; rw [ht]; first | replace ht := of_decide_eq_true ht | replace ht := of_decide_eq_false ht | skip)) | (refine ych ?_; first | (refine ybw rfl ?_ ?_ <;> intro ht) | (refine ybx rfl ?_ ?_ <;> intro ht)))
  refine cx_loop (X := Nat) (fun i => [(0, .slice (some ⟨g, 0, none⟩) l.length cap), (2, .int .i64 i), (3, .int .i64 ((l.length : Int) - 1 - i))]) (fun _ => h) (fun i => [Res.row 5 1 (.slice (some ⟨g, 0, none⟩) l.length cap) l.length (bcs (rvK l i))]) (fun i => 2 * i ≤ l.length + 1) (fun i => l.length - i) 0 (by omega) ?_ (fun _ s => ?_) ?_
  · refine Sub.cons rfl rfl (Sub.cons rfl rfl (Sub.cons rfl ?_ Sub.nil))
    congr 1
    show (l.length : Int) - 1 = (l.length : Int) - 1 - ((0 : Nat) : Int)
    omega
  · rw [rvK_zero]; exact s
  intro i hi
  by_cases hil : 2 * i + 1 < l.length
  · have hk := rvK_len l i
    have hkk : ((l.length : Int) - 1 - (i : Int)).toNat = l.length - 1 - i := by omega
    have e1 : (rvK l i).getD i 0 = l.getD i 0 := by
      have := rvK_at (l := l) (i := i) (t := i) (by omega)
      rw [if_neg (by omega)] at this
      rw [List.getD_eq_getElem?_getD, List.getElem?_eq_getElem (by omega), this]; rfl
    have e2 : (rvK l i).getD (l.length - 1 - i) 0 = l.getD (l.length - 1 - i) 0 := by
      have := rvK_at (l := l) (i := i) (t := l.length - 1 - i) (by omega)
      rw [if_neg (by omega)] at this
      rw [List.getD_eq_getElem?_getD, List.getElem?_eq_getElem (by omega), this]; rfl
    have hij : i ≠ l.length - 1 - i := by omega
    have hpart : ∀ l2 : List Int, l2.length = l.length → l2.getD (l.length - 1 - i) 0 = l.getD (l.length - 1 - i) 0 → ∀ w, Hd h [Res.row 5 1 (.slice (some ⟨g, 0, none⟩) l.length cap) l.length (bcs l2)] w → Hd h [Res.part g (0 + ((l.length : Int) - 1 - (i : Int)).toNat * 1) (.int .u8 (l.getD (l.length - 1 - i) 0)) []] w := fun l2 hl2 hg w s => ⟨s.view, fun r hr => by
      have hr : r = Res.part g (0 + ((l.length : Int) - 1 - (i : Int)).toNat * 1) (.int .u8 (l.getD (l.length - 1 - i) 0)) [] := by simpa using hr
      subst hr
      intro j u hj
      cases j with
      | zero =>
        have hc := cell_at_out (byte_cell (h := h) (o := 0 + ((l.length : Int) - 1 - (i : Int)).toNat * 1 + 0) (row_cells 0 rfl) (i := l.length - 1 - i) (by omega) (by omega)) w s
        rw [hg] at hc
        have hu : u = .int .u8 (l.getD (l.length - 1 - i) 0) := by simpa using hj.symm
        rw [hu]; exact hc
      | succ j => simp at hj⟩
    have hs1 : ((rvK l i).set i (l.getD (l.length - 1 - i) 0)).getD (l.length - 1 - i) 0 = l.getD (l.length - 1 - i) 0 := by
      rw [List.getD_eq_getElem?_getD, List.getElem?_set_ne hij, ← List.getD_eq_getElem?_getD, e2]
    have hl1 : ((rvK l i).set i (l.getD (l.length - 1 - i) 0)).length = l.length := by rw [List.length_set, hk]
    have hnx : (l.length : Int) - 1 - (i : Int) - 1 = (l.length : Int) - 1 - ((i + 1 : Nat) : Int) := by omega
    repeat' (first | refine tw_ ?_ | (refine ta_ ?_; intro _) | ((fail_if_success (refine ybi rfl ?_)); refine ybj rfl ?_ ?_ <;> (intro ht; rw [ht]; first | replace ht := of_decide_eq_true ht | replace ht := of_decide_eq_false ht | skip)) | (refine ych ?_; first | (refine ybw rfl ?_ ?_ <;> intro ht) | (refine ybx rfl ?_ ?_ <;> intro ht)))
    · refine cx_region_drawL [Res.part g (0 + ((l.length : Int) - 1 - (i : Int)).toNat * 1) (.int .u8 (l.getD (l.length - 1 - i) 0)) []] [11] rfl (by kernel_rfl) ?_
      repeat' (refine ycf ?_;(first|(first|(apply ybm;(·(first|(apply yae;(·rfl);(·(first|exact Cells.cell0 (part_cells 0 rfl)|exact byte_cellx e1 (row_cells 0 rfl) (by omega) (by omega))))|exact tq_));(·rfl);(·rfl);(·(first|exact fun w s => hpart _ hk e2 w s|exact fun w s => hpart _ hl1 hs1 w s)))|refine ybl rfl rfl ?_|((fail_if_success (refine ybi rfl ?_));refine ybj rfl ?_ ?_<;>(intro ht;rw [ht];first|replace ht := of_decide_eq_true ht|replace ht := of_decide_eq_false ht|skip))|(refine tb_ ?_ ?_ ?_;(·(first|exact ybf|(refine .inl ?_;(first|exact fun w s => hpart _ hk e2 w s|exact fun w s => hpart _ hl1 hs1 w s))|exact to_));(·intro _;(first|exact ybf|(refine .inl ?_;(first|exact fun w s => hpart _ hk e2 w s|exact fun w s => hpart _ hl1 hs1 w s))|exact to_));intro _)|(first|(first|(refine rx_rowstore 0 rfl rfl rfl rfl (by show 0 + i * 1 + 1 ≤ _;omega) rfl (spl_byte' (t := i) (by show 0 + i * 1 = i;omega) (by omega)) rfl rfl ?_ ?_ ?_;(·(first|exact ybf|(refine .inl ?_;(first|exact fun w s => hpart _ hk e2 w s|exact fun w s => hpart _ hl1 hs1 w s))|exact to_));(·(first|exact ybf|(refine .inl ?_;(first|exact fun w s => hpart _ hk e2 w s|exact fun w s => hpart _ hl1 hs1 w s))|exact to_)))|(refine rx_rowstore 0 rfl rfl rfl rfl (by show 0 + ((l.length : Int) - 1 - (i : Int)).toNat * 1 + 1 ≤ _;omega) rfl (spl_byte' (t := l.length - 1 - i) (by omega) (by omega)) rfl rfl ?_ ?_ ?_;(·(first|exact ybf|(refine .inl ?_;(first|exact fun w s => hpart _ hk e2 w s|exact fun w s => hpart _ hl1 hs1 w s))|exact to_));(·(first|exact ybf|(refine .inl ?_;(first|exact fun w s => hpart _ hk e2 w s|exact fun w s => hpart _ hl1 hs1 w s))|exact to_))))|(refine tqs_ ?_ ?_ ?_;(·(first|exact ybf|(refine .inl ?_;(first|exact fun w s => hpart _ hk e2 w s|exact fun w s => hpart _ hl1 hs1 w s))|exact to_));(·(first|exact ybf|(refine .inl ?_;(first|exact fun w s => hpart _ hk e2 w s|exact fun w s => hpart _ hl1 hs1 w s))|exact to_))))|(apply ybn;(·(first|(apply yae;(·rfl);(·(first|exact Cells.cell0 (part_cells 0 rfl)|exact byte_cellx e1 (row_cells 0 rfl) (by omega) (by omega))))|exact tq_));(·rfl);(·rfl);(·rfl);(·(first|exact ybf|(refine .inl ?_;(first|exact fun w s => hpart _ hk e2 w s|exact fun w s => hpart _ hl1 hs1 w s))|exact to_))))|refine ycg ?_))
      repeat' (first|(refine ycf ?_;apply ybk;(·first|(apply yae;(·rfl);(·(first|exact Cells.cell0 (part_cells 0 rfl)|exact byte_cellx e1 (row_cells 0 rfl) (by omega) (by omega)))));(·rfl);(·rfl))|(first|(refine rx_rowstore 0 rfl rfl rfl rfl (by show 0 + i * 1 + 1 ≤ _;omega) rfl (spl_byte' (t := i) (by show 0 + i * 1 = i;omega) (by omega)) rfl rfl ?_ ?_ ?_;(·(first|exact ybf|(refine .inl ?_;(first|exact fun w s => hpart _ hk e2 w s|exact fun w s => hpart _ hl1 hs1 w s))|exact to_));(·(first|exact ybf|(refine .inl ?_;(first|exact fun w s => hpart _ hk e2 w s|exact fun w s => hpart _ hl1 hs1 w s))|exact to_)))|(refine rx_rowstore 0 rfl rfl rfl rfl (by show 0 + ((l.length : Int) - 1 - (i : Int)).toNat * 1 + 1 ≤ _;omega) rfl (spl_byte' (t := l.length - 1 - i) (by omega) (by omega)) rfl rfl ?_ ?_ ?_;(·(first|exact ybf|(refine .inl ?_;(first|exact fun w s => hpart _ hk e2 w s|exact fun w s => hpart _ hl1 hs1 w s))|exact to_));(·(first|exact ybf|(refine .inl ?_;(first|exact fun w s => hpart _ hk e2 w s|exact fun w s => hpart _ hl1 hs1 w s))|exact to_))))|refine t1_ ?_|(refine ta_ ?_;intro _)|((fail_if_success (refine ybi rfl ?_));refine ybj rfl ?_ ?_<;>(intro ht;rw [ht];first|replace ht := of_decide_eq_true ht|replace ht := of_decide_eq_false ht|skip))|(refine ych ?_;first|(refine ybw rfl ?_ ?_<;>intro ht)|(refine ybx rfl ?_ ?_<;>intro ht)))
      refine nx_round (i + 1) (by omega) (by omega) (Sub.cons rfl rfl (Sub.cons rfl rfl (Sub.cons rfl (congrArg (Value.int .i64) hnx) Sub.nil))) (fun _ s => ?_)
      rw [← rvK_step hil]
      exact s
    · omega
  · repeat' (first|(refine ycf ?_;apply ybk;(·first|(apply yae;(·rfl);(·(first|exact Cells.cell0 (part_cells 0 rfl)|exact byte_cellx e1 (row_cells 0 rfl) (by omega) (by omega)))));(·rfl);(·rfl))|(first|(refine rx_rowstore 0 rfl rfl rfl rfl (by show 0 + i * 1 + 1 ≤ _;omega) rfl (spl_byte' (t := i) (by show 0 + i * 1 = i;omega) (by omega)) rfl rfl ?_ ?_ ?_;(·(first|exact ybf|(refine .inl ?_;(first|exact fun w s => hpart _ hk e2 w s|exact fun w s => hpart _ hl1 hs1 w s))|exact to_));(·(first|exact ybf|(refine .inl ?_;(first|exact fun w s => hpart _ hk e2 w s|exact fun w s => hpart _ hl1 hs1 w s))|exact to_)))|(refine rx_rowstore 0 rfl rfl rfl rfl (by show 0 + ((l.length : Int) - 1 - (i : Int)).toNat * 1 + 1 ≤ _;omega) rfl (spl_byte' (t := l.length - 1 - i) (by omega) (by omega)) rfl rfl ?_ ?_ ?_;(·(first|exact ybf|(refine .inl ?_;(first|exact fun w s => hpart _ hk e2 w s|exact fun w s => hpart _ hl1 hs1 w s))|exact to_));(·(first|exact ybf|(refine .inl ?_;(first|exact fun w s => hpart _ hk e2 w s|exact fun w s => hpart _ hl1 hs1 w s))|exact to_))))|refine t1_ ?_|(refine ta_ ?_;intro _)|((fail_if_success (refine ybi rfl ?_));refine ybj rfl ?_ ?_<;>(intro ht;rw [ht];first|replace ht := of_decide_eq_true ht|replace ht := of_decide_eq_false ht|skip))|(refine ych ?_;first|(refine ybw rfl ?_ ?_<;>intro ht)|(refine ybx rfl ?_ ?_<;>intro ht)))
    · omega
    refine nx_end0 rfl (fun w' s' => ⟨_, rfl, ?_, trivial⟩)
    rw [← rvK_end (i := i) (by omega)]
    show St _ _ [Res.row 5 1 (.slice (some ⟨g, 0, none⟩) l.length cap) (rvK l i).length (bcs (rvK l i))] _
    rw [rvK_len]
    exact s'
end Go.Proofs.Ytbpahaciegfpfaa
