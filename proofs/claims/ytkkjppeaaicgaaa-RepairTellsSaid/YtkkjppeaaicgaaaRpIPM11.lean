/-
  Part 11 of a proof: SbK SbL SbM.
  Conditions: each theorem states its own.
-/
import Derived.Test.YtkkjppeaaicgaaaRpIPM10
section
namespace Go.Proofs.Ytkkjppeaaicgaaa
open Go Go.Ck
set_option maxRecDepth 100000
set_option maxHeartbeats 4000000
set_option linter.unusedVariables false

theorem flat_takeS {l : List Sb} : ∀ {j : Nat}, (l.flatMap sbc).take (j * 20) = (l.take j).flatMap sbc := by
  induction l with
  | nil => intro j; simp
  | cons d l ih =>
    intro j
    cases j with
    | zero => simp
    | succ j =>
      have : (j + 1) * 20 = (sbc d).length + j * 20 := by rw [sbc_len]; omega
      rw [this]
      simp only [List.flatMap_cons, List.take_succ_cons, List.take_length_add_append, ih]
theorem row_el2 {h : View} {L : List Res} {g o : Nat} {l : List Sb} {i : Nat} {x : Sb} (c : Cells h L ⟨g, 0, none⟩ (l.flatMap sbc)) (hx : l[i]? = some x) (ho : o = i * 20) : Cells h L ⟨g, o, none⟩ (sbc x) := by
  have := row_el c hx (j := i) rfl
  rwa [Nat.zero_add, ← ho] at this
theorem qv_slice_fromv {P : Program} {n : Nat} {F : List (Nat × Value)} {h : View} {L : List Res} {dst : Option Nat} {ty : Nat} {pos : String} {af : Array Edge} {gd : Option (Nat × Bool)} {T e k : Nat} {x y : Operand} {b len cap i : Nat} {ki : IntKind} [tu : TyU P T (.slice e)] [ts : TyS P e k] (hx : ev F x = some (.slice (some ⟨b, 0, none⟩) len cap)) (hy : ev F y = some (.int ki i)) (h1 : i ≤ len) (h2 : i < cap) :
    QV P n F h L ⟨dst, .slice T x (some y) none none, ty, pos, af, gd⟩ (.slice (some ⟨b, i * k, none⟩) (len - i) (cap - i)) := by
  have := qv_slice_from (P := P) (n := n) (h := h) (L := L) (dst := dst) (ty := ty) (pos := pos) (af := af) (gd := gd) (T := T) (e := e) (k := k) hx hy h1
  have e1 : cutF (some ⟨b, 0, none⟩) cap i k = some ⟨b, i * k, none⟩ := by
    unfold cutF
    rw [if_neg (by omega)]
    show some ((⟨b, 0, none⟩ : Addr).add (i * k)) = _
    rw [Addr.add_off, Nat.zero_add]
  rwa [e1] at this
def eqV : Value := .func (.func 50) #[] #[]
theorem eqS_sp (x y : Sb) (h : View) (w : World) (s : St ⟨w, h, []⟩ h [] w) :
    Calls Try.prog 50 [sbv x, sbv y].toArray w fun e w' => e = .returned (.bool (decide (x.d = y.d))) ∧ St ⟨w, h, []⟩ h [] w' := by
  refine calls_enter Try.func50 rfl Try.ntmps50 rfl s ?_
  repeat' (first | (refine ycf ?_; apply ybk; (· first | (first | exact qv_eql_agg rfl rfl (fun w => dot_eq _ _ w) | (apply yad; (· rfl); (· exact sb_dot (yaz 0 rfl)); (· rfl)) | (apply yad; (· rfl); (· exact sb_dot (yaz 1 rfl)); (· rfl)))); (· rfl); (· rfl)) | refine t1_ ?_ | (refine ta_ ?_; intro _) | ((fail_if_success (refine ybi rfl ?_)); refine ybj rfl ?_ ?_ <;> (intro ht; rw [ht]; first | replace ht := of_decide_eq_true ht | replace ht := of_decide_eq_false ht | skip)) | (refine ych ?_; first | (refine ybw rfl ?_ ?_ <;> intro ht) | (refine ybx rfl ?_ ?_ <;> intro ht)))
  exact nx_ret1 rfl (rv_tmp rfl) (fun w' s' => ⟨rfl, s'.nil⟩)

def dAt (l : List Sb) (i : Nat) : Option Dt := l[i]?.map (·.d)
/-- the first of each run of like dots, among the first k -/
def ddk (l : List Sb) (k : Nat) : List Sb := (List.range k).filterMap fun i => if i ≠ 0 ∧ dAt l i = dAt l (i - 1) then none else l[i]?
theorem ddk_succ {l : List Sb} {k : Nat} {x y : Sb} (hx : l[k]? = some x) (hy : l[k - 1]? = some y) (h0 : k ≠ 0) : ddk l (k + 1) = ddk l k ++ (if x.d = y.d then [] else [x]) := by
  unfold ddk
  rw [List.range_succ, List.filterMap_append]
  congr 1
  have e1 : dAt l k = some x.d := by unfold dAt; rw [hx]; rfl
  have e2 : dAt l (k - 1) = some y.d := by unfold dAt; rw [hy]; rfl
  simp only [List.filterMap_cons, List.filterMap_nil, e1, e2, hx, Option.some.injEq]
  by_cases h : x.d = y.d
  · simp [h, h0]
  · simp [h]
theorem ddk_one {l : List Sb} {x : Sb} (hx : l[0]? = some x) : ddk l 1 = [x] := by
  unfold ddk
  simp [hx]
theorem ddk_zero (l : List Sb) : ddk l 0 = [] := rfl

theorem compact_sp (g cap m : Nat) (l : List Sb) (hm : l.length = m) (hm62 : m ≤ 100000) (h1 : Ones l) (h : View) (w : World) (s : St ⟨w, h, doms [rowS g cap m l]⟩ h [rowS g cap m l] w) :
    Calls Try.prog 49 [.slice (some ⟨g, 0, none⟩) m cap, eqV].toArray w fun e w' => ∃ x : Value, e = .returned x ∧ St ⟨w, h, doms [rowS g cap m l]⟩ h [rowX x (ddk l m)] w' ∧ True := by
  refine calls_enter Try.func49 rfl Try.ntmps49 rfl s ?_
  by_cases h2 : m < 2
  · repeat' (first | (refine ycf ?_; apply ybk; (· first | (exact tk_)); (· rfl); (· rfl)) | refine t1_ ?_ | (refine ta_ ?_; intro _) | ((fail_if_success (refine ybi rfl ?_)); refine ybj rfl ?_ ?_ <;> (intro ht; rw [ht]; first | replace ht := of_decide_eq_true ht | replace ht := of_decide_eq_false ht | skip)) | (refine ych ?_; first | (refine ybw rfl ?_ ?_ <;> intro ht) | (refine ybx rfl ?_ ?_ <;> intro ht)))
    have e : ddk l m = l := by
      match l, hm with
      | [], hm => subst hm; rfl
      | [x], hm => subst hm; exact ddk_one rfl
      | x :: y :: r, hm => simp at hm; omega
    refine nx_ret1 rfl (rv_tmp rfl) (fun w' s' => ⟨_, rfl, ?_, trivial⟩)
    rw [e]
    show St _ _ [Res.row _ _ _ l.length _] _
    rw [hm]
    exact s'
  · refine cx_rowcap 0 rfl fun hcap => ?_
    repeat' (first | (refine ycf ?_; apply ybk; (· first | (exact tk_)); (· rfl); (· rfl)) | refine t1_ ?_ | (refine ta_ ?_; intro _) | ((fail_if_success (refine ybi rfl ?_)); refine ybj rfl ?_ ?_ <;> (intro ht; rw [ht]; first | replace ht := of_decide_eq_true ht | replace ht := of_decide_eq_false ht | skip)) | (refine ych ?_; first | (refine ybw rfl ?_ ?_ <;> intro ht) | (refine ybx rfl ?_ ?_ <;> intro ht)))
    refine cx_loop (X := Nat) (fun k => [(0, .slice (some ⟨g, 0, none⟩) m cap), (1, eqV), (5, .int .i64 (k : Nat))]) (fun _ => h) (fun _ => [rowS g cap m l]) (fun k => 1 ≤ k ∧ k ≤ m ∧ ddk l k = l.take k) (fun k => m - k) 1
      ⟨Nat.le_refl _, by omega, by
        obtain ⟨x, hx⟩ : ∃ x, l[0]? = some x := ⟨_, List.getElem?_eq_getElem (by omega)⟩
        rw [ddk_one hx, List.take_one, List.head?_eq_getElem?, hx]; rfl⟩ ts_ (fun _ s => s) ?_
    rintro k ⟨hk1, hkm, hdd⟩
    by_cases hk : k < m
    · obtain ⟨x, hx⟩ : ∃ x, l[k]? = some x := ⟨_, List.getElem?_eq_getElem (by omega)⟩
      obtain ⟨y, hy⟩ : ∃ y, l[k - 1]? = some y := ⟨_, List.getElem?_eq_getElem (by omega)⟩
      have hstep := ddk_succ hx hy (by omega)
      have hxl := sbc_len x
      have hyl := sbc_len y
      have helx := fun (L : List Res) (c : Cells h L ⟨g, 0, none⟩ (l.flatMap sbc)) => row_el c hx (show ((k : Int)).toNat = k by omega)
      have hely := fun (L : List Res) (c : Cells h L ⟨g, 0, none⟩ (l.flatMap sbc)) => row_el c hy (show ((k : Int) - 1).toNat = k - 1 by omega)
      have hE := eqS_sp x y h
      by_cases hxy : x.d = y.d
      · rw [decide_eq_true hxy] at hE
        repeat' (first | (refine ycf ?_; apply ybk; (· first | (first | exact tk_ | (apply yad; (· rfl); (· exact helx _ (row_cells 0 rfl)); (· exact hxl)) | (apply yad; (· rfl); (· exact hely _ (row_cells 0 rfl)); (· exact hyl)))); (· rfl); (· rfl)) | refine t1_ ?_ | (refine ta_ ?_; intro _) | ((fail_if_success (refine ybi rfl ?_)); refine ybj rfl ?_ ?_ <;> (intro ht; rw [ht]; first | replace ht := of_decide_eq_true ht | replace ht := of_decide_eq_false ht | skip)) | (refine ych ?_; first | (refine ybw rfl ?_ ?_ <;> intro ht) | (refine ybx rfl ?_ ?_ <;> intro ht)))
        refine cx_region_draw' rfl (by kernel_rfl) ?_
        repeat' (refine ycf ?_;(first|(first|(apply ybm;(·(first|(first|exact tk_|(apply yad;(·rfl);(·exact helx _ (row_cells 0 rfl));(·exact hxl))|(apply yad;(·rfl);(·exact hely _ (row_cells 0 rfl));(·exact hyl)))|exact tq_));(·rfl);(·rfl);(·(exact th_)))|refine ybl rfl rfl ?_|((fail_if_success (refine ybi rfl ?_));refine ybj rfl ?_ ?_<;>(intro ht;rw [ht];first|replace ht := of_decide_eq_true ht|replace ht := of_decide_eq_false ht|skip))|(refine tb_ ?_ ?_ ?_;(·(exact to_));(·intro _;(exact to_));intro _)|(first|(refine tqs_ ?_ ?_ ?_;(·(exact to_));(·(exact to_))))|(apply ybn;(·(first|(first|exact tk_|(apply yad;(·rfl);(·exact helx _ (row_cells 0 rfl));(·exact hxl))|(apply yad;(·rfl);(·exact hely _ (row_cells 0 rfl));(·exact hyl)))|exact tq_));(·rfl);(·rfl);(·rfl);(·(exact to_))))|refine ycg ?_))
        (refine ycn (call_val rfl Try.func50 rfl (by kernel_rfl) rfl) hE rfl rfl rfl ?_ ?_; (· (exact to_)))
        repeat' (refine ycf ?_;(first|(first|(apply ybm;(·(first|(first|exact tk_|(refine qv_slice_fromv rfl rfl ?_ ?_<;>omega))|exact tq_));(·rfl);(·rfl);(·(exact th_)))|refine ybl rfl rfl ?_|((fail_if_success (refine ybi rfl ?_));refine ybj rfl ?_ ?_<;>(intro ht;rw [ht];first|replace ht := of_decide_eq_true ht|replace ht := of_decide_eq_false ht|skip))|(refine tb_ ?_ ?_ ?_;(·(exact to_));(·intro _;(exact to_));intro _)|(first|(refine tqs_ ?_ ?_ ?_;(·(exact to_));(·(exact to_))))|(apply ybn;(·(first|(first|exact tk_|(refine qv_slice_fromv rfl rfl ?_ ?_<;>omega))|exact tq_));(·rfl);(·rfl);(·rfl);(·(exact to_))))|refine ycg ?_))
        repeat' (first | (refine ycf ?_; apply ybk; (· first | (first | exact tk_ | (refine qv_slice_fromv rfl rfl ?_ ?_ <;> omega))); (· rfl); (· rfl)) | refine t1_ ?_ | (refine ta_ ?_; intro _) | ((fail_if_success (refine ybi rfl ?_)); refine ybj rfl ?_ ?_ <;> (intro ht; rw [ht]; first | replace ht := of_decide_eq_true ht | replace ht := of_decide_eq_false ht | skip)) | (refine ych ?_; first | (refine ybw rfl ?_ ?_ <;> intro ht) | (refine ybx rfl ?_ ?_ <;> intro ht)))
        rw [if_pos hxy, List.append_nil] at hstep
        obtain ⟨k0, hk0⟩ : ∃ k0, k0 = k := ⟨_, rfl⟩
        refine cx_loop (X := Nat × Nat × List Sb) (fun z => [(0, .slice (some ⟨g, 0, none⟩) m cap), (1, eqV), (5, .int .i64 (z.2.1 : Nat)), (6, .slice (some ⟨g, k * 20, none⟩) (m - k) (cap - k)), (7, .int .i64 (z.1 : Nat))]) (fun _ => h) (fun z => [rowS g cap m z.2.2])
          (fun z => 1 ≤ z.1 ∧ k + z.1 ≤ m ∧ z.2.1 + 1 ≤ k + z.1 ∧ z.2.2.length = m ∧ z.2.2.take z.2.1 = ddk l (k + z.1) ∧ (∀ j, k + z.1 ≤ j + 1 → z.2.2[j]? = l[j]?)) (fun z => m - z.1) (1, k, l)
          ⟨Nat.le_refl _, by show k + 1 ≤ m; omega, Nat.le_refl _, hm, by show l.take k = ddk l (k + 1); rw [hstep, hdd], fun j _ => rfl⟩ ts_ (fun _ s => s) ?_
        rintro ⟨k2, K, cur⟩ ⟨z1, z2, z3, z4, z5, z6⟩
        dsimp only at z1 z2 z3 z4 z5 z6 ⊢
        by_cases hk2 : k + k2 < m
        · obtain ⟨x', hx'⟩ : ∃ x, l[k + k2]? = some x := ⟨_, List.getElem?_eq_getElem (by omega)⟩
          obtain ⟨y', hy'⟩ : ∃ y, l[k + k2 - 1]? = some y := ⟨_, List.getElem?_eq_getElem (by omega)⟩
          have hstep' := ddk_succ hx' hy' (by omega)
          have cx' : cur[k + k2]? = some x' := by rw [z6 _ (by omega), hx']
          have cy' : cur[k + k2 - 1]? = some y' := by rw [z6 _ (by omega), hy']
          have hxl' := sbc_len x'
          have hyl' := sbc_len y'
          have ox' := h1 x' (List.mem_of_getElem? hx')
          have helx' := fun (L : List Res) (c : Cells h L ⟨g, 0, none⟩ (cur.flatMap sbc)) => row_el2 (o := k * 20 + ((k2 : Int)).toNat * 20) c cx' (by omega)
          have hely' := fun (L : List Res) (c : Cells h L ⟨g, 0, none⟩ (cur.flatMap sbc)) => row_el2 (o := k * 20 + ((k2 : Int) - 1).toNat * 20) c cy' (by omega)
          have hE' := eqS_sp x' y' h
          by_cases hxy' : x'.d = y'.d
          · rw [decide_eq_true hxy'] at hE'
            repeat' (first|(refine ycf ?_;apply ybk;(·first|(first|exact tk_|(apply yad;(·rfl);(·exact helx' _ (row_cells 0 rfl));(·exact hxl'))|(apply yad;(·rfl);(·exact hely' _ (row_cells 0 rfl));(·exact hyl'))));(·rfl);(·rfl))|(refine rx_rowstore 0 rfl rfl rfl (sbc_sz x') (by rw [sbc_sz];omega) (sbc_one ox'.1 ox'.2) (spl_flat (j := K) (by omega) (by omega)) rfl rfl ?_ ?_ ?_;(·(exact to_));(·(exact to_)))|refine t1_ ?_|(refine ta_ ?_;intro _)|((fail_if_success (refine ybi rfl ?_));refine ybj rfl ?_ ?_<;>(intro ht;rw [ht];first|replace ht := of_decide_eq_true ht|replace ht := of_decide_eq_false ht|skip))|(refine ych ?_;first|(refine ybw rfl ?_ ?_<;>intro ht)|(refine ybx rfl ?_ ?_<;>intro ht)))
            refine cx_region_draw' rfl (by kernel_rfl) ?_
            repeat' (refine ycf ?_;(first|(first|(apply ybm;(·(first|(first|exact tk_|(apply yad;(·rfl);(·exact helx' _ (row_cells 0 rfl));(·exact hxl'))|(apply yad;(·rfl);(·exact hely' _ (row_cells 0 rfl));(·exact hyl')))|exact tq_));(·rfl);(·rfl);(·(exact th_)))|refine ybl rfl rfl ?_|((fail_if_success (refine ybi rfl ?_));refine ybj rfl ?_ ?_<;>(intro ht;rw [ht];first|replace ht := of_decide_eq_true ht|replace ht := of_decide_eq_false ht|skip))|(refine tb_ ?_ ?_ ?_;(·(exact to_));(·intro _;(exact to_));intro _)|(first|(refine rx_rowstore 0 rfl rfl rfl (sbc_sz x') (by rw [sbc_sz];omega) (sbc_one ox'.1 ox'.2) (spl_flat (j := K) (by omega) (by omega)) rfl rfl ?_ ?_ ?_;(·(exact to_));(·(exact to_)))|(refine tqs_ ?_ ?_ ?_;(·(exact to_));(·(exact to_))))|(apply ybn;(·(first|(first|exact tk_|(apply yad;(·rfl);(·exact helx' _ (row_cells 0 rfl));(·exact hxl'))|(apply yad;(·rfl);(·exact hely' _ (row_cells 0 rfl));(·exact hyl')))|exact tq_));(·rfl);(·rfl);(·rfl);(·(exact to_))))|refine ycg ?_))
            (refine ycn (call_val rfl Try.func50 rfl (by kernel_rfl) rfl) hE' rfl rfl rfl ?_ ?_; (· (exact to_)))
            repeat' (refine ycf ?_;(first|(first|(apply ybm;(·(first|(first|exact tk_|(apply yad;(·rfl);(·exact helx' _ (row_cells 0 rfl));(·exact hxl'))|(apply yad;(·rfl);(·exact hely' _ (row_cells 0 rfl));(·exact hyl')))|exact tq_));(·rfl);(·rfl);(·(exact th_)))|refine ybl rfl rfl ?_|((fail_if_success (refine ybi rfl ?_));refine ybj rfl ?_ ?_<;>(intro ht;rw [ht];first|replace ht := of_decide_eq_true ht|replace ht := of_decide_eq_false ht|skip))|(refine tb_ ?_ ?_ ?_;(·(exact to_));(·intro _;(exact to_));intro _)|(first|(refine rx_rowstore 0 rfl rfl rfl (sbc_sz x') (by rw [sbc_sz];omega) (sbc_one ox'.1 ox'.2) (spl_flat (j := K) (by omega) (by omega)) rfl rfl ?_ ?_ ?_;(·(exact to_));(·(exact to_)))|(refine tqs_ ?_ ?_ ?_;(·(exact to_));(·(exact to_))))|(apply ybn;(·(first|(first|exact tk_|(apply yad;(·rfl);(·exact helx' _ (row_cells 0 rfl));(·exact hxl'))|(apply yad;(·rfl);(·exact hely' _ (row_cells 0 rfl));(·exact hyl')))|exact tq_));(·rfl);(·rfl);(·rfl);(·(exact to_))))|refine ycg ?_))
            repeat' (first|(refine ycf ?_;apply ybk;(·first|(first|exact tk_|(apply yad;(·rfl);(·exact helx' _ (row_cells 0 rfl));(·exact hxl'))|(apply yad;(·rfl);(·exact hely' _ (row_cells 0 rfl));(·exact hyl'))));(·rfl);(·rfl))|(refine rx_rowstore 0 rfl rfl rfl (sbc_sz x') (by rw [sbc_sz];omega) (sbc_one ox'.1 ox'.2) (spl_flat (j := K) (by omega) (by omega)) rfl rfl ?_ ?_ ?_;(·(exact to_));(·(exact to_)))|refine t1_ ?_|(refine ta_ ?_;intro _)|((fail_if_success (refine ybi rfl ?_));refine ybj rfl ?_ ?_<;>(intro ht;rw [ht];first|replace ht := of_decide_eq_true ht|replace ht := of_decide_eq_false ht|skip))|(refine ych ?_;first|(refine ybw rfl ?_ ?_<;>intro ht)|(refine ybx rfl ?_ ?_<;>intro ht)))
            refine nx_round (k2 + 1, K, cur) ⟨by show 1 ≤ k2 + 1; omega, by show k + (k2 + 1) ≤ m; omega, by show K + 1 ≤ k + (k2 + 1); omega, z4, ?_, fun j hj => z6 j (by dsimp only at hj; omega)⟩ (by show m - (k2 + 1) < m - k2; omega) ts_ (fun _ s => s)
            show cur.take K = ddk l (k + k2 + 1)
            rw [hstep', if_pos hxy', List.append_nil, z5]
          · rw [decide_eq_false hxy'] at hE'
            repeat' (first|(refine ycf ?_;apply ybk;(·first|(first|exact tk_|(apply yad;(·rfl);(·exact helx' _ (row_cells 0 rfl));(·exact hxl'))|(apply yad;(·rfl);(·exact hely' _ (row_cells 0 rfl));(·exact hyl'))));(·rfl);(·rfl))|(refine rx_rowstore 0 rfl rfl rfl (sbc_sz x') (by rw [sbc_sz];omega) (sbc_one ox'.1 ox'.2) (spl_flat (j := K) (by omega) (by omega)) rfl rfl ?_ ?_ ?_;(·(exact to_));(·(exact to_)))|refine t1_ ?_|(refine ta_ ?_;intro _)|((fail_if_success (refine ybi rfl ?_));refine ybj rfl ?_ ?_<;>(intro ht;rw [ht];first|replace ht := of_decide_eq_true ht|replace ht := of_decide_eq_false ht|skip))|(refine ych ?_;first|(refine ybw rfl ?_ ?_<;>intro ht)|(refine ybx rfl ?_ ?_<;>intro ht)))
            refine cx_region_draw' rfl (by kernel_rfl) ?_
            repeat' (refine ycf ?_;(first|(first|(apply ybm;(·(first|(first|exact tk_|(apply yad;(·rfl);(·exact helx' _ (row_cells 0 rfl));(·exact hxl'))|(apply yad;(·rfl);(·exact hely' _ (row_cells 0 rfl));(·exact hyl')))|exact tq_));(·rfl);(·rfl);(·(exact th_)))|refine ybl rfl rfl ?_|((fail_if_success (refine ybi rfl ?_));refine ybj rfl ?_ ?_<;>(intro ht;rw [ht];first|replace ht := of_decide_eq_true ht|replace ht := of_decide_eq_false ht|skip))|(refine tb_ ?_ ?_ ?_;(·(exact to_));(·intro _;(exact to_));intro _)|(first|(refine rx_rowstore 0 rfl rfl rfl (sbc_sz x') (by rw [sbc_sz];omega) (sbc_one ox'.1 ox'.2) (spl_flat (j := K) (by omega) (by omega)) rfl rfl ?_ ?_ ?_;(·(exact to_));(·(exact to_)))|(refine tqs_ ?_ ?_ ?_;(·(exact to_));(·(exact to_))))|(apply ybn;(·(first|(first|exact tk_|(apply yad;(·rfl);(·exact helx' _ (row_cells 0 rfl));(·exact hxl'))|(apply yad;(·rfl);(·exact hely' _ (row_cells 0 rfl));(·exact hyl')))|exact tq_));(·rfl);(·rfl);(·rfl);(·(exact to_))))|refine ycg ?_))
            (refine ycn (call_val rfl Try.func50 rfl (by kernel_rfl) rfl) hE' rfl rfl rfl ?_ ?_; (· (exact to_)))
            repeat' (refine ycf ?_;(first|(first|(apply ybm;(·(first|(first|exact tk_|(apply yad;(·rfl);(·exact helx' _ (row_cells 0 rfl));(·exact hxl'))|(apply yad;(·rfl);(·exact hely' _ (row_cells 0 rfl));(·exact hyl')))|exact tq_));(·rfl);(·rfl);(·(exact th_)))|refine ybl rfl rfl ?_|((fail_if_success (refine ybi rfl ?_));refine ybj rfl ?_ ?_<;>(intro ht;rw [ht];first|replace ht := of_decide_eq_true ht|replace ht := of_decide_eq_false ht|skip))|(refine tb_ ?_ ?_ ?_;(·(exact to_));(·intro _;(exact to_));intro _)|(first|(refine rx_rowstore 0 rfl rfl rfl (sbc_sz x') (by rw [sbc_sz];omega) (sbc_one ox'.1 ox'.2) (spl_flat (j := K) (by omega) (by omega)) rfl rfl ?_ ?_ ?_;(·(exact to_));(·(exact to_)))|(refine tqs_ ?_ ?_ ?_;(·(exact to_));(·(exact to_))))|(apply ybn;(·(first|(first|exact tk_|(apply yad;(·rfl);(·exact helx' _ (row_cells 0 rfl));(·exact hxl'))|(apply yad;(·rfl);(·exact hely' _ (row_cells 0 rfl));(·exact hyl')))|exact tq_));(·rfl);(·rfl);(·rfl);(·(exact to_))))|refine ycg ?_))
            repeat' (first|(refine ycf ?_;apply ybk;(·first|(first|exact tk_|(apply yad;(·rfl);(·exact helx' _ (row_cells 0 rfl));(·exact hxl'))|(apply yad;(·rfl);(·exact hely' _ (row_cells 0 rfl));(·exact hyl'))));(·rfl);(·rfl))|(refine rx_rowstore 0 rfl rfl rfl (sbc_sz x') (by rw [sbc_sz];omega) (sbc_one ox'.1 ox'.2) (spl_flat (j := K) (by omega) (by omega)) rfl rfl ?_ ?_ ?_;(·(exact to_));(·(exact to_)))|refine t1_ ?_|(refine ta_ ?_;intro _)|((fail_if_success (refine ybi rfl ?_));refine ybj rfl ?_ ?_<;>(intro ht;rw [ht];first|replace ht := of_decide_eq_true ht|replace ht := of_decide_eq_false ht|skip))|(refine ych ?_;first|(refine ybw rfl ?_ ?_<;>intro ht)|(refine ybx rfl ?_ ?_<;>intro ht)))
            refine nx_round (k2 + 1, K + 1, cur.set K x') ⟨by show 1 ≤ k2 + 1; omega, by show k + (k2 + 1) ≤ m; omega, by show K + 1 + 1 ≤ k + (k2 + 1); omega, by show (cur.set K x').length = m; rw [List.length_set, z4], ?_, fun j hj => ?_⟩ (by show m - (k2 + 1) < m - k2; omega) (by repeat' (first | exact Sub.nil | refine Sub.cons rfl rfl ?_ | refine Sub.cons rfl (congrArg (Value.int .i64) (by dsimp only; omega)) ?_)) (fun _ s => s)
            · show (cur.set K x').take (K + 1) = ddk l (k + k2 + 1)
              rw [hstep', if_neg hxy', ← z5, List.take_succ_eq_append_getElem (by rw [List.length_set]; omega), List.getElem_set_self, List.take_set_of_le (Nat.le_refl _)]
            · show (cur.set K x')[j]? = l[j]?
              rw [List.getElem?_set_ne (by dsimp only at hj; omega)]
              exact z6 j (by dsimp only at hj; omega)
        · have hk2' : k + k2 = m := by omega
          have hdl : (ddk l m).length = K := by rw [← hk2', ← z5]; simp; omega
          repeat' (first|(refine ycf ?_;apply ybk;(·first|(first|exact tk_|(refine qv_slice_fromv rfl rfl ?_ ?_<;>omega)|(apply qv_slice_to;(·rfl);(·rfl);(·omega);(·omega))));(·rfl);(·rfl))|(refine rx_rowstore 0 rfl rfl rfl (sbc_sz x') (by rw [sbc_sz];omega) (sbc_one ox'.1 ox'.2) (spl_flat (j := K) (by omega) (by omega)) rfl rfl ?_ ?_ ?_;(·(exact to_));(·(exact to_)))|refine t1_ ?_|(refine ta_ ?_;intro _)|((fail_if_success (refine ybi rfl ?_));refine ybj rfl ?_ ?_<;>(intro ht;rw [ht];first|replace ht := of_decide_eq_true ht|replace ht := of_decide_eq_false ht|skip))|(refine ych ?_;first|(refine ybw rfl ?_ ?_<;>intro ht)|(refine ybx rfl ?_ ?_<;>intro ht)))
          refine rx_clear (sz := 20) 0 rfl rfl (by omega) rfl (by omega) rfl rfl rfl rfl ybf (fun _ => ybf) fun xs' hxs' => ?_
          refine rx_cut (m := m) 0 K rfl (by omega) ?_
          repeat' (first|(refine ycf ?_;apply ybk;(·first|(first|exact tk_|(refine qv_slice_fromv rfl rfl ?_ ?_<;>omega)|(apply qv_slice_to;(·rfl);(·rfl);(·omega);(·omega))));(·rfl);(·rfl))|(refine rx_rowstore 0 rfl rfl rfl (sbc_sz x') (by rw [sbc_sz];omega) (sbc_one ox'.1 ox'.2) (spl_flat (j := K) (by omega) (by omega)) rfl rfl ?_ ?_ ?_;(·(exact to_));(·(exact to_)))|refine t1_ ?_|(refine ta_ ?_;intro _)|((fail_if_success (refine ybi rfl ?_));refine ybj rfl ?_ ?_<;>(intro ht;rw [ht];first|replace ht := of_decide_eq_true ht|replace ht := of_decide_eq_false ht|skip))|(refine ych ?_;first|(refine ybw rfl ?_ ?_<;>intro ht)|(refine ybx rfl ?_ ?_<;>intro ht)))
          refine nx_ret1 rfl (rv_tmp rfl) (fun w' s' => ⟨_, rfl, ?_, trivial⟩)
          rw [flat_takeS, z5, hk2'] at hxs'
          have s2 : St ⟨w, h, doms [rowS g cap m l]⟩ h [Res.row 41 20 (.slice (some ⟨g, 0, none⟩) K cap) K (xs'.take (K * 20))] w' := s'
          rw [hxs'] at s2
          show St _ _ [Res.row _ _ _ (ddk l m).length _] _
          rw [hdl]
          exact s2
      · rw [decide_eq_false hxy] at hE
        repeat' (first|(refine ycf ?_;apply ybk;(·first|(first|exact tk_|(apply yad;(·rfl);(·exact helx _ (row_cells 0 rfl));(·exact hxl))|(apply yad;(·rfl);(·exact hely _ (row_cells 0 rfl));(·exact hyl))));(·rfl);(·rfl))|(refine rx_rowstore 0 rfl rfl rfl (sbc_sz x') (by rw [sbc_sz];omega) (sbc_one ox'.1 ox'.2) (spl_flat (j := K) (by omega) (by omega)) rfl rfl ?_ ?_ ?_;(·(exact to_));(·(exact to_)))|refine t1_ ?_|(refine ta_ ?_;intro _)|((fail_if_success (refine ybi rfl ?_));refine ybj rfl ?_ ?_<;>(intro ht;rw [ht];first|replace ht := of_decide_eq_true ht|replace ht := of_decide_eq_false ht|skip))|(refine ych ?_;first|(refine ybw rfl ?_ ?_<;>intro ht)|(refine ybx rfl ?_ ?_<;>intro ht)))
        refine cx_region_draw' rfl (by kernel_rfl) ?_
        repeat' (refine ycf ?_;(first|(first|(apply ybm;(·(first|(first|exact tk_|(apply yad;(·rfl);(·exact helx _ (row_cells 0 rfl));(·exact hxl))|(apply yad;(·rfl);(·exact hely _ (row_cells 0 rfl));(·exact hyl)))|exact tq_));(·rfl);(·rfl);(·(exact th_)))|refine ybl rfl rfl ?_|((fail_if_success (refine ybi rfl ?_));refine ybj rfl ?_ ?_<;>(intro ht;rw [ht];first|replace ht := of_decide_eq_true ht|replace ht := of_decide_eq_false ht|skip))|(refine tb_ ?_ ?_ ?_;(·(exact to_));(·intro _;(exact to_));intro _)|(first|(refine rx_rowstore 0 rfl rfl rfl (sbc_sz x') (by rw [sbc_sz];omega) (sbc_one ox'.1 ox'.2) (spl_flat (j := K) (by omega) (by omega)) rfl rfl ?_ ?_ ?_;(·(exact to_));(·(exact to_)))|(refine tqs_ ?_ ?_ ?_;(·(exact to_));(·(exact to_))))|(apply ybn;(·(first|(first|exact tk_|(apply yad;(·rfl);(·exact helx _ (row_cells 0 rfl));(·exact hxl))|(apply yad;(·rfl);(·exact hely _ (row_cells 0 rfl));(·exact hyl)))|exact tq_));(·rfl);(·rfl);(·rfl);(·(exact to_))))|refine ycg ?_))
        (refine ycn (call_val rfl Try.func50 rfl (by kernel_rfl) rfl) hE rfl rfl rfl ?_ ?_; (· (exact to_)))
        repeat' (refine ycf ?_;(first|(first|(apply ybm;(·(first|(first|exact tk_|(apply yad;(·rfl);(·exact helx _ (row_cells 0 rfl));(·exact hxl))|(apply yad;(·rfl);(·exact hely _ (row_cells 0 rfl));(·exact hyl)))|exact tq_));(·rfl);(·rfl);(·(exact th_)))|refine ybl rfl rfl ?_|((fail_if_success (refine ybi rfl ?_));refine ybj rfl ?_ ?_<;>(intro ht;rw [ht];first|replace ht := of_decide_eq_true ht|replace ht := of_decide_eq_false ht|skip))|(refine tb_ ?_ ?_ ?_;(·(exact to_));(·intro _;(exact to_));intro _)|(first|(refine rx_rowstore 0 rfl rfl rfl (sbc_sz x') (by rw [sbc_sz];omega) (sbc_one ox'.1 ox'.2) (spl_flat (j := K) (by omega) (by omega)) rfl rfl ?_ ?_ ?_;(·(exact to_));(·(exact to_)))|(refine tqs_ ?_ ?_ ?_;(·(exact to_));(·(exact to_))))|(apply ybn;(·(first|(first|exact tk_|(apply yad;(·rfl);(·exact helx _ (row_cells 0 rfl));(·exact hxl))|(apply yad;(·rfl);(·exact hely _ (row_cells 0 rfl));(·exact hyl)))|exact tq_));(·rfl);(·rfl);(·rfl);(·(exact to_))))|refine ycg ?_))
        repeat' (first|(refine ycf ?_;apply ybk;(·first|(first|exact tk_|(apply yad;(·rfl);(·exact helx _ (row_cells 0 rfl));(·exact hxl))|(apply yad;(·rfl);(·exact hely _ (row_cells 0 rfl));(·exact hyl))));(·rfl);(·rfl))|(refine rx_rowstore 0 rfl rfl rfl (sbc_sz x') (by rw [sbc_sz];omega) (sbc_one ox'.1 ox'.2) (spl_flat (j := K) (by omega) (by omega)) rfl rfl ?_ ?_ ?_;(·(exact to_));(·(exact to_)))|refine t1_ ?_|(refine ta_ ?_;intro _)|((fail_if_success (refine ybi rfl ?_));refine ybj rfl ?_ ?_<;>(intro ht;rw [ht];first|replace ht := of_decide_eq_true ht|replace ht := of_decide_eq_false ht|skip))|(refine ych ?_;first|(refine ybw rfl ?_ ?_<;>intro ht)|(refine ybx rfl ?_ ?_<;>intro ht)))
        refine nx_round (k + 1) ⟨by omega, by omega, ?_⟩ (by omega) ts_ (fun _ s => s)
        rw [hstep, if_neg hxy, hdd]
        obtain ⟨hkl, rfl⟩ := List.getElem?_eq_some_iff.1 hx
        exact (List.take_succ_eq_append_getElem hkl).symm
    · have hk2 : k = m := by omega
      subst hk2
      repeat' (first | (refine ycf ?_; apply ybk; (· first | (exact tk_)); (· rfl); (· rfl)) | (refine rx_rowstore 0 rfl rfl rfl (sbc_sz x') (by rw [sbc_sz]; omega) (sbc_one ox'.1 ox'.2) (spl_flat (j := K) (by omega) (by omega)) rfl rfl ?_ ?_ ?_; (· (exact to_)); (· (exact to_))) | refine t1_ ?_ | (refine ta_ ?_; intro _) | ((fail_if_success (refine ybi rfl ?_)); refine ybj rfl ?_ ?_ <;> (intro ht; rw [ht]; first | replace ht := of_decide_eq_true ht | replace ht := of_decide_eq_false ht | skip)) | (refine ych ?_; first | (refine ybw rfl ?_ ?_ <;> intro ht) | (refine ybx rfl ?_ ?_ <;> intro ht)))
      refine nx_ret1 rfl (rv_tmp rfl) (fun w' s' => ⟨_, rfl, ?_, trivial⟩)
      rw [hdd, List.take_of_length_le (by omega)]
      show St _ _ [Res.row _ _ _ l.length _] _
      rw [hm]
      exact s'
end Go.Proofs.Ytkkjppeaaicgaaa
end

section
namespace Go.Proofs.Ytkkjppeaaicgaaa
open Go Go.Ck
set_option maxRecDepth 100000
set_option maxHeartbeats 4000000
set_option linter.unusedVariables false

theorem sbc_more (x : Sb) : (sbc x)[18]? = some x.mv := by
  show (cxc x.u x.mv ++ [x.bv])[16]? = _
  rw [List.getElem?_append_left (by rw [ycj x.hu]; omega)]
  exact cxc_more x.hu
theorem sb_more {h : View} {L : List Res} {b : Nat} {x : Sb} {v : Value} (c : Cells h L ⟨b, 0, none⟩ (sbc x)) (e : x.mv = v) : CellAt h L b (0 + 2 + 16) v := by
  subst e
  exact c.cell (j := 18) (sbc_more x)
theorem sb_body0 {h : View} {L : List Res} {b : Nat} {x : Sb} {v : Value} (c : Cells h L ⟨b, 0, none⟩ (sbc x)) (e : x.bv = v) : CellAt h L b (0 + 19) v := sb_body' c e
theorem spl_more_s {x : Sb} {v : Value} : spl (sbc x) (0 + 2 + 16) [v] = sbc { x with mv := v } := by
  obtain ⟨a0, a1, a2, a3, a4, a5, a6, a7, a8, a9, a10, a11, a12, a13, a14, a15, e⟩ := list16 x.u x.hu
  unfold sbc spl
  simp only [e, cxc, up]
  rfl
theorem spl_body_s {x : Sb} {v : Value} : spl (sbc x) (0 + 19) [v] = sbc { x with bv := v } := by
  obtain ⟨a0, a1, a2, a3, a4, a5, a6, a7, a8, a9, a10, a11, a12, a13, a14, a15, e⟩ := list16 x.u x.hu
  unfold sbc spl
  simp only [e, cxc, up]
  rfl

theorem sbv_fit {x : Sb} {o : Nat} (h : o ≤ 19) : o + 1 ≤ (sbc x).toArray.size := by
  have := sbc_len x
  simp
  omega
theorem copied_sp (y : Sb) (h : View) (hy : Sv h y) (hl : y.l.length ≤ 1000000) (hb : y.b.length ≤ 1000000) (w : World) (s : St ⟨w, h, []⟩ h [] w) :
    Calls Try.prog 51 [sbv y].toArray w fun e w' => ∃ z : View × Sb, e = .returned (sbv z.2) ∧ St ⟨w, h, []⟩ z.1 [] w' ∧ Sv z.1 z.2 ∧ z.2.a = y.a := by
  refine calls_enter Try.func51 rfl Try.ntmps51 rfl s ?_
  repeat' (first | (refine ycf ?_; apply ybk; (· first | (apply yae; (· rfl); (· (first | exact sb_more (yaz 0 rfl) rfl | exact sb_more (yaz 1 rfl) rfl | exact sb_body0 (yaz 0 rfl) rfl | exact sb_body0 (yaz 1 rfl) rfl)))); (· rfl); (· rfl)) | refine t1_ ?_ | (refine ta_ ?_; intro _) | ((fail_if_success (refine ybi rfl ?_)); refine ybj rfl ?_ ?_ <;> (intro ht; rw [ht]; first | replace ht := of_decide_eq_true ht | replace ht := of_decide_eq_false ht | skip)) | (refine ych ?_; first | (refine ybw rfl ?_ ?_ <;> intro ht) | (refine ybx rfl ?_ ?_ <;> intro ht)))
  (refine yco (ycp Try.func63 rfl (by kernel_rfl) rfl) (clone_sp y.mv y.l h hy.ds hl) rfl rfl rfl ?_ ?_ ?_; (· (exact to_)); (· intro _ _ hle; (exact to_)); intro x px hle)
  clear px hle
  refine rx_persist rfl fun h1 hle1 hs1 => ?_
  have d1 : Ds h1 x y.l := hs1
  obtain ⟨_, ad1, cap1, rfl, _, _⟩ := id d1
  obtain ⟨y1, hy1⟩ : ∃ y1 : Sb, y1 = { y with mv := .slice ad1 y.l.length cap1 } := ⟨_, rfl⟩
  have e1 : spl (sbc y) (0 + 2 + 16) [.slice ad1 y.l.length cap1] = sbc y1 := by rw [hy1]; exact spl_more_s
  have b1 : y1.bv = y.bv := by rw [hy1]
  repeat' (first | (refine ycf ?_; apply ybk; (· first | (apply yae; (· rfl); (· (first | exact sb_more (yaz 0 rfl) rfl | exact sb_more (yaz 1 rfl) rfl | exact sb_body0 (yaz 0 rfl) rfl | exact sb_body0 (yaz 1 rfl) rfl)))); (· rfl); (· rfl)) | (refine ybg 1 rfl rfl rfl rfl (sbv_fit (by omega)) rfl e1 rfl rfl ?_ ?_ ?_; (· (exact to_)); (· (exact to_))) | refine t1_ ?_ | (refine ta_ ?_; intro _) | ((fail_if_success (refine ybi rfl ?_)); refine ybj rfl ?_ ?_ <;> (intro ht; rw [ht]; first | replace ht := of_decide_eq_true ht | replace ht := of_decide_eq_false ht | skip)) | (refine ych ?_; first | (refine ybw rfl ?_ ?_ <;> intro ht) | (refine ybx rfl ?_ ?_ <;> intro ht)))
  (refine yco (ycp Try.func68 rfl (by kernel_rfl) rfl) (BClone_sp y1.bv y.b h1 (by rw [b1]; exact hy.bs.mono hle1) hb) rfl rfl rfl ?_ ?_ ?_; (· (exact to_)); (· intro _ _ hle; (exact to_)); intro x px hle)
  clear px hle
  refine rx_persist rfl fun h2 hle2 hs2 => ?_
  have d2 : Bs8 h2 x y.b := hs2
  obtain ⟨_, ad2, cap2, rfl, _, _⟩ := id d2
  obtain ⟨y2, hy2⟩ : ∃ y2 : Sb, y2 = { y1 with bv := .slice ad2 y.b.length cap2 } := ⟨_, rfl⟩
  have e2 : spl (sbc y1) (0 + 19) [.slice ad2 y.b.length cap2] = sbc y2 := by rw [hy2]; exact spl_body_s
  have hl2 := sbc_len y2
  repeat' (first|(refine ycf ?_;apply ybk;(·first|(apply yad;(·rfl);(·exact yaz 1 rfl);(·exact hl2))|(apply yae;(·rfl);(·(first|exact sb_more (yaz 0 rfl) rfl|exact sb_more (yaz 1 rfl) rfl|exact sb_body0 (yaz 0 rfl) rfl|exact sb_body0 (yaz 1 rfl) rfl))));(·rfl);(·rfl))|(first|(refine ybg 1 rfl rfl rfl rfl (sbv_fit (by omega)) rfl e2 rfl rfl ?_ ?_ ?_;(·(exact to_));(·(exact to_)))|(refine ybg 0 rfl rfl rfl (sbc_sz y2) (sbc_fit rfl) (sbc_one (by rw [hy2, hy1];rfl) (by rw [hy2];rfl)) (ybh (sbc_all rfl)) rfl rfl ?_ ?_ ?_;(·(exact to_));(·(exact to_))))|refine t1_ ?_|(refine ta_ ?_;intro _)|((fail_if_success (refine ybi rfl ?_));refine ybj rfl ?_ ?_<;>(intro ht;rw [ht];first|replace ht := of_decide_eq_true ht|replace ht := of_decide_eq_false ht|skip))|(refine ych ?_;first|(refine ybw rfl ?_ ?_<;>intro ht)|(refine ybx rfl ?_ ?_<;>intro ht)))
  refine nx_ret1 rfl (rv_cells rfl (yaz 0 rfl) hl2) (fun w' s' => ⟨(h2, y2), rfl, s'.nil, ⟨?_, ?_, ?_⟩, ?_⟩)
  · rw [hy2, hy1]; exact d1.mono hle2
  · rw [hy2, hy1]; exact d2
  · rw [hy2, hy1]; exact hy.by8
  · rw [hy2, hy1]; rfl
end Go.Proofs.Ytkkjppeaaicgaaa
end

section
namespace Go.Proofs.Ytkkjppeaaicgaaa
open Go Go.Ck
set_option maxRecDepth 100000
set_option maxHeartbeats 4000000
set_option linter.unusedVariables false

/-- nobody of these has seen it -/
def freeS (a b : List Ab) (x : Ab) : Bool := !(a.any fun y => hasA y x.1) && !(b.any fun y => hasA y x.1)
/-- what is merged -/
def MergeR (a b : List Sb) (M : List Ab) (e : Int) : Prop :=
  if checkA (a.map Sb.a) ≠ 0 then e = checkA (a.map Sb.a) ∧ M = [] else if checkA (b.map Sb.a) ≠ 0 then e = checkA (b.map Sb.a) ∧ M = []
  else ∃ R, KF (a ++ b) R ∧ SortS R ∧ (if 64 < ((ddk R R.length).filter fun x => freeS (a.map Sb.a) (b.map Sb.a) x.a).length then e = 5 ∧ M = [] else e = 0 ∧ M = ((ddk R R.length).filter fun x => freeS (a.map Sb.a) (b.map Sb.a) x.a).map Sb.a)
/-- siblings of a size that fits -/
def Fits (l : List Sb) : Prop := l.length ≤ 40000 ∧ ∀ x ∈ l, x.l.length ≤ 1000000 ∧ x.b.length ≤ 1000000

theorem insSort_nil (h : View) (w : World) (s : St ⟨w, h, []⟩ h [] w) :
    Calls Try.prog 86 [.slice none 0 0, .int .i64 0, .int .i64 0, ordV].toArray w fun e w' => ∃ x : Value, e = .returned x ∧ St ⟨w, h, []⟩ h [] w' ∧ True := by
  refine calls_enter Try.func86 rfl Try.ntmps86 rfl s ?_
  repeat' (first | (refine ycf ?_; apply ybk; (· first | (exact tk_)); (· rfl); (· rfl)) | refine t1_ ?_ | (refine ta_ ?_; intro _) | ((fail_if_success (refine ybi rfl ?_)); refine ybj rfl ?_ ?_ <;> (intro ht; rw [ht]; first | replace ht := of_decide_eq_true ht | replace ht := of_decide_eq_false ht | skip)) | (refine ych ?_; first | (refine ybw rfl ?_ ?_ <;> intro ht) | (refine ybx rfl ?_ ?_ <;> intro ht)))
  refine cx_loop (X := Unit) (fun _ => [(2, .int .i64 0), (8, .int .i64 1)]) (fun _ => h) (fun _ => []) (fun _ => True) (fun _ => 0) () trivial ts_ (fun _ s => s) ?_
  rintro ⟨⟩ _
  repeat' (first | (refine ycf ?_; apply ybk; (· first | (exact tk_)); (· rfl); (· rfl)) | refine t1_ ?_ | (refine ta_ ?_; intro _) | ((fail_if_success (refine ybi rfl ?_)); refine ybj rfl ?_ ?_ <;> (intro ht; rw [ht]; first | replace ht := of_decide_eq_true ht | replace ht := of_decide_eq_false ht | skip)) | (refine ych ?_; first | (refine ybw rfl ?_ ?_ <;> intro ht) | (refine ybx rfl ?_ ?_ <;> intro ht)))
  exact nx_end0 rfl (fun w' s' => ⟨_, rfl, s', trivial⟩)
theorem stable_nil (h : View) (w : World) (s : St ⟨w, h, []⟩ h [] w) :
    Calls Try.prog 67 [.slice none 0 0, .int .i64 0, ordV].toArray w fun e w' => ∃ x : Value, e = .returned x ∧ St ⟨w, h, []⟩ h [] w' ∧ True := by
  refine calls_enter Try.func67 rfl Try.ntmps67 rfl s ?_
  repeat' (first | (refine ycf ?_; apply ybk; (· first | (exact tk_)); (· rfl); (· rfl)) | refine t1_ ?_ | (refine ta_ ?_; intro _) | ((fail_if_success (refine ybi rfl ?_)); refine ybj rfl ?_ ?_ <;> (intro ht; rw [ht]; first | replace ht := of_decide_eq_true ht | replace ht := of_decide_eq_false ht | skip)) | (refine ych ?_; first | (refine ybw rfl ?_ ?_ <;> intro ht) | (refine ybx rfl ?_ ?_ <;> intro ht)))
  refine cx_loop (X := Unit) (fun _ => [(0, .slice none 0 0), (1, .int .i64 0), (2, ordV), (6, .int .i64 20), (7, .int .i64 0), (8, .int .i64 20)]) (fun _ => h) (fun _ => []) (fun _ => True) (fun _ => 0) () trivial ts_ (fun _ s => s) ?_
  rintro ⟨⟩ _
  repeat' (first | (refine ycf ?_; apply ybk; (· first | (exact tk_)); (· rfl); (· rfl)) | refine t1_ ?_ | (refine ta_ ?_; intro _) | ((fail_if_success (refine ybi rfl ?_)); refine ybj rfl ?_ ?_ <;> (intro ht; rw [ht]; first | replace ht := of_decide_eq_true ht | replace ht := of_decide_eq_false ht | skip)) | (refine ych ?_; first | (refine ybw rfl ?_ ?_ <;> intro ht) | (refine ybx rfl ?_ ?_ <;> intro ht)))
  (refine yco (ycp Try.func86 rfl (by kernel_rfl) rfl) (insSort_nil h) rfl rfl rfl ?_ ?_ ?_; (· (exact to_)); (· intro _ _ hle; (exact to_)); intro x px hle)
  repeat' (first | (refine ycf ?_; apply ybk; (· first | (exact tk_)); (· rfl); (· rfl)) | refine t1_ ?_ | (refine ta_ ?_; intro _) | ((fail_if_success (refine ybi rfl ?_)); refine ybj rfl ?_ ?_ <;> (intro ht; rw [ht]; first | replace ht := of_decide_eq_true ht | replace ht := of_decide_eq_false ht | skip)) | (refine ych ?_; first | (refine ybw rfl ?_ ?_ <;> intro ht) | (refine ybx rfl ?_ ?_ <;> intro ht)))
  refine cx_loop (X := Unit) (fun _ => [(0, .slice none 0 0), (1, .int .i64 0), (2, ordV), (6, .int .i64 20)]) (fun _ => h) (fun _ => []) (fun _ => True) (fun _ => 0) () trivial ts_ (fun _ s => s) ?_
  rintro ⟨⟩ _
  repeat' (first | (refine ycf ?_; apply ybk; (· first | (exact tk_)); (· rfl); (· rfl)) | refine t1_ ?_ | (refine ta_ ?_; intro _) | ((fail_if_success (refine ybi rfl ?_)); refine ybj rfl ?_ ?_ <;> (intro ht; rw [ht]; first | replace ht := of_decide_eq_true ht | replace ht := of_decide_eq_false ht | skip)) | (refine ych ?_; first | (refine ybw rfl ?_ ?_ <;> intro ht) | (refine ybx rfl ?_ ?_ <;> intro ht)))
  exact nx_end0 rfl (fun w' s' => ⟨_, rfl, s', trivial⟩)
theorem sortStable_nil (h : View) (w : World) (s : St ⟨w, h, []⟩ h [] w) :
    Calls Try.prog 48 [.slice none 0 0, ordV].toArray w fun e w' => ∃ x : Value, e = .returned x ∧ St ⟨w, h, []⟩ h [] w' ∧ True := by
  refine calls_enter Try.func48 rfl Try.ntmps48 rfl s ?_
  repeat' (first | (refine ycf ?_; apply ybk; (· first | (exact tk_)); (· rfl); (· rfl)) | refine t1_ ?_ | (refine ta_ ?_; intro _) | ((fail_if_success (refine ybi rfl ?_)); refine ybj rfl ?_ ?_ <;> (intro ht; rw [ht]; first | replace ht := of_decide_eq_true ht | replace ht := of_decide_eq_false ht | skip)) | (refine ych ?_; first | (refine ybw rfl ?_ ?_ <;> intro ht) | (refine ybx rfl ?_ ?_ <;> intro ht)))
  (refine yco (ycp Try.func67 rfl (by kernel_rfl) rfl) (stable_nil h) rfl rfl rfl ?_ ?_ ?_; (· (exact to_)); (· intro _ _ hle; (exact to_)); intro x px hle)
  repeat' (first | (refine ycf ?_; apply ybk; (· first | (exact tk_)); (· rfl); (· rfl)) | refine t1_ ?_ | (refine ta_ ?_; intro _) | ((fail_if_success (refine ybi rfl ?_)); refine ybj rfl ?_ ?_ <;> (intro ht; rw [ht]; first | replace ht := of_decide_eq_true ht | replace ht := of_decide_eq_false ht | skip)) | (refine ych ?_; first | (refine ybw rfl ?_ ?_ <;> intro ht) | (refine ybx rfl ?_ ?_ <;> intro ht)))
  exact nx_end0 rfl (fun w' s' => ⟨_, rfl, s', trivial⟩)
theorem compact_nil (h : View) (w : World) (s : St ⟨w, h, []⟩ h [] w) :
    Calls Try.prog 49 [.slice none 0 0, eqV].toArray w fun e w' => e = .returned (.slice none 0 0) ∧ St ⟨w, h, []⟩ h [] w' := by
  refine calls_enter Try.func49 rfl Try.ntmps49 rfl s ?_
  repeat' (first | (refine ycf ?_; apply ybk; (· first | (exact tk_)); (· rfl); (· rfl)) | refine t1_ ?_ | (refine ta_ ?_; intro _) | ((fail_if_success (refine ybi rfl ?_)); refine ybj rfl ?_ ?_ <;> (intro ht; rw [ht]; first | replace ht := of_decide_eq_true ht | replace ht := of_decide_eq_false ht | skip)) | (refine ych ?_; first | (refine ybw rfl ?_ ?_ <;> intro ht) | (refine ybx rfl ?_ ?_ <;> intro ht)))
  exact nx_ret1 rfl (rv_tmp rfl) (fun w' s' => ⟨rfl, s'.nil⟩)

theorem smerge_sp (va vb : Value) (a b : List Sb) (h : View) (ha : Ss h va a) (hb : Ss h vb b) (fa : Fits a) (fb : Fits b) (w : World) (s : St ⟨w, h, []⟩ h [] w) :
    Calls Try.prog 26 [va, vb].toArray w fun e w' => ∃ z : View × Value × List Sb × Int, e = .returned (.tuple #[z.2.1, .int .i64 z.2.2.2]) ∧ St ⟨w, h, []⟩ z.1 [] w' ∧ Ss z.1 z.2.1 z.2.2.1 ∧ MergeR a b (z.2.2.1.map Sb.a) z.2.2.2 := by
  have CA := scheck_sp va a h ha (by have := fa.1; omega) (fun x hx => by have := (fa.2 x hx).1; omega)
  have CB := scheck_sp vb b h hb (by have := fb.1; omega) (fun x hx => by have := (fb.2 x hx).1; omega)
  have ha0 := ha
  have hb0 := hb
  obtain ⟨_, ad1, cap1, e1, _, _⟩ := id ha.1
  obtain ⟨_, ad2, cap2, e2, _, _⟩ := id hb.1
  subst e1 e2
  refine calls_enter Try.func26 rfl Try.ntmps26 rfl s ?_
  repeat' (first | (refine ycf ?_; apply ybk; (· first | (exact tk_)); (· rfl); (· rfl)) | refine t1_ ?_ | (refine ta_ ?_; intro _) | ((fail_if_success (refine ybi rfl ?_)); refine ybj rfl ?_ ?_ <;> (intro ht; rw [ht]; first | replace ht := of_decide_eq_true ht | replace ht := of_decide_eq_false ht | skip)) | (refine ych ?_; first | (refine ybw rfl ?_ ?_ <;> intro ht) | (refine ybx rfl ?_ ?_ <;> intro ht)))
  rename_i b0
  refine cx_loop (X := Nat) (fun k => [(0, .slice ad1 a.length cap1), (1, .slice ad2 b.length cap2), (4, .slice none 0 0), (5, .int .i64 0), (15, .slice (some ⟨b0, 0, none⟩) 2 2), (16, .int .i64 2), (17, .int .i64 (k : Nat))]) (fun _ => h) (fun _ => [Res.blk b0 (.cells #[.slice ad1 a.length cap1, .slice ad2 b.length cap2] 25 (0, 0))])
    (fun k => k ≤ 2 ∧ (1 ≤ k → checkA (a.map Sb.a) = 0) ∧ (2 ≤ k → checkA (b.map Sb.a) = 0)) (fun k => 2 - k) 0 ⟨by decide, fun hx => absurd hx (by decide), fun hx => absurd hx (by decide)⟩ ts_ (fun _ s => s) ?_
  rintro k ⟨hk, hka, hkb⟩
  by_cases k0 : k = 0
  · subst k0
    by_cases hz : checkA (a.map Sb.a) = 0
    · repeat' (first | (refine ycf ?_; apply ybk; (· first | (exact tk_)); (· rfl); (· rfl)) | refine t1_ ?_ | (refine ta_ ?_; intro _) | ((fail_if_success (refine ybi rfl ?_)); refine ybj rfl ?_ ?_ <;> (intro ht; rw [ht]; first | replace ht := of_decide_eq_true ht | replace ht := of_decide_eq_false ht | skip)) | (refine ych ?_; first | (refine ybw rfl ?_ ?_ <;> intro ht) | (refine ybx rfl ?_ ?_ <;> intro ht)))
      (refine ycn (ycp Try.func12 rfl (by kernel_rfl) rfl) (CA) rfl rfl rfl ?_ ?_; (· (exact to_)))
      repeat' (first | (refine ycf ?_; apply ybk; (· first | (exact tk_)); (· rfl); (· rfl)) | refine t1_ ?_ | (refine ta_ ?_; intro _) | ((fail_if_success (refine ybi rfl ?_)); refine ybj rfl ?_ ?_ <;> (intro ht; rw [ht]; first | replace ht := of_decide_eq_true ht | replace ht := of_decide_eq_false ht | skip)) | (refine ych ?_; first | (refine ybw rfl ?_ ?_ <;> intro ht) | (refine ybx rfl ?_ ?_ <;> intro ht)))
      exact nx_round 1 ⟨by decide, fun _ => hz, fun hx => absurd hx (by decide)⟩ (by decide) ts_ (fun _ s => s)
    · repeat' (first | (refine ycf ?_; apply ybk; (· first | (exact tk_)); (· rfl); (· rfl)) | refine t1_ ?_ | (refine ta_ ?_; intro _) | ((fail_if_success (refine ybi rfl ?_)); refine ybj rfl ?_ ?_ <;> (intro ht; rw [ht]; first | replace ht := of_decide_eq_true ht | replace ht := of_decide_eq_false ht | skip)) | (refine ych ?_; first | (refine ybw rfl ?_ ?_ <;> intro ht) | (refine ybx rfl ?_ ?_ <;> intro ht)))
      (refine ycn (ycp Try.func12 rfl (by kernel_rfl) rfl) (CA) rfl rfl rfl ?_ ?_; (· (exact to_)))
      repeat' (first | (refine ycf ?_; apply ybk; (· first | (exact tk_)); (· rfl); (· rfl)) | refine t1_ ?_ | (refine ta_ ?_; intro _) | ((fail_if_success (refine ybi rfl ?_)); refine ybj rfl ?_ ?_ <;> (intro ht; rw [ht]; first | replace ht := of_decide_eq_true ht | replace ht := of_decide_eq_false ht | skip)) | (refine ych ?_; first | (refine ybw rfl ?_ ?_ <;> intro ht) | (refine ybx rfl ?_ ?_ <;> intro ht)))
      refine nx_ret2 rfl (rv_tmp rfl) (rv_tmp rfl) (fun w' s' => ⟨(h, .slice none 0 0, [], checkA (a.map Sb.a)), rfl, s'.nil, ⟨Sc.nil h 20 none 0, fun x hx => by cases hx⟩, ?_⟩)
      unfold MergeR
      rw [if_pos hz]
      exact ⟨rfl, rfl⟩
  by_cases k1 : k = 1
  · subst k1
    have hza := hka (by decide)
    by_cases hz : checkA (b.map Sb.a) = 0
    · repeat' (first | (refine ycf ?_; apply ybk; (· first | (exact tk_)); (· rfl); (· rfl)) | refine t1_ ?_ | (refine ta_ ?_; intro _) | ((fail_if_success (refine ybi rfl ?_)); refine ybj rfl ?_ ?_ <;> (intro ht; rw [ht]; first | replace ht := of_decide_eq_true ht | replace ht := of_decide_eq_false ht | skip)) | (refine ych ?_; first | (refine ybw rfl ?_ ?_ <;> intro ht) | (refine ybx rfl ?_ ?_ <;> intro ht)))
      (refine ycn (ycp Try.func12 rfl (by kernel_rfl) rfl) (CB) rfl rfl rfl ?_ ?_; (· (exact to_)))
      repeat' (first | (refine ycf ?_; apply ybk; (· first | (exact tk_)); (· rfl); (· rfl)) | refine t1_ ?_ | (refine ta_ ?_; intro _) | ((fail_if_success (refine ybi rfl ?_)); refine ybj rfl ?_ ?_ <;> (intro ht; rw [ht]; first | replace ht := of_decide_eq_true ht | replace ht := of_decide_eq_false ht | skip)) | (refine ych ?_; first | (refine ybw rfl ?_ ?_ <;> intro ht) | (refine ybx rfl ?_ ?_ <;> intro ht)))
      exact nx_round 2 ⟨by decide, fun _ => hza, fun _ => hz⟩ (by decide) ts_ (fun _ s => s)
    · repeat' (first | (refine ycf ?_; apply ybk; (· first | (exact tk_)); (· rfl); (· rfl)) | refine t1_ ?_ | (refine ta_ ?_; intro _) | ((fail_if_success (refine ybi rfl ?_)); refine ybj rfl ?_ ?_ <;> (intro ht; rw [ht]; first | replace ht := of_decide_eq_true ht | replace ht := of_decide_eq_false ht | skip)) | (refine ych ?_; first | (refine ybw rfl ?_ ?_ <;> intro ht) | (refine ybx rfl ?_ ?_ <;> intro ht)))
      (refine ycn (ycp Try.func12 rfl (by kernel_rfl) rfl) (CB) rfl rfl rfl ?_ ?_; (· (exact to_)))
      repeat' (first | (refine ycf ?_; apply ybk; (· first | (exact tk_)); (· rfl); (· rfl)) | refine t1_ ?_ | (refine ta_ ?_; intro _) | ((fail_if_success (refine ybi rfl ?_)); refine ybj rfl ?_ ?_ <;> (intro ht; rw [ht]; first | replace ht := of_decide_eq_true ht | replace ht := of_decide_eq_false ht | skip)) | (refine ych ?_; first | (refine ybw rfl ?_ ?_ <;> intro ht) | (refine ybx rfl ?_ ?_ <;> intro ht)))
      refine nx_ret2 rfl (rv_tmp rfl) (rv_tmp rfl) (fun w' s' => ⟨(h, .slice none 0 0, [], checkA (b.map Sb.a)), rfl, s'.nil, ⟨Sc.nil h 20 none 0, fun x hx => by cases hx⟩, ?_⟩)
      unfold MergeR
      rw [if_neg (by rw [hza]; decide), if_pos hz]
      exact ⟨rfl, rfl⟩
  have hk2 : k = 2 := by omega
  subst hk2
  have hza := hka (by decide)
  have hzb := hkb (by decide)
  clear hka hkb k0 k1 hk
  repeat' (first | (refine ycf ?_; apply ybk; (· first | (exact tk_)); (· rfl); (· rfl)) | refine t1_ ?_ | (refine ta_ ?_; intro _) | ((fail_if_success (refine ybi rfl ?_)); refine ybj rfl ?_ ?_ <;> (intro ht; rw [ht]; first | replace ht := of_decide_eq_true ht | replace ht := of_decide_eq_false ht | skip)) | (refine ych ?_; first | (refine ybw rfl ?_ ?_ <;> intro ht) | (refine ybx rfl ?_ ?_ <;> intro ht)))
  rename_i b9
  refine rx_rowOf 1 2 2 (by omega) (by unfold maxLen; omega) rfl ?_
  refine rx_persist rfl fun h1 hle1 hs9 => ?_
  have hs9' : Sc h1 1 (.slice (some ⟨b9, 0, none⟩) 2 2) 2 ([((Value.slice ad1 a.length cap1), a), ((Value.slice ad2 b.length cap2), b)].map (·.1)) := hs9
  have ef : flatS [((Value.slice ad1 a.length cap1), a), ((Value.slice ad2 b.length cap2), b)] 2 = a ++ b := by simp [flatS]
  have lenA := fa.1
  have lenB := fb.1
  have hab1 : ∀ p ∈ [((Value.slice ad1 a.length cap1), a), ((Value.slice ad2 b.length cap2), b)], Ss h1 p.1 p.2 := fun p hp => by
    rcases List.mem_cons.1 hp with rfl | hp
    · exact ha.mono hle1
    · rcases List.mem_cons.1 hp with rfl | hp
      · exact hb.mono hle1
      · cases hp
  (refine yco (ycp Try.func47 rfl (by kernel_rfl) rfl) (sConcat_sp _ [((Value.slice ad1 a.length cap1), a), ((Value.slice ad2 b.length cap2), b)] h1 hs9' hab1 (by show (flatS _ 2).length ≤ _; rw [ef]; simp; omega) (by simp)) rfl rfl rfl ?_ ?_ ?_; (· (exact to_)); (· intro _ _ hle; (exact to_)); intro x px hle)
  have ef2 : flatS [((Value.slice ad1 a.length cap1), a), ((Value.slice ad2 b.length cap2), b)] ([((Value.slice ad1 a.length cap1), a), ((Value.slice ad2 b.length cap2), b)].length) = a ++ b := ef
  rw [ef2]
  clear px hle
  iterate 3 (first | (refine ycf ?_; apply ybk; (· first | (exact tk_)); (· rfl); (· rfl)) | refine t1_ ?_ | (refine ta_ ?_; intro _) | ((fail_if_success (refine ybi rfl ?_)); refine ybj rfl ?_ ?_ <;> (intro ht; rw [ht]; first | replace ht := of_decide_eq_true ht | replace ht := of_decide_eq_false ht | skip)) | (refine ych ?_; first | (refine ybw rfl ?_ ?_ <;> intro ht) | (refine ybx rfl ?_ ?_ <;> intro ht)))
  refine ybo ?_
  have hvab : ∀ y ∈ a ++ b, Sv h1 y := fun y hy => by
    rcases List.mem_append.1 hy with hy | hy
    · exact (ha.2 y hy).mono hle1
    · exact (hb.2 y hy).mono hle1
  have oab : Ones (a ++ b) := fun y hy => (hvab y hy).one
  have lab : (a ++ b).length ≤ 100000 := by rw [List.length_append]; omega
  refine cx_cut (X := List Sb) (fun _ => [(0, .slice ad1 a.length cap1), (1, .slice ad2 b.length cap2), (4, .slice none 0 0), (5, .int .i64 0), (9, x)]) (fun _ => h1) (fun R => [Res.row 41 20 x (a ++ b).length (R.flatMap sbc)]) (fun R => KF (a ++ b) R ∧ SortS R) ?_ ?_
  · refine cx_rowform 0 rfl (fun e1 e2 e3 => ?_) ?_
    · subst e1
      have e4 : a ++ b = [] := List.eq_nil_of_length_eq_zero e2
      repeat' (first | (refine ycf ?_; apply ybk; (· first | (exact tk_)); (· rfl); (· rfl)) | refine t1_ ?_ | (refine ta_ ?_; intro _) | ((fail_if_success (refine ybi rfl ?_)); refine ybj rfl ?_ ?_ <;> (intro ht; rw [ht]; first | replace ht := of_decide_eq_true ht | replace ht := of_decide_eq_false ht | skip)) | (refine ych ?_; first | (refine ybw rfl ?_ ?_ <;> intro ht) | (refine ybx rfl ?_ ?_ <;> intro ht)))
      (refine yco (ycp Try.func48 rfl (by kernel_rfl) rfl) (sortStable_nil h1) rfl rfl rfl ?_ ?_ ?_; (· (exact to_)); (· intro _ _ hle; (exact to_)); intro x px hle)
      repeat' (first | (refine ycf ?_; apply ybk; (· first | (exact tk_)); (· rfl); (· rfl)) | refine t1_ ?_ | (refine ta_ ?_; intro _) | ((fail_if_success (refine ybi rfl ?_)); refine ybj rfl ?_ ?_ <;> (intro ht; rw [ht]; first | replace ht := of_decide_eq_true ht | replace ht := of_decide_eq_false ht | skip)) | (refine ych ?_; first | (refine ybw rfl ?_ ?_ <;> intro ht) | (refine ybx rfl ?_ ?_ <;> intro ht)))
      refine nx_cut [] ⟨by rw [e4]; exact KF.refl _, List.Pairwise.nil⟩ ts_ (fun _ s => ?_)
      have s2 : St _ h1 [Res.row 41 20 (.slice none 0 0) (a ++ b).length ((a ++ b).flatMap sbc)] _ := s.keep1
      rw [e3] at s2
      exact s2
    · rintro g cap rfl
      repeat' (first | (refine ycf ?_; apply ybk; (· first | (exact tk_)); (· rfl); (· rfl)) | refine t1_ ?_ | (refine ta_ ?_; intro _) | ((fail_if_success (refine ybi rfl ?_)); refine ybj rfl ?_ ?_ <;> (intro ht; rw [ht]; first | replace ht := of_decide_eq_true ht | replace ht := of_decide_eq_false ht | skip)) | (refine ych ?_; first | (refine ybw rfl ?_ ?_ <;> intro ht) | (refine ybx rfl ?_ ?_ <;> intro ht)))
      (refine rx_call_m (ycp Try.func48 rfl (by kernel_rfl) rfl) (perm_at (k := 0) rfl) (sortStable_sp g cap _ (a ++ b) rfl lab oab h1) rfl rfl rfl ?_ ?_ ?_; (· (exact to_)); (· intro _ _ hle; (exact to_)); intro x px hle)
      repeat' (first | (refine ycf ?_; apply ybk; (· first | (exact tk_)); (· rfl); (· rfl)) | refine t1_ ?_ | (refine ta_ ?_; intro _) | ((fail_if_success (refine ybi rfl ?_)); refine ybj rfl ?_ ?_ <;> (intro ht; rw [ht]; first | replace ht := of_decide_eq_true ht | replace ht := of_decide_eq_false ht | skip)) | (refine ych ?_; first | (refine ybw rfl ?_ ?_ <;> intro ht) | (refine ybx rfl ?_ ?_ <;> intro ht)))
      exact nx_cut x.2 px ts_ (fun _ s => s.keep1)
  rintro R ⟨kR, sR⟩
  have lR := kR.len
  have oR : Ones R := fun y hy => oab y ((kR.mem y).2 hy)
  rw [lR]
  refine yby ?_
  refine ybo ?_
  refine cx_cut (X := Value) (fun y => [(0, .slice ad1 a.length cap1), (1, .slice ad2 b.length cap2), (4, .slice none 0 0), (5, .int .i64 0), (9, y)]) (fun _ => h1) (fun y => [rowX y (ddk R R.length)]) (fun y => True) ?_ ?_
  · refine cx_rowform 0 rfl (fun e1 e2 e3 => ?_) ?_
    · subst e1
      have e4 : R = [] := List.eq_nil_of_length_eq_zero e2
      repeat' (first | (refine ycf ?_; apply ybk; (· first | (exact tk_)); (· rfl); (· rfl)) | refine t1_ ?_ | (refine ta_ ?_; intro _) | ((fail_if_success (refine ybi rfl ?_)); refine ybj rfl ?_ ?_ <;> (intro ht; rw [ht]; first | replace ht := of_decide_eq_true ht | replace ht := of_decide_eq_false ht | skip)) | (refine ych ?_; first | (refine ybw rfl ?_ ?_ <;> intro ht) | (refine ybx rfl ?_ ?_ <;> intro ht)))
      (refine ycn (ycp Try.func49 rfl (by kernel_rfl) rfl) (compact_nil h1) rfl rfl rfl ?_ ?_; (· (exact to_)))
      repeat' (first | (refine ycf ?_; apply ybk; (· first | (exact tk_)); (· rfl); (· rfl)) | refine t1_ ?_ | (refine ta_ ?_; intro _) | ((fail_if_success (refine ybi rfl ?_)); refine ybj rfl ?_ ?_ <;> (intro ht; rw [ht]; first | replace ht := of_decide_eq_true ht | replace ht := of_decide_eq_false ht | skip)) | (refine ych ?_; first | (refine ybw rfl ?_ ?_ <;> intro ht) | (refine ybx rfl ?_ ?_ <;> intro ht)))
      refine nx_cut (.slice none 0 0) trivial ts_ (fun _ s => ?_)
      subst e4
      exact s
    · rintro g cap rfl
      repeat' (first | (refine ycf ?_; apply ybk; (· first | (exact tk_)); (· rfl); (· rfl)) | refine t1_ ?_ | (refine ta_ ?_; intro _) | ((fail_if_success (refine ybi rfl ?_)); refine ybj rfl ?_ ?_ <;> (intro ht; rw [ht]; first | replace ht := of_decide_eq_true ht | replace ht := of_decide_eq_false ht | skip)) | (refine ych ?_; first | (refine ybw rfl ?_ ?_ <;> intro ht) | (refine ybx rfl ?_ ?_ <;> intro ht)))
      (refine rx_call_m (ycp Try.func49 rfl (by kernel_rfl) rfl) (perm_at (k := 0) rfl) (compact_sp g cap _ R rfl (by omega) oR h1) rfl rfl rfl ?_ ?_ ?_; (· (exact to_)); (· intro _ _ hle; (exact to_)); intro x px hle)
      repeat' (first | (refine ycf ?_; apply ybk; (· first | (exact tk_)); (· rfl); (· rfl)) | refine t1_ ?_ | (refine ta_ ?_; intro _) | ((fail_if_success (refine ybi rfl ?_)); refine ybj rfl ?_ ?_ <;> (intro ht; rw [ht]; first | replace ht := of_decide_eq_true ht | replace ht := of_decide_eq_false ht | skip)) | (refine ych ?_; first | (refine ybw rfl ?_ ?_ <;> intro ht) | (refine ybx rfl ?_ ?_ <;> intro ht)))
      exact nx_cut x trivial ts_ (fun _ s => s)
  rintro va _
  repeat' (first | (refine ycf ?_; apply ybk; (· first | (exact tk_)); (· rfl); (· rfl)) | refine t1_ ?_ | (refine ta_ ?_; intro _) | ((fail_if_success (refine ybi rfl ?_)); refine ybj rfl ?_ ?_ <;> (intro ht; rw [ht]; first | replace ht := of_decide_eq_true ht | replace ht := of_decide_eq_false ht | skip)) | (refine ych ?_; first | (refine ybw rfl ?_ ?_ <;> intro ht) | (refine ybx rfl ?_ ?_ <;> intro ht)))
  refine rx_rowslice 0 rfl fun ad cap hva => ?_
  subst hva
  obtain ⟨D, hD⟩ : ∃ D, D = ddk R R.length := ⟨_, rfl⟩
  have hDR : ∀ y ∈ D, y ∈ R := fun y hy => by
    rw [hD] at hy
    obtain ⟨i, _, hi⟩ := List.mem_filterMap.1 hy
    split at hi
    · cases hi
    · exact List.mem_of_getElem? hi
  have hDl : D.length ≤ 100000 := by
    have : D.length ≤ (List.range R.length).length := by rw [hD]; exact List.length_filterMap_le ..
    rw [List.length_range] at this
    omega
  rw [← hD]
  refine rx_persist rfl fun h2 hle2 hs2 => ?_
  have hle02 : Le h h2 := hle1.trans hle2
  repeat' (first | (refine ycf ?_; apply ybk; (· first | (exact tk_)); (· rfl); (· rfl)) | refine t1_ ?_ | (refine ta_ ?_; intro _) | ((fail_if_success (refine ybi rfl ?_)); refine ybj rfl ?_ ?_ <;> (intro ht; rw [ht]; first | replace ht := of_decide_eq_true ht | replace ht := of_decide_eq_false ht | skip)) | (refine ych ?_; first | (refine ybw rfl ?_ ?_ <;> intro ht) | (refine ybx rfl ?_ ?_ <;> intro ht)))
  refine cx_row 41 20 ?_
  refine cx_loop (X := Nat × View × Value × List Sb) (fun y => [(0, .slice ad1 a.length cap1), (1, .slice ad2 b.length cap2), (4, .slice none 0 0), (5, .int .i64 0), (10, y.2.2.1), (35, .slice ad D.length cap), (36, .int .i64 D.length), (37, .int .i64 (y.1 : Nat))]) (fun y => y.2.1) (fun y => [rowX y.2.2.1 y.2.2.2])
    (fun y => y.1 ≤ D.length ∧ Le h2 y.2.1 ∧ (∀ o ∈ y.2.2.2, Sv y.2.1 o) ∧ y.2.2.2.map Sb.a = ((D.take y.1).filter fun x => freeS (a.map Sb.a) (b.map Sb.a) x.a).map Sb.a) (fun y => D.length - y.1) (0, h2, .slice none 0 0, [])
    ⟨Nat.zero_le _, Le.refl _, fun o ho => (by cases ho), rfl⟩ ts_ (fun _ s => s) ?_
  rintro ⟨k, hk, vo, O⟩ ⟨p1, p2, p3, p4⟩
  dsimp only at p1 p2 p3 p4 ⊢
  have hOl : O.length ≤ k := by
    have := congrArg List.length p4
    rw [List.length_map, List.length_map] at this
    rw [this]
    exact Nat.le_trans (List.length_filter_le ..) (by simp; omega)
  by_cases hkl : k < D.length
  · obtain ⟨bs, o, rfl⟩ := hs2.ad (by omega) (by omega)
    have hs3 := hs2.mono p2
    have hle0k : Le h hk := hle02.trans p2
    have hel : ∀ L, Cells hk L ⟨bs, o + k * 20, none⟩ (sbc D[k]) := fun L => hs3.elem sbc_len k hkl
    have hxv : Sv hk D[k] := (hvab _ ((kR.mem _).2 (hDR _ (List.getElem_mem hkl)))).mono (hle2.trans p2)
    have hxlim : D[k].l.length ≤ 1000000 ∧ D[k].b.length ≤ 1000000 := by
      rcases List.mem_append.1 ((kR.mem _).2 (hDR _ (List.getElem_mem hkl))) with hy | hy
      · exact fa.2 _ hy
      · exact fb.2 _ hy
    have htk : D.take (k + 1) = D.take k ++ [D[k]] := List.take_succ_eq_append_getElem hkl
    have SA := seen_sp (.slice ad1 a.length cap1) a D[k].d hk (ha.mono hle0k) (by omega) (fun y hy => by have := (fa.2 y hy).1; omega)
    have SB := seen_sp (.slice ad2 b.length cap2) b D[k].d hk (hb.mono hle0k) (by omega) (fun y hy => by have := (fb.2 y hy).1; omega)
    have hfr : freeS (a.map Sb.a) (b.map Sb.a) D[k].a = (!(a.any fun y => hasA y.a D[k].d) && !(b.any fun y => hasA y.a D[k].d)) := by
      unfold freeS
      rw [List.any_map, List.any_map]
      rfl
    have p4' : ((D.take (k + 1)).filter fun x => freeS (a.map Sb.a) (b.map Sb.a) x.a).map Sb.a = O.map Sb.a ++ (if freeS (a.map Sb.a) (b.map Sb.a) D[k].a = true then [D[k].a] else []) := by
      rw [htk, List.filter_append, List.map_append, ← p4]
      congr 1
      by_cases hf : freeS (a.map Sb.a) (b.map Sb.a) D[k].a = true
      · simp [hf]
      · simp [hf]
    clear htk
    generalize D[k] = e0 at hel hxv hxlim SA SB hfr p4'
    have hxl := sbc_len e0
    cases hA : (a.any fun y => hasA y.a e0.d) with
    | true =>
      rw [hA] at SA hfr
      repeat' (first|(refine ycf ?_;apply ybk;(·first|(first|exact tk_|(apply yad;(·rfl);(·exact hel _);(·exact hxl))|(apply yad;(·rfl);(·exact yaz 0 rfl);(·exact hxl))|(apply yad;(·rfl);(·exact sb_dot (yaz 0 rfl));(·rfl))));(·rfl);(·rfl))|(refine ybg 0 rfl rfl rfl (sbc_sz e0) (sbc_fit rfl) (sbc_one hxv.one.1 hxv.one.2) (ybh (sbc_all rfl)) rfl rfl ?_ ?_ ?_;(·(exact to_));(·(exact to_)))|refine t1_ ?_|(refine ta_ ?_;intro _)|((fail_if_success (refine ybi rfl ?_));refine ybj rfl ?_ ?_<;>(intro ht;rw [ht];first|replace ht := of_decide_eq_true ht|replace ht := of_decide_eq_false ht|skip))|(refine ych ?_;first|(refine ybw rfl ?_ ?_<;>intro ht)|(refine ybx rfl ?_ ?_<;>intro ht)))
      (refine ycn (ycp Try.func35 rfl (by kernel_rfl) rfl) (SA) rfl rfl rfl ?_ ?_; (· (exact to_)))
      repeat' (first|(refine ycf ?_;apply ybk;(·first|(first|exact tk_|(apply yad;(·rfl);(·exact hel _);(·exact hxl))|(apply yad;(·rfl);(·exact yaz 0 rfl);(·exact hxl))|(apply yad;(·rfl);(·exact sb_dot (yaz 0 rfl));(·rfl))));(·rfl);(·rfl))|(refine ybg 0 rfl rfl rfl (sbc_sz e0) (sbc_fit rfl) (sbc_one hxv.one.1 hxv.one.2) (ybh (sbc_all rfl)) rfl rfl ?_ ?_ ?_;(·(exact to_));(·(exact to_)))|refine t1_ ?_|(refine ta_ ?_;intro _)|((fail_if_success (refine ybi rfl ?_));refine ybj rfl ?_ ?_<;>(intro ht;rw [ht];first|replace ht := of_decide_eq_true ht|replace ht := of_decide_eq_false ht|skip))|(refine ych ?_;first|(refine ybw rfl ?_ ?_<;>intro ht)|(refine ybx rfl ?_ ?_<;>intro ht)))
      refine nx_round (k + 1, hk, vo, O) ⟨by show k + 1 ≤ _; omega, p2, p3, ?_⟩ (by show D.length - (k + 1) < D.length - k; omega) ts_ (fun _ s => s.tl)
      dsimp only
      rw [p4', hfr]
      simp
    | false =>
      rw [hA] at SA hfr
      cases hB : (b.any fun y => hasA y.a e0.d) with
      | true =>
        rw [hB] at SB hfr
        repeat' (first|(refine ycf ?_;apply ybk;(·first|(first|exact tk_|(apply yad;(·rfl);(·exact hel _);(·exact hxl))|(apply yad;(·rfl);(·exact yaz 0 rfl);(·exact hxl))|(apply yad;(·rfl);(·exact sb_dot (yaz 0 rfl));(·rfl))));(·rfl);(·rfl))|(refine ybg 0 rfl rfl rfl (sbc_sz e0) (sbc_fit rfl) (sbc_one hxv.one.1 hxv.one.2) (ybh (sbc_all rfl)) rfl rfl ?_ ?_ ?_;(·(exact to_));(·(exact to_)))|refine t1_ ?_|(refine ta_ ?_;intro _)|((fail_if_success (refine ybi rfl ?_));refine ybj rfl ?_ ?_<;>(intro ht;rw [ht];first|replace ht := of_decide_eq_true ht|replace ht := of_decide_eq_false ht|skip))|(refine ych ?_;first|(refine ybw rfl ?_ ?_<;>intro ht)|(refine ybx rfl ?_ ?_<;>intro ht)))
        (refine ycn (ycp Try.func35 rfl (by kernel_rfl) rfl) (SA) rfl rfl rfl ?_ ?_; (· (exact to_)))
        repeat' (first|(refine ycf ?_;apply ybk;(·first|(first|exact tk_|(apply yad;(·rfl);(·exact hel _);(·exact hxl))|(apply yad;(·rfl);(·exact yaz 0 rfl);(·exact hxl))|(apply yad;(·rfl);(·exact sb_dot (yaz 0 rfl));(·rfl))));(·rfl);(·rfl))|(refine ybg 0 rfl rfl rfl (sbc_sz e0) (sbc_fit rfl) (sbc_one hxv.one.1 hxv.one.2) (ybh (sbc_all rfl)) rfl rfl ?_ ?_ ?_;(·(exact to_));(·(exact to_)))|refine t1_ ?_|(refine ta_ ?_;intro _)|((fail_if_success (refine ybi rfl ?_));refine ybj rfl ?_ ?_<;>(intro ht;rw [ht];first|replace ht := of_decide_eq_true ht|replace ht := of_decide_eq_false ht|skip))|(refine ych ?_;first|(refine ybw rfl ?_ ?_<;>intro ht)|(refine ybx rfl ?_ ?_<;>intro ht)))
        (refine ycn (ycp Try.func35 rfl (by kernel_rfl) rfl) (SB) rfl rfl rfl ?_ ?_; (· (exact to_)))
        repeat' (first|(refine ycf ?_;apply ybk;(·first|(first|exact tk_|(apply yad;(·rfl);(·exact hel _);(·exact hxl))|(apply yad;(·rfl);(·exact yaz 0 rfl);(·exact hxl))|(apply yad;(·rfl);(·exact sb_dot (yaz 0 rfl));(·rfl))));(·rfl);(·rfl))|(refine ybg 0 rfl rfl rfl (sbc_sz e0) (sbc_fit rfl) (sbc_one hxv.one.1 hxv.one.2) (ybh (sbc_all rfl)) rfl rfl ?_ ?_ ?_;(·(exact to_));(·(exact to_)))|refine t1_ ?_|(refine ta_ ?_;intro _)|((fail_if_success (refine ybi rfl ?_));refine ybj rfl ?_ ?_<;>(intro ht;rw [ht];first|replace ht := of_decide_eq_true ht|replace ht := of_decide_eq_false ht|skip))|(refine ych ?_;first|(refine ybw rfl ?_ ?_<;>intro ht)|(refine ybx rfl ?_ ?_<;>intro ht)))
        refine nx_round (k + 1, hk, vo, O) ⟨by show k + 1 ≤ _; omega, p2, p3, ?_⟩ (by show D.length - (k + 1) < D.length - k; omega) ts_ (fun _ s => s.tl)
        dsimp only
        rw [p4', hfr]
        simp
      | false =>
        rw [hB] at SB hfr
        repeat' (first|(refine ycf ?_;apply ybk;(·first|(first|exact tk_|(apply yad;(·rfl);(·exact hel _);(·exact hxl))|(apply yad;(·rfl);(·exact yaz 0 rfl);(·exact hxl))|(apply yad;(·rfl);(·exact sb_dot (yaz 0 rfl));(·rfl))));(·rfl);(·rfl))|(refine ybg 0 rfl rfl rfl (sbc_sz e0) (sbc_fit rfl) (sbc_one hxv.one.1 hxv.one.2) (ybh (sbc_all rfl)) rfl rfl ?_ ?_ ?_;(·(exact to_));(·(exact to_)))|refine t1_ ?_|(refine ta_ ?_;intro _)|((fail_if_success (refine ybi rfl ?_));refine ybj rfl ?_ ?_<;>(intro ht;rw [ht];first|replace ht := of_decide_eq_true ht|replace ht := of_decide_eq_false ht|skip))|(refine ych ?_;first|(refine ybw rfl ?_ ?_<;>intro ht)|(refine ybx rfl ?_ ?_<;>intro ht)))
        (refine ycn (ycp Try.func35 rfl (by kernel_rfl) rfl) (SA) rfl rfl rfl ?_ ?_; (· (exact to_)))
        repeat' (first|(refine ycf ?_;apply ybk;(·first|(first|exact tk_|(apply yad;(·rfl);(·exact hel _);(·exact hxl))|(apply yad;(·rfl);(·exact yaz 0 rfl);(·exact hxl))|(apply yad;(·rfl);(·exact sb_dot (yaz 0 rfl));(·rfl))));(·rfl);(·rfl))|(refine ybg 0 rfl rfl rfl (sbc_sz e0) (sbc_fit rfl) (sbc_one hxv.one.1 hxv.one.2) (ybh (sbc_all rfl)) rfl rfl ?_ ?_ ?_;(·(exact to_));(·(exact to_)))|refine t1_ ?_|(refine ta_ ?_;intro _)|((fail_if_success (refine ybi rfl ?_));refine ybj rfl ?_ ?_<;>(intro ht;rw [ht];first|replace ht := of_decide_eq_true ht|replace ht := of_decide_eq_false ht|skip))|(refine ych ?_;first|(refine ybw rfl ?_ ?_<;>intro ht)|(refine ybx rfl ?_ ?_<;>intro ht)))
        (refine ycn (ycp Try.func35 rfl (by kernel_rfl) rfl) (SB) rfl rfl rfl ?_ ?_; (· (exact to_)))
        repeat' (first|(refine ycf ?_;apply ybk;(·first|(first|exact tk_|(apply yad;(·rfl);(·exact hel _);(·exact hxl))|(apply yad;(·rfl);(·exact yaz 0 rfl);(·exact hxl))|(apply yad;(·rfl);(·exact sb_dot (yaz 0 rfl));(·rfl))));(·rfl);(·rfl))|(refine ybg 0 rfl rfl rfl (sbc_sz e0) (sbc_fit rfl) (sbc_one hxv.one.1 hxv.one.2) (ybh (sbc_all rfl)) rfl rfl ?_ ?_ ?_;(·(exact to_));(·(exact to_)))|refine t1_ ?_|(refine ta_ ?_;intro _)|((fail_if_success (refine ybi rfl ?_));refine ybj rfl ?_ ?_<;>(intro ht;rw [ht];first|replace ht := of_decide_eq_true ht|replace ht := of_decide_eq_false ht|skip))|(refine ych ?_;first|(refine ybw rfl ?_ ?_<;>intro ht)|(refine ybx rfl ?_ ?_<;>intro ht)))
        rename_i b12
        (refine yco (ycp Try.func51 rfl (by kernel_rfl) rfl) (copied_sp e0 hk hxv hxlim.1 hxlim.2) rfl rfl rfl ?_ ?_ ?_; (· (exact to_)); (· intro _ _ hle; (exact to_)); intro x px hle)
        obtain ⟨h3, z⟩ := x
        replace hle : Le hk h3 := hle
        obtain ⟨hz, hza'⟩ := px
        dsimp only at hz hza'
        have hzl := sbc_len z
        refine yba (ybd rfl rfl rfl (ybe rfl (sbc_sz z))) rfl rfl rfl ybf (fun _ => ybf) ?_
        intro b13
        refine rx_append (sz := 20) 2 rfl rfl rfl (yaz 0 rfl) (by show (sbc z).length = 1 * 20; omega) (fun u hu => List.all_eq_true.1 (sbc_one hz.one.1 hz.one.2) u hu) rfl (by omega) (by unfold maxLen; omega) (by omega) rfl rfl rfl ybf (fun _ => ybf) ?_
        intro v3 _
        repeat' (first|(refine ycf ?_;apply ybk;(·first|(first|exact tk_|(apply yad;(·rfl);(·exact hel _);(·exact hxl))|(apply yad;(·rfl);(·exact yaz 0 rfl);(·exact hxl))|(apply yad;(·rfl);(·exact sb_dot (yaz 0 rfl));(·rfl))));(·rfl);(·rfl))|(refine ybg 0 rfl rfl rfl (sbc_sz e0) (sbc_fit rfl) (sbc_one hxv.one.1 hxv.one.2) (ybh (sbc_all rfl)) rfl rfl ?_ ?_ ?_;(·(exact to_));(·(exact to_)))|refine t1_ ?_|(refine ta_ ?_;intro _)|((fail_if_success (refine ybi rfl ?_));refine ybj rfl ?_ ?_<;>(intro ht;rw [ht];first|replace ht := of_decide_eq_true ht|replace ht := of_decide_eq_false ht|skip))|(refine ych ?_;first|(refine ybw rfl ?_ ?_<;>intro ht)|(refine ybx rfl ?_ ?_<;>intro ht)))
        refine nx_round (k + 1, h3, v3, O ++ [z]) ⟨by show k + 1 ≤ _; omega, p2.trans hle, fun o ho => ?_, ?_⟩ (by show D.length - (k + 1) < D.length - k; omega) ts_ (fun _ s => ?_)
        · rcases List.mem_append.1 ho with ho | ho
          · exact (p3 o ho).mono hle
          · rw [List.mem_singleton.1 ho]; exact hz
        · dsimp only
          rw [p4', hfr, List.map_append]
          simp [hza']
        · have s2 := s.tl.tl
          dsimp only
          show St _ h3 [Res.row _ _ v3 (O ++ [z]).length ((O ++ [z]).flatMap sbc)] _
          rw [List.length_append, List.flatMap_append]
          rw [show [z].flatMap sbc = sbc z by simp]
          exact s2
  · have hk2 : k = D.length := by omega
    subst hk2
    rw [List.take_length] at p4
    have hOl2 : O.length = ((D.filter fun x => freeS (a.map Sb.a) (b.map Sb.a) x.a)).length := by
      have := congrArg List.length p4
      rwa [List.length_map, List.length_map] at this
    repeat' (first | (refine ycf ?_; apply ybk; (· first | (exact tk_)); (· rfl); (· rfl)) | (refine ybg 0 rfl rfl rfl (sbc_sz e0) (sbc_fit rfl) (sbc_one hxv.one.1 hxv.one.2) (ybh (sbc_all rfl)) rfl rfl ?_ ?_ ?_; (· (exact to_)); (· (exact to_))) | refine t1_ ?_ | (refine ta_ ?_; intro _) | ((fail_if_success (refine ybi rfl ?_)); refine ybj rfl ?_ ?_ <;> (intro ht; rw [ht]; first | replace ht := of_decide_eq_true ht | replace ht := of_decide_eq_false ht | skip)) | (refine ych ?_; first | (refine ybw rfl ?_ ?_ <;> intro ht) | (refine ybx rfl ?_ ?_ <;> intro ht)))
    refine rx_rowslice 0 rfl fun ad3 cap3 hv3 => ?_
    subst hv3
    refine rx_persist rfl fun h5 hle5 hs5 => ?_
    by_cases h64 : 64 < O.length
    · repeat' (first | (refine ycf ?_; apply ybk; (· first | (exact tk_)); (· rfl); (· rfl)) | (refine ybg 0 rfl rfl rfl (sbc_sz e0) (sbc_fit rfl) (sbc_one hxv.one.1 hxv.one.2) (ybh (sbc_all rfl)) rfl rfl ?_ ?_ ?_; (· (exact to_)); (· (exact to_))) | refine t1_ ?_ | (refine ta_ ?_; intro _) | ((fail_if_success (refine ybi rfl ?_)); refine ybj rfl ?_ ?_ <;> (intro ht; rw [ht]; first | replace ht := of_decide_eq_true ht | replace ht := of_decide_eq_false ht | skip)) | (refine ych ?_; first | (refine ybw rfl ?_ ?_ <;> intro ht) | (refine ybx rfl ?_ ?_ <;> intro ht)))
      refine nx_ret2 rfl (rv_tmp rfl) (rv_tmp rfl) (fun w' s' => ⟨(h5, .slice none 0 0, [], 5), rfl, s'.nil, ⟨Sc.nil h5 20 none 0, fun x hx => by cases hx⟩, ?_⟩)
      unfold MergeR
      rw [if_neg (by rw [hza]; decide), if_neg (by rw [hzb]; decide)]
      refine ⟨R, kR, sR, ?_⟩
      rw [if_pos (by rw [← hD, ← hOl2]; exact h64)]
      exact ⟨rfl, rfl⟩
    · repeat' (first | (refine ycf ?_; apply ybk; (· first | (exact tk_)); (· rfl); (· rfl)) | (refine ybg 0 rfl rfl rfl (sbc_sz e0) (sbc_fit rfl) (sbc_one hxv.one.1 hxv.one.2) (ybh (sbc_all rfl)) rfl rfl ?_ ?_ ?_; (· (exact to_)); (· (exact to_))) | refine t1_ ?_ | (refine ta_ ?_; intro _) | ((fail_if_success (refine ybi rfl ?_)); refine ybj rfl ?_ ?_ <;> (intro ht; rw [ht]; first | replace ht := of_decide_eq_true ht | replace ht := of_decide_eq_false ht | skip)) | (refine ych ?_; first | (refine ybw rfl ?_ ?_ <;> intro ht) | (refine ybx rfl ?_ ?_ <;> intro ht)))
      refine nx_ret2 rfl (rv_tmp rfl) (rv_tmp rfl) (fun w' s' => ⟨(h5, .slice ad3 O.length cap3, O, 0), rfl, s'.nil, ⟨hs5, fun o ho => (p3 o ho).mono hle5⟩, ?_⟩)
      unfold MergeR
      rw [if_neg (by rw [hza]; decide), if_neg (by rw [hzb]; decide)]
      refine ⟨R, kR, sR, ?_⟩
      rw [if_neg (by rw [← hD, ← hOl2]; exact h64), ← hD]
      exact ⟨rfl, p4⟩
end Go.Proofs.Ytkkjppeaaicgaaa
end
