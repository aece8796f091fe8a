/-
  Part 7 of a proof: BitI DotV1 DotR CkEq SbA.
  Conditions: each theorem states its own.
-/
import Derived.Test.YtkkjppeaaicgaaaRpIPM6
section
namespace Go.Proofs.Ytkkjppeaaicgaaa
open Go Go.Ck
set_option maxRecDepth 100000
set_option maxHeartbeats 2000000
set_option linter.unusedVariables false

theorem bstr_take (l : List Int) (k : Nat) : (bstr l).extract 0 k = bstr (l.take k) := by
  apply ByteArray.ext
  rw [ByteArray.data_extract]
  simp [bstr, List.map_take]
theorem bstr_drop (l : List Int) (k : Nat) : (bstr l).extract k (bstr l).size = bstr (l.drop k) := by
  apply ByteArray.ext
  rw [ByteArray.data_extract, bstr_size]
  simp [bstr, List.map_drop]
  exact List.take_of_length_le (by simp)
theorem bstr_at {l : List Int} (hb : Bytes l) {i : Nat} (hi : i < l.length) : ∃ v : UInt8, (bstr l)[i]? = some v ∧ (v.toNat : Int) = l[i] := by
  have hx := hb l[i] (List.getElem_mem _)
  refine ⟨UInt8.ofNat l[i].toNat, ?_, ?_⟩
  · have hs : i < (bstr l).size := by rw [bstr_size]; exact hi
    rw [getElem?_pos (bstr l) i hs]
    show some ((bstr l).data[i]'_) = _
    simp [bstr]
  · rw [UInt8.toNat_ofNat']
    omega

section
variable {P : Program} {n : Nat} {F : List (Nat × Value)} {h : View} {L : List Res} {dst : Option Nat} {ty : Nat} {pos : String} {af : Array Edge} {gd : Option (Nat × Bool)}
theorem qv_at_bstr {T : Nat} {x y : Operand} {l : List Int} {ki : IntKind} {i : Int} {k : Nat} (hb : Bytes l) [tu : TyU P T .string] (hx : ev F x = some (.string (bstr l))) (hy : ev F y = some (.int ki i))
    (hi : i = k) (hk : k < l.length) : QV P n F h L ⟨dst, .index T x y, ty, pos, af, gd⟩ (.int .u8 l[k]) := by
  obtain ⟨v, h1, h2⟩ := bstr_at hb hk
  rw [← h2]
  refine qv_index_str hx hy (by omega) ?_
  subst hi
  exact h1
theorem qv_str_to {T : Nat} {x y : Operand} {l : List Int} {i : Nat} {ki : IntKind} [tu : TyU P T .string] (hx : ev F x = some (.string (bstr l))) (hy : ev F y = some (.int ki i)) (h1 : i ≤ l.length) :
    QV P n F h L ⟨dst, .slice T x none (some y) none, ty, pos, af, gd⟩ (.string (bstr (l.take i))) := .mk fun a w f s => by
  have h2 : i ≤ (bstr l).size := by rw [bstr_size]; exact h1
  simp [execOp, f.ev hx, f.ev hy, Instr.sliceAt, Instr.slice, Instr.sliceBounds, Instr.sliceBound, asIntOf, run_underlying tu.u, h2]
  exact bstr_take l i
theorem qv_str_from {T : Nat} {x y : Operand} {l : List Int} {i : Nat} {ki : IntKind} [tu : TyU P T .string] (hx : ev F x = some (.string (bstr l))) (hy : ev F y = some (.int ki i)) (h1 : i ≤ l.length) :
    QV P n F h L ⟨dst, .slice T x (some y) none none, ty, pos, af, gd⟩ (.string (bstr (l.drop i))) := .mk fun a w f s => by
  have h2 : i ≤ (bstr l).size := by rw [bstr_size]; exact h1
  simp [execOp, f.ev hx, f.ev hy, Instr.sliceAt, Instr.slice, Instr.sliceBounds, Instr.sliceBound, asIntOf, run_underlying tu.u, h2]
  exact bstr_drop l i
theorem qv_len_bstr {x : Operand} {T : Nat} {l : List Int} [tu : TyU P T .string] (hx : ev F x = some (.string (bstr l))) : QV P n F h L ⟨dst, .call ⟨.builtin .len, #[x], #[T]⟩, ty, pos, af, gd⟩ (.int .i64 l.length) := by
  rw [← bstr_size]; exact yar hx
theorem qv_mul' {T T' : Nat} {x y : Operand} {k : IntKind} {i j r : Int} (hx : ev F x = some (.int k i)) (hy : ev F y = some (.int k j)) (hr : k.wrap (i * j) = r) : QV P n F h L ⟨dst, .binOp .mul T x y T', ty, pos, af, gd⟩ (.int k r) := by subst hr; exact qv_mul_w hx hy
theorem qv_add' {T T' : Nat} {x y : Operand} {k : IntKind} {i j r : Int} (hx : ev F x = some (.int k i)) (hy : ev F y = some (.int k j)) (hr : k.wrap (i + j) = r) : QV P n F h L ⟨dst, .binOp .add T x y T', ty, pos, af, gd⟩ (.int k r) := by subst hr; exact qv_add_w hx hy
theorem qv_neq_str {T T' : Nat} {x y : Operand} {a b : ByteArray} {t : Bool} (hx : ev F x = some (.string a)) (hy : ev F y = some (.string b)) (ht : (!(a.toList == b.toList)) = t) :
    QV P n F h L ⟨dst, .binOp .neq T x y T', ty, pos, af, gd⟩ (.bool t) := by
  subst ht
  refine .mk fun ac w f s => ?_
  have hg : (eqGuard .neq T x y (.string a) (.string b)).run P w = .ok () w := by simp [eqGuard]
  simp only [execOp, f.ev hx, f.ev hy, Sem.run_bind, hg, Result.andThen_ok, binOp, Op.stringOp]
  rfl
end

theorem lookC_bad {l : List Int} {size : Nat} {most : Int} (hz : (lookC l size most).2 ≠ 0) : (lookC l size most).1 = 0 := by
  unfold lookC at hz ⊢
  split
  · rfl
  · rename_i h1
    rw [if_neg h1] at hz
    split
    · rfl
    · rename_i h2
      rw [if_neg h2] at hz
      exact absurd rfl hz
theorem lookC_len {l : List Int} {size : Nat} {most : Int} (hz : (lookC l size most).2 = 0) : size ≤ l.length := by
  unfold lookC at hz
  split at hz
  · cases hz
  · omega

theorem bstr_nil {l : List Int} : ((bstr l).toList == (⟨#[]⟩ : ByteArray).toList) = decide (l.length = 0) := by
  rw [ByteArray.toList_eq, ByteArray.toList_eq]
  cases l with
  | nil => rfl
  | cons x l => simp [bstr]

end Go.Proofs.Ytkkjppeaaicgaaa
end

section
namespace Go.Proofs.Ytkkjppeaaicgaaa
open Go Go.Ck
set_option maxRecDepth 100000
set_option maxHeartbeats 1000000
set_option linter.unusedVariables false

theorem refDot_sp (d : Dt) (h : View) (w : World) (s : St ⟨w, h, []⟩ h [] w) :
    Calls Try.prog 88 [dv d].toArray w fun e w' => e = .returned (.bool (rightB d)) ∧ St ⟨w, h, []⟩ h [] w' := by
  refine calls_enter Try.func88 rfl Try.ntmps88 rfl s ?_
  repeat' (first | refine tw_ ?_ | (refine ta_ ?_; intro _) | ((fail_if_success (refine ybi rfl ?_)); refine ybj rfl ?_ ?_ <;> (intro ht; rw [ht]; first | replace ht := of_decide_eq_true ht | replace ht := of_decide_eq_false ht | skip)) | (refine ych ?_; first | (refine ybw rfl ?_ ?_ <;> intro ht) | (refine ybx rfl ?_ ?_ <;> intro ht)))
  all_goals (refine nx_ret1 rfl (rv_tmp rfl) (fun w' s' => ⟨?_, s'.nil⟩))
  all_goals (congr 2; simp [rightB, *])

theorem refHas_sp (cv : Value) (u : List Int) (l : List Dt) (d : Dt) (h : View) (hc : Cx h cv u l) (hl : l.length ≤ 4611686018427387904) (hr : rightB d = true) (w : World) (s : St ⟨w, h, []⟩ h [] w) :
    Calls Try.prog 30 [cv, dv d].toArray w fun e w' => e = .returned (.bool (hasC u l d)) ∧ St ⟨w, h, []⟩ h [] w' := by
  obtain ⟨hu, mv, rfl, hs⟩ := hc
  obtain ⟨_, ad, cap, rfl, hcap, _⟩ := id hs
  have hr' := right_of hr
  refine calls_enter Try.func30 rfl Try.ntmps30 rfl s ?_
  repeat' (first | refine tw_ ?_ | (refine ta_ ?_; intro _) | ((fail_if_success (refine ybi rfl ?_)); refine ybj rfl ?_ ?_ <;> (intro ht; rw [ht]; first | replace ht := of_decide_eq_true ht | replace ht := of_decide_eq_false ht | skip)) | (refine ych ?_; first | (refine ybw rfl ?_ ?_ <;> intro ht) | (refine ybx rfl ?_ ?_ <;> intro ht)))
  refine cx_region_draw' rfl (by kernel_rfl) ?_
  repeat' (refine ycf ?_;(first|(first|(apply ybm;(·(first|(apply yae;(·rfl);(·(first|exact ycl (yaz 1 rfl) (d.1 - 1).toNat (by omega) (by omega)|exact yck (yaz 1 rfl) hu rfl)))|exact tq_));(·rfl);(·rfl);(·(exact th_)))|refine ybl rfl rfl ?_|((fail_if_success (refine ybi rfl ?_));refine ybj rfl ?_ ?_<;>(intro ht;rw [ht];first|replace ht := of_decide_eq_true ht|replace ht := of_decide_eq_false ht|skip))|(refine tb_ ?_ ?_ ?_;(·(exact to_));(·intro _;(exact to_));intro _)|(first|(refine tqs_ ?_ ?_ ?_;(·(exact to_));(·(exact to_))))|(apply ybn;(·(first|(apply yae;(·rfl);(·(first|exact ycl (yaz 1 rfl) (d.1 - 1).toNat (by omega) (by omega)|exact yck (yaz 1 rfl) hu rfl)))|exact tq_));(·rfl);(·rfl);(·rfl);(·(exact to_))))|refine ycg ?_))
  repeat' (first | (refine ycf ?_; apply ybk; (· first | (apply yae; (· rfl); (· (first | exact ycl (yaz 1 rfl) (d.1 - 1).toNat (by omega) (by omega) | exact yck (yaz 1 rfl) hu rfl)))); (· rfl); (· rfl)) | refine t1_ ?_ | (refine ta_ ?_; intro _) | ((fail_if_success (refine ybi rfl ?_)); refine ybj rfl ?_ ?_ <;> (intro ht; rw [ht]; first | replace ht := of_decide_eq_true ht | replace ht := of_decide_eq_false ht | skip)) | (refine ych ?_; first | (refine ybw rfl ?_ ?_ <;> intro ht) | (refine ybx rfl ?_ ?_ <;> intro ht)))
  · have : decide (d.2 ≤ uD u d) = true := decide_eq_true (by unfold uD; assumption)
    exact nx_ret1 rfl (rv_tmp rfl) (fun w' s' => ⟨by simp [hasC, this], s'.nil⟩)
  rename_i b1 b2
  have hf : decide (d.2 ≤ uD u d) = false := decide_eq_false ht
  clear ht
  refine cx_loop (X := Nat) (fun k => [(2, .pointer (some ⟨b1, 0, none⟩)), (3, .pointer (some ⟨b2, 0, none⟩)), (5, .int .i64 k)]) (fun _ => h) (fun _ => _) (fun k => k ≤ l.length ∧ ∀ j (hj : j < l.length), j < k → l[j] ≠ d) (fun k => l.length - k) 0 ⟨by omega, by omega⟩ ts_ (fun _ s => s) ?_
  rintro k ⟨hk, hno⟩
  by_cases hkl : k < l.length
  · obtain ⟨bs, o, rfl⟩ := hs.ad (by omega) (by omega)
    have hel : ∀ L, Cells h L ⟨bs, o + k * 2, none⟩ (dcs l[k]) := fun L => hs.elem dcs_len k hkl
    repeat' (first | (refine ycf ?_; apply ybk; (· first | (apply yae; (· rfl); (· (first | exact ycl (yaz 1 rfl) (d.1 - 1).toNat (by omega) (by omega) | exact yck (yaz 1 rfl) hu rfl)))); (· rfl); (· rfl)) | refine t1_ ?_ | (refine ta_ ?_; intro _) | ((fail_if_success (refine ybi rfl ?_)); refine ybj rfl ?_ ?_ <;> (intro ht; rw [ht]; first | replace ht := of_decide_eq_true ht | replace ht := of_decide_eq_false ht | skip)) | (refine ych ?_; first | (refine ybw rfl ?_ ?_ <;> intro ht) | (refine ybx rfl ?_ ?_ <;> intro ht)))
    · refine cx_region_draw' rfl (by kernel_rfl) ?_
      repeat' (refine ycf ?_;(first|(first|(apply ybm;(·(first|(first|(refine yad rfl (hel _) ?_;rfl)|exact qv_eql_agg rfl rfl (fun w => dot_eq _ _ w))|(apply yae;(·rfl);(·(first|exact ycl (yaz 1 rfl) (d.1 - 1).toNat (by omega) (by omega)|exact yck (yaz 1 rfl) hu rfl)))|exact tq_));(·rfl);(·rfl);(·(exact th_)))|refine ybl rfl rfl ?_|((fail_if_success (refine ybi rfl ?_));refine ybj rfl ?_ ?_<;>(intro ht;rw [ht];first|replace ht := of_decide_eq_true ht|replace ht := of_decide_eq_false ht|skip))|(refine tb_ ?_ ?_ ?_;(·(exact to_));(·intro _;(exact to_));intro _)|(first|(refine tqs_ ?_ ?_ ?_;(·(exact to_));(·(exact to_))))|(apply ybn;(·(first|(first|(refine yad rfl (hel _) ?_;rfl)|exact qv_eql_agg rfl rfl (fun w => dot_eq _ _ w))|(apply yae;(·rfl);(·(first|exact ycl (yaz 1 rfl) (d.1 - 1).toNat (by omega) (by omega)|exact yck (yaz 1 rfl) hu rfl)))|exact tq_));(·rfl);(·rfl);(·rfl);(·(exact to_))))|refine ycg ?_))
      repeat' (first | (refine ycf ?_; apply ybk; (· first | (first | (refine yad rfl (hel _) ?_; rfl) | exact qv_eql_agg rfl rfl (fun w => dot_eq _ _ w)) | (apply yae; (· rfl); (· (first | exact ycl (yaz 1 rfl) (d.1 - 1).toNat (by omega) (by omega) | exact yck (yaz 1 rfl) hu rfl)))); (· rfl); (· rfl)) | refine t1_ ?_ | (refine ta_ ?_; intro _) | ((fail_if_success (refine ybi rfl ?_)); refine ybj rfl ?_ ?_ <;> (intro ht; rw [ht]; first | replace ht := of_decide_eq_true ht | replace ht := of_decide_eq_false ht | skip)) | (refine ych ?_; first | (refine ybw rfl ?_ ?_ <;> intro ht) | (refine ybx rfl ?_ ?_ <;> intro ht)))
      · refine nx_ret1 rfl (rv_tmp rfl) (fun w' s' => ⟨?_, s'.nil⟩)
        have hm : d ∈ l := by rw [← ht]; exact List.getElem_mem hkl
        simp [hasC, hm]
      · refine nx_round (k + 1) ⟨by omega, fun j hj hjk => ?_⟩ (by omega) ts_ (fun _ s => s)
        by_cases hjk' : j = k
        · subst hjk'; exact ht
        · exact hno j hj (by omega)
    · omega
  · repeat' (first | (refine ycf ?_; apply ybk; (· first | (first | (refine yad rfl (hel _) ?_; rfl) | exact qv_eql_agg rfl rfl (fun w => dot_eq _ _ w)) | (apply yae; (· rfl); (· (first | exact ycl (yaz 1 rfl) (d.1 - 1).toNat (by omega) (by omega) | exact yck (yaz 1 rfl) hu rfl)))); (· rfl); (· rfl)) | refine t1_ ?_ | (refine ta_ ?_; intro _) | ((fail_if_success (refine ybi rfl ?_)); refine ybj rfl ?_ ?_ <;> (intro ht; rw [ht]; first | replace ht := of_decide_eq_true ht | replace ht := of_decide_eq_false ht | skip)) | (refine ych ?_; first | (refine ybw rfl ?_ ?_ <;> intro ht) | (refine ybx rfl ?_ ?_ <;> intro ht)))
    · omega
    · refine nx_ret1 rfl (rv_tmp rfl) (fun w' s' => ⟨?_, s'.nil⟩)
      have hm : d ∉ l := fun hm => by
        obtain ⟨j, hj, hjd⟩ := List.getElem_of_mem hm
        exact hno j hj (by omega) hjd
      unfold hasC
      rw [hf, decide_eq_false hm]; rfl

theorem refSame_sp (cv dvv : Value) (u v : List Int) (l m : List Dt) (h : View) (hc : Cx h cv u l) (hd : Cx h dvv v m) (hl : l.length ≤ 4611686018427387904) (hm : m.length ≤ 4611686018427387904) (w : World) (s : St ⟨w, h, []⟩ h [] w) :
    Calls Try.prog 42 [cv, dvv].toArray w fun e w' => e = .returned (.bool (decide (u = v) && decide (l = m))) ∧ St ⟨w, h, []⟩ h [] w' := by
  obtain ⟨hu, mv, rfl, hs⟩ := hc
  obtain ⟨hv, nv, rfl, hs2⟩ := hd
  obtain ⟨_, ad, cap, rfl, hcap, _⟩ := id hs
  obtain ⟨_, ad2, cap2, rfl, hcap2, _⟩ := id hs2
  refine calls_enter Try.func42 rfl Try.ntmps42 rfl s ?_
  repeat' (first|(refine ycf ?_;apply ybk;(·first|(first|(apply yad;(·rfl);(·exact ycm (yaz 0 rfl));(·simp [up, hv]))|(apply yad;(·rfl);(·exact ycm (yaz 1 rfl));(·simp [up, hu]))|(apply qv_neq_agg;(·rfl);(·rfl);(·exact fun w => run_equal_arr u v hu hv w)))|(apply yae;(·rfl);(·(first|exact yck (yaz 0 rfl) hv rfl|exact yck (yaz 1 rfl) hu rfl))));(·rfl);(·rfl))|refine t1_ ?_|(refine ta_ ?_;intro _)|((fail_if_success (refine ybi rfl ?_));refine ybj rfl ?_ ?_<;>(intro ht;rw [ht];first|replace ht := of_decide_eq_true ht|replace ht := of_decide_eq_false ht|skip))|(refine ych ?_;first|(refine ybw rfl ?_ ?_<;>intro ht)|(refine ybx rfl ?_ ?_<;>intro ht)))
  · have hne := ht
    refine nx_ret1 rfl (rv_tmp rfl) (fun w' s' => ⟨?_, s'.nil⟩)
    have : ¬ u = v := by simpa using hne
    simp [this]
  · have hne := ht
    refine nx_ret1 rfl (rv_tmp rfl) (fun w' s' => ⟨?_, s'.nil⟩)
    have : ¬ l = m := fun e => by rw [e] at hne; exact hne rfl
    simp [this]
  · rename_i b2 b1 huv0
    have huv : u = v := by simpa using huv0
    have hlm : l.length = m.length := by omega
    clear ht huv0
    refine cx_loop (X := Nat) (fun k => [(2, .pointer (some ⟨b2, 0, none⟩)), (3, .pointer (some ⟨b1, 0, none⟩)), (5, .int .i64 k)]) (fun _ => h) (fun _ => _) (fun k => k ≤ l.length ∧ ∀ j (hj : j < l.length), j < k → l[j] = m[j]'(by omega)) (fun k => l.length - k) 0 ⟨by omega, by omega⟩ ts_ (fun _ s => s) ?_
    rintro k ⟨hk, hno⟩
    by_cases hkl : k < l.length
    · obtain ⟨bs, o, rfl⟩ := hs.ad (by omega) (by omega)
      obtain ⟨bt, o2, rfl⟩ := hs2.ad (by omega) (by omega)
      have hkm : k < m.length := by omega
      have hel : ∀ L, Cells h L ⟨bs, o + k * 2, none⟩ (dcs l[k]) := fun L => hs.elem dcs_len k hkl
      have hel2 : ∀ L, Cells h L ⟨bt, o2 + k * 2, none⟩ (dcs m[k]) := fun L => hs2.elem dcs_len k hkm
      repeat' (first|(refine ycf ?_;apply ybk;(·first|(first|(apply yad;(·rfl);(·exact ycm (yaz 0 rfl));(·simp [up, hv]))|(apply yad;(·rfl);(·exact ycm (yaz 1 rfl));(·simp [up, hu]))|(apply qv_neq_agg;(·rfl);(·rfl);(·exact fun w => run_equal_arr u v hu hv w)))|(apply yae;(·rfl);(·(first|exact yck (yaz 0 rfl) hv rfl|exact yck (yaz 1 rfl) hu rfl))));(·rfl);(·rfl))|refine t1_ ?_|(refine ta_ ?_;intro _)|((fail_if_success (refine ybi rfl ?_));refine ybj rfl ?_ ?_<;>(intro ht;rw [ht];first|replace ht := of_decide_eq_true ht|replace ht := of_decide_eq_false ht|skip))|(refine ych ?_;first|(refine ybw rfl ?_ ?_<;>intro ht)|(refine ybx rfl ?_ ?_<;>intro ht)))
      · refine cx_region_draw' rfl (by kernel_rfl) ?_
        repeat' (refine ycf ?_;(first|(first|(apply ybm;(·(first|(first|(refine yad rfl (hel _) ?_;rfl)|(refine yad rfl (hel2 _) ?_;rfl)|exact qv_neq_agg rfl rfl (fun w => dot_eq _ _ w))|(apply yae;(·rfl);(·(first|exact yck (yaz 0 rfl) hv rfl|exact yck (yaz 1 rfl) hu rfl)))|exact tq_));(·rfl);(·rfl);(·(exact th_)))|refine ybl rfl rfl ?_|((fail_if_success (refine ybi rfl ?_));refine ybj rfl ?_ ?_<;>(intro ht;rw [ht];first|replace ht := of_decide_eq_true ht|replace ht := of_decide_eq_false ht|skip))|(refine tb_ ?_ ?_ ?_;(·(exact to_));(·intro _;(exact to_));intro _)|(first|(refine tqs_ ?_ ?_ ?_;(·(exact to_));(·(exact to_))))|(apply ybn;(·(first|(first|(refine yad rfl (hel _) ?_;rfl)|(refine yad rfl (hel2 _) ?_;rfl)|exact qv_neq_agg rfl rfl (fun w => dot_eq _ _ w))|(apply yae;(·rfl);(·(first|exact yck (yaz 0 rfl) hv rfl|exact yck (yaz 1 rfl) hu rfl)))|exact tq_));(·rfl);(·rfl);(·rfl);(·(exact to_))))|refine ycg ?_))
        repeat' (first | (refine ycf ?_; apply ybk; (· first | (first | (refine yad rfl (hel _) ?_; rfl) | (refine yad rfl (hel2 _) ?_; rfl) | exact qv_neq_agg rfl rfl (fun w => dot_eq _ _ w)) | (apply yae; (· rfl); (· (first | exact yck (yaz 0 rfl) hv rfl | exact yck (yaz 1 rfl) hu rfl)))); (· rfl); (· rfl)) | refine t1_ ?_ | (refine ta_ ?_; intro _) | ((fail_if_success (refine ybi rfl ?_)); refine ybj rfl ?_ ?_ <;> (intro ht; rw [ht]; first | replace ht := of_decide_eq_true ht | replace ht := of_decide_eq_false ht | skip)) | (refine ych ?_; first | (refine ybw rfl ?_ ?_ <;> intro ht) | (refine ybx rfl ?_ ?_ <;> intro ht)))
        · have hne := ht
          refine nx_ret1 rfl (rv_tmp rfl) (fun w' s' => ⟨?_, s'.nil⟩)
          have : ¬ l = m := fun e => by
            subst e
            simp at hne
          simp [this]
        · have hne := ht
          refine nx_round (k + 1) ⟨by omega, fun j hj hjk => ?_⟩ (by omega) ts_ (fun _ s => s)
          by_cases hjk' : j = k
          · subst hjk'; simpa using hne
          · exact hno j hj (by omega)
      · omega
    · repeat' (first | (refine ycf ?_; apply ybk; (· first | (first | (refine yad rfl (hel _) ?_; rfl) | (refine yad rfl (hel2 _) ?_; rfl) | exact qv_neq_agg rfl rfl (fun w => dot_eq _ _ w)) | (apply yae; (· rfl); (· (first | exact yck (yaz 0 rfl) hv rfl | exact yck (yaz 1 rfl) hu rfl)))); (· rfl); (· rfl)) | refine t1_ ?_ | (refine ta_ ?_; intro _) | ((fail_if_success (refine ybi rfl ?_)); refine ybj rfl ?_ ?_ <;> (intro ht; rw [ht]; first | replace ht := of_decide_eq_true ht | replace ht := of_decide_eq_false ht | skip)) | (refine ych ?_; first | (refine ybw rfl ?_ ?_ <;> intro ht) | (refine ybx rfl ?_ ?_ <;> intro ht)))
      · omega
      · refine nx_ret1 rfl (rv_tmp rfl) (fun w' s' => ⟨?_, s'.nil⟩)
        have : l = m := List.ext_getElem hlm fun i h1 h2 => hno i h1 (by omega)
        simp [this, huv]

end Go.Proofs.Ytkkjppeaaicgaaa
end

section
namespace Go.Proofs.Ytkkjppeaaicgaaa
open Go Go.Ck Go.Shelf
set_option maxRecDepth 100000
set_option maxHeartbeats 1000000
set_option linter.unusedVariables false

/-- what Add gives for a context, in one form -/
def AddR (h : View) (v : Value) (er : Int) (u : List Int) (l : List Dt) (d : Dt) (u' : List Int) (l' : List Dt) : Prop :=
  Cx h v u' l' ∧ ((rightB d = false ∧ er = 1) ∨ (rightB d = true ∧ er = 0 ∧ Inv u' l' ∧ l'.length ≤ l.length + 1 ∧ ∀ x, rightB x = true → hasC u' l' x = (hasC u l x || decide (x = d))))

theorem Add_in (cv : Value) (u : List Int) (l : List Dt) (d : Dt) (h : View) (hc : Cx h cv u l) (hi : Inv u l) (hl : l.length < 32) (w : World) (s : St ⟨w, h, []⟩ h [] w) :
    Calls Try.prog 40 [cv, dv d].toArray w fun e w' => ∃ x : View × Value × Int × List Int × List Dt, e = .returned (.tuple #[x.2.1, .int .i64 x.2.2.1]) ∧ St ⟨w, h, []⟩ x.1 [] w' ∧ AddR x.1 x.2.1 x.2.2.1 u l d x.2.2.2.1 x.2.2.2.2 := by
  refine (Add_sp cv u l d h hc (by omega) w s).mono ?_
  rintro e w' ⟨⟨h4, v4, srt, er⟩, he, hs, px⟩
  dsimp only at he hs px
  have hk : checkC u l = 0 := check_inv hi (by omega)
  cases hR : rightB d with
  | false =>
    rw [if_pos (.inr hR)] at px
    exact ⟨(h4, v4, er, zeroU, []), he, hs, px.2, .inl ⟨hR, px.1⟩⟩
  | true =>
    rw [if_neg (by simp [hk, hR])] at px
    obtain ⟨p1, p2, p3⟩ := px
    obtain ⟨g1, g2, g3⟩ := add_inv hi.len hk hR p1 p2
    rw [if_neg (by omega)] at p3
    exact ⟨(h4, v4, er, _, _), he, hs, p3.2, .inr ⟨hR, p3.1, g1, g2, g3⟩⟩

structure GSt where
  k : Nat
  h : View
  ua : List Int
  la : List Dt
  va : Value
  ub : List Int
  lb : List Dt
  vb : Value

/-- what both contexts are behind k rounds -/
structure GOk (h0 : View) (L : List Dt) (g : GSt) : Prop where
  kl : g.k ≤ L.length
  le : Le h0 g.h
  ca : Inv g.ua g.la
  cb : Inv g.ub g.lb
  na : g.la.length ≤ g.k
  nb : g.lb.length ≤ g.k
  da : Ds g.h g.va g.la
  db : Ds g.h g.vb g.lb
  sa : ∀ x, rightB x = true → hasC g.ua g.la x = decide (x ∈ L.take g.k)
  sb : ∀ x, rightB x = true → hasC g.ub g.lb x = decide (x ∈ L.reverse.take g.k)

theorem take_more {L : List Dt} {k : Nat} (hk : k < L.length) (x : Dt) : decide (x ∈ L.take (k + 1)) = (decide (x ∈ L.take k) || decide (x = L[k])) := by
  rw [List.take_succ_eq_append_getElem hk, ← Bool.decide_or, decide_eq_decide, List.mem_append, List.mem_singleton]
theorem take_rev {L : List Dt} {k : Nat} (hk : k < L.length) (x : Dt) : decide (x ∈ L.reverse.take (k + 1)) = (decide (x ∈ L.reverse.take k) || decide (x = L[L.length - 1 - k])) := by
  rw [take_more (by simpa using hk), List.getElem_reverse]

theorem step_no {u : List Int} {l : List Dt} {d : Dt} {S : Dt → Bool} {T : Dt → Bool} (hT : ∀ x, T x = (S x || decide (x = d))) (hr : rightB d = false) (h : ∀ x, rightB x = true → hasC u l x = S x) : ∀ x, rightB x = true → hasC u l x = T x := fun x hx => by
  have : x ≠ d := fun e => by rw [e, hr] at hx; cases hx
  rw [h x hx, hT, decide_eq_false this, Bool.or_false]
theorem step_yes {u u' : List Int} {l l' : List Dt} {d : Dt} {S : Dt → Bool} {T : Dt → Bool} (hT : ∀ x, T x = (S x || decide (x = d))) (g : ∀ x, rightB x = true → hasC u' l' x = (hasC u l x || decide (x = d))) (h : ∀ x, rightB x = true → hasC u l x = S x) : ∀ x, rightB x = true → hasC u' l' x = T x := fun x hx => by
  rw [g x hx, h x hx, hT]

theorem gok0 (h : View) (M : List Dt) : GOk h M ⟨0, h, zeroU, [], .slice none 0 0, zeroU, [], .slice none 0 0⟩ := by
  have hz : Inv zeroU [] := ⟨rfl, fun x hx => by rw [List.eq_of_mem_replicate hx]; decide, by simp, by simp⟩
  have h0 : ∀ x, rightB x = true → hasC zeroU [] x = false := fun x hx => by
    have hx := right_of hx
    have : uD zeroU x = 0 := by
      unfold uD zeroU
      rw [List.getD_eq_getElem?_getD, List.getElem?_replicate]
      split <;> rfl
    unfold hasC
    rw [this, decide_eq_false (by omega)]
    rfl
  exact ⟨Nat.zero_le _, Le.refl h, hz, hz, Nat.le_refl _, Nat.le_refl _, Sc.nil h 2 none 0, Sc.nil h 2 none 0, fun x hx => by rw [h0 x hx]; simp, fun x hx => by rw [h0 x hx]; simp⟩

def inB (M : List Dt) (ask : Dt) (j : Nat) : Bool := ((M.take j).any fun d => decide (d = ask)) && rightB ask
theorem inB_succ {M : List Dt} {ask : Dt} {j : Nat} (hj : j < M.length) : inB M ask (j + 1) = (inB M ask j || (decide (M[j] = ask) && rightB ask)) := by
  unfold inB
  rw [List.take_succ_eq_append_getElem hj, List.any_append]
  simp only [List.any_cons, List.any_nil, Bool.or_false]
  cases (M.take j).any fun d => decide (d = ask) <;> cases decide (M[j] = ask) <;> cases rightB ask <;> rfl
theorem inB_all {M : List Dt} {ask : Dt} (hr : rightB ask = true) : inB M ask M.length = decide (ask ∈ M) := by
  unfold inB
  rw [List.take_length, hr, Bool.and_true, Bool.eq_iff_iff, List.any_eq_true, decide_eq_true_iff]
  constructor
  · rintro ⟨x, hx, he⟩
    rw [← of_decide_eq_true he]; exact hx
  · exact fun h => ⟨ask, h, by simp⟩

end Go.Proofs.Ytkkjppeaaicgaaa
end

section
namespace Go.Ck
open Go
set_option linter.unusedVariables false
theorem qv_neq_same {P : Program} {n : Nat} {F : List (Nat × Value)} {h : View} {L : List Res} {dst : Option Nat} {ty : Nat} {pos : String} {af : Array Edge} {gd : Option (Nat × Bool)} {T T' : Nat} {x y : Operand} {k : IntKind} {i : Int} (hx : ev F x = some (.int k i)) (hy : ev F y = some (.int k i)) :
    QV P n F h L ⟨dst, .binOp .neq T x y T', ty, pos, af, gd⟩ (.bool false) := by
  have := yam (P := P) (n := n) (h := h) (L := L) (dst := dst) (ty := ty) (pos := pos) (af := af) (gd := gd) (T := T) (T' := T') hx hy
  rwa [show decide (i ≠ i) = false by simp] at this
theorem qv_eql_no {P : Program} {n : Nat} {F : List (Nat × Value)} {h : View} {L : List Res} {dst : Option Nat} {ty : Nat} {pos : String} {af : Array Edge} {gd : Option (Nat × Bool)} {T T' : Nat} {x y : Operand} {k : IntKind} {i j : Int} (hx : ev F x = some (.int k i)) (hy : ev F y = some (.int k j)) (hn : i ≠ j) :
    QV P n F h L ⟨dst, .binOp .eql T x y T', ty, pos, af, gd⟩ (.bool false) := by
  have := yal (P := P) (n := n) (h := h) (L := L) (dst := dst) (ty := ty) (pos := pos) (af := af) (gd := gd) (T := T) (T' := T') hx hy
  rwa [decide_eq_false hn] at this
theorem qv_neq_no {P : Program} {n : Nat} {F : List (Nat × Value)} {h : View} {L : List Res} {dst : Option Nat} {ty : Nat} {pos : String} {af : Array Edge} {gd : Option (Nat × Bool)} {T T' : Nat} {x y : Operand} {k : IntKind} {i j : Int} (hx : ev F x = some (.int k i)) (hy : ev F y = some (.int k j)) (hn : i ≠ j) :
    QV P n F h L ⟨dst, .binOp .neq T x y T', ty, pos, af, gd⟩ (.bool true) := by
  have := yam (P := P) (n := n) (h := h) (L := L) (dst := dst) (ty := ty) (pos := pos) (af := af) (gd := gd) (T := T) (T' := T') hx hy
  rwa [decide_eq_true hn] at this
theorem qv_lss_t {P : Program} {n : Nat} {F : List (Nat × Value)} {h : View} {L : List Res} {dst : Option Nat} {ty : Nat} {pos : String} {af : Array Edge} {gd : Option (Nat × Bool)} {T T' : Nat} {x y : Operand} {k : IntKind} {i j : Int} (hx : ev F x = some (.int k i)) (hy : ev F y = some (.int k j)) (hr : i < j) :
    QV P n F h L ⟨dst, .binOp .lss T x y T', ty, pos, af, gd⟩ (.bool true) := by
  have := yah (P := P) (n := n) (h := h) (L := L) (dst := dst) (ty := ty) (pos := pos) (af := af) (gd := gd) (T := T) (T' := T') hx hy
  rwa [decide_eq_true hr] at this
theorem qv_lss_f {P : Program} {n : Nat} {F : List (Nat × Value)} {h : View} {L : List Res} {dst : Option Nat} {ty : Nat} {pos : String} {af : Array Edge} {gd : Option (Nat × Bool)} {T T' : Nat} {x y : Operand} {k : IntKind} {i j : Int} (hx : ev F x = some (.int k i)) (hy : ev F y = some (.int k j)) (hr : ¬ (i < j)) :
    QV P n F h L ⟨dst, .binOp .lss T x y T', ty, pos, af, gd⟩ (.bool false) := by
  have := yah (P := P) (n := n) (h := h) (L := L) (dst := dst) (ty := ty) (pos := pos) (af := af) (gd := gd) (T := T) (T' := T') hx hy
  rwa [decide_eq_false hr] at this
theorem qv_leq_t {P : Program} {n : Nat} {F : List (Nat × Value)} {h : View} {L : List Res} {dst : Option Nat} {ty : Nat} {pos : String} {af : Array Edge} {gd : Option (Nat × Bool)} {T T' : Nat} {x y : Operand} {k : IntKind} {i j : Int} (hx : ev F x = some (.int k i)) (hy : ev F y = some (.int k j)) (hr : i ≤ j) :
    QV P n F h L ⟨dst, .binOp .leq T x y T', ty, pos, af, gd⟩ (.bool true) := by
  have := yai (P := P) (n := n) (h := h) (L := L) (dst := dst) (ty := ty) (pos := pos) (af := af) (gd := gd) (T := T) (T' := T') hx hy
  rwa [decide_eq_true hr] at this
theorem qv_leq_f {P : Program} {n : Nat} {F : List (Nat × Value)} {h : View} {L : List Res} {dst : Option Nat} {ty : Nat} {pos : String} {af : Array Edge} {gd : Option (Nat × Bool)} {T T' : Nat} {x y : Operand} {k : IntKind} {i j : Int} (hx : ev F x = some (.int k i)) (hy : ev F y = some (.int k j)) (hr : ¬ (i ≤ j)) :
    QV P n F h L ⟨dst, .binOp .leq T x y T', ty, pos, af, gd⟩ (.bool false) := by
  have := yai (P := P) (n := n) (h := h) (L := L) (dst := dst) (ty := ty) (pos := pos) (af := af) (gd := gd) (T := T) (T' := T') hx hy
  rwa [decide_eq_false hr] at this
theorem qv_gtr_t {P : Program} {n : Nat} {F : List (Nat × Value)} {h : View} {L : List Res} {dst : Option Nat} {ty : Nat} {pos : String} {af : Array Edge} {gd : Option (Nat × Bool)} {T T' : Nat} {x y : Operand} {k : IntKind} {i j : Int} (hx : ev F x = some (.int k i)) (hy : ev F y = some (.int k j)) (hr : j < i) :
    QV P n F h L ⟨dst, .binOp .gtr T x y T', ty, pos, af, gd⟩ (.bool true) := by
  have := yaj (P := P) (n := n) (h := h) (L := L) (dst := dst) (ty := ty) (pos := pos) (af := af) (gd := gd) (T := T) (T' := T') hx hy
  rwa [decide_eq_true hr] at this
theorem qv_gtr_f {P : Program} {n : Nat} {F : List (Nat × Value)} {h : View} {L : List Res} {dst : Option Nat} {ty : Nat} {pos : String} {af : Array Edge} {gd : Option (Nat × Bool)} {T T' : Nat} {x y : Operand} {k : IntKind} {i j : Int} (hx : ev F x = some (.int k i)) (hy : ev F y = some (.int k j)) (hr : ¬ (j < i)) :
    QV P n F h L ⟨dst, .binOp .gtr T x y T', ty, pos, af, gd⟩ (.bool false) := by
  have := yaj (P := P) (n := n) (h := h) (L := L) (dst := dst) (ty := ty) (pos := pos) (af := af) (gd := gd) (T := T) (T' := T') hx hy
  rwa [decide_eq_false hr] at this
theorem qv_geq_t {P : Program} {n : Nat} {F : List (Nat × Value)} {h : View} {L : List Res} {dst : Option Nat} {ty : Nat} {pos : String} {af : Array Edge} {gd : Option (Nat × Bool)} {T T' : Nat} {x y : Operand} {k : IntKind} {i j : Int} (hx : ev F x = some (.int k i)) (hy : ev F y = some (.int k j)) (hr : j ≤ i) :
    QV P n F h L ⟨dst, .binOp .geq T x y T', ty, pos, af, gd⟩ (.bool true) := by
  have := yak (P := P) (n := n) (h := h) (L := L) (dst := dst) (ty := ty) (pos := pos) (af := af) (gd := gd) (T := T) (T' := T') hx hy
  rwa [decide_eq_true hr] at this
theorem qv_geq_f {P : Program} {n : Nat} {F : List (Nat × Value)} {h : View} {L : List Res} {dst : Option Nat} {ty : Nat} {pos : String} {af : Array Edge} {gd : Option (Nat × Bool)} {T T' : Nat} {x y : Operand} {k : IntKind} {i j : Int} (hx : ev F x = some (.int k i)) (hy : ev F y = some (.int k j)) (hr : ¬ (j ≤ i)) :
    QV P n F h L ⟨dst, .binOp .geq T x y T', ty, pos, af, gd⟩ (.bool false) := by
  have := yak (P := P) (n := n) (h := h) (L := L) (dst := dst) (ty := ty) (pos := pos) (af := af) (gd := gd) (T := T) (T' := T') hx hy
  rwa [decide_eq_false hr] at this
theorem qv_eql_t {P : Program} {n : Nat} {F : List (Nat × Value)} {h : View} {L : List Res} {dst : Option Nat} {ty : Nat} {pos : String} {af : Array Edge} {gd : Option (Nat × Bool)} {T T' : Nat} {x y : Operand} {k : IntKind} {i j : Int} (hx : ev F x = some (.int k i)) (hy : ev F y = some (.int k j)) (hr : i = j) :
    QV P n F h L ⟨dst, .binOp .eql T x y T', ty, pos, af, gd⟩ (.bool true) := by
  have := yal (P := P) (n := n) (h := h) (L := L) (dst := dst) (ty := ty) (pos := pos) (af := af) (gd := gd) (T := T) (T' := T') hx hy
  rwa [decide_eq_true hr] at this
theorem qv_eql_f {P : Program} {n : Nat} {F : List (Nat × Value)} {h : View} {L : List Res} {dst : Option Nat} {ty : Nat} {pos : String} {af : Array Edge} {gd : Option (Nat × Bool)} {T T' : Nat} {x y : Operand} {k : IntKind} {i j : Int} (hx : ev F x = some (.int k i)) (hy : ev F y = some (.int k j)) (hr : ¬ (i = j)) :
    QV P n F h L ⟨dst, .binOp .eql T x y T', ty, pos, af, gd⟩ (.bool false) := by
  have := yal (P := P) (n := n) (h := h) (L := L) (dst := dst) (ty := ty) (pos := pos) (af := af) (gd := gd) (T := T) (T' := T') hx hy
  rwa [decide_eq_false hr] at this
theorem qv_neq_t {P : Program} {n : Nat} {F : List (Nat × Value)} {h : View} {L : List Res} {dst : Option Nat} {ty : Nat} {pos : String} {af : Array Edge} {gd : Option (Nat × Bool)} {T T' : Nat} {x y : Operand} {k : IntKind} {i j : Int} (hx : ev F x = some (.int k i)) (hy : ev F y = some (.int k j)) (hr : i ≠ j) :
    QV P n F h L ⟨dst, .binOp .neq T x y T', ty, pos, af, gd⟩ (.bool true) := by
  have := yam (P := P) (n := n) (h := h) (L := L) (dst := dst) (ty := ty) (pos := pos) (af := af) (gd := gd) (T := T) (T' := T') hx hy
  rwa [decide_eq_true hr] at this
theorem qv_neq_f {P : Program} {n : Nat} {F : List (Nat × Value)} {h : View} {L : List Res} {dst : Option Nat} {ty : Nat} {pos : String} {af : Array Edge} {gd : Option (Nat × Bool)} {T T' : Nat} {x y : Operand} {k : IntKind} {i j : Int} (hx : ev F x = some (.int k i)) (hy : ev F y = some (.int k j)) (hr : ¬ (i ≠ j)) :
    QV P n F h L ⟨dst, .binOp .neq T x y T', ty, pos, af, gd⟩ (.bool false) := by
  have := yam (P := P) (n := n) (h := h) (L := L) (dst := dst) (ty := ty) (pos := pos) (af := af) (gd := gd) (T := T) (T' := T') hx hy
  rwa [decide_eq_false hr] at this
end Go.Ck
end

section
namespace Go.Proofs.Ytkkjppeaaicgaaa
open Go Go.Ck
set_option maxRecDepth 100000
set_option maxHeartbeats 2000000
set_option linter.unusedVariables false

/-- a sibling: its dot, its past, its body; and the two slices that hold the past's dots and the body -/
structure Sb where
  d : Dt
  u : List Int
  hu : u.length = 16
  l : List Dt
  mv : Value
  b : List Int
  bv : Value
def sbc (s : Sb) : List Value := dcs s.d ++ (cxc s.u s.mv ++ [s.bv])
def sbv (s : Sb) : Value := .agg (sbc s).toArray
theorem sbc_len (s : Sb) : (sbc s).length = 20 := by
  have := ycj (mv := s.mv) s.hu
  simp [sbc, dcs_len, this]
structure Sv (h : View) (s : Sb) : Prop where
  ds : Ds h s.mv s.l
  bs : Bs8 h s.bv s.b
  by8 : Bytes s.b
theorem Sv.mono {h h' : View} {s : Sb} (v : Sv h s) (hl : Le h h') : Sv h' s := ⟨v.ds.mono hl, v.bs.mono hl, v.by8⟩
/-- what is told of a sibling -/
abbrev Ab := Dt × List Int × List Dt × List Int
def Sb.a (s : Sb) : Ab := (s.d, s.u, s.l, s.b)
def Ss (h : View) (v : Value) (l : List Sb) : Prop := Sc h 20 v l.length (l.flatMap sbc) ∧ ∀ s ∈ l, Sv h s
theorem Ss.mono {h h' : View} {v : Value} {l : List Sb} (s : Ss h v l) (hl : Le h h') : Ss h' v l := ⟨s.1.mono hl, fun x hx => (s.2 x hx).mono hl⟩
def hasA (a : Ab) (d : Dt) : Bool := decide (checkC a.2.1 a.2.2.1 = 0) && rightB d && hasC a.2.1 a.2.2.1 d
def rightA (a : Ab) : Bool := rightB a.1 && (decide (checkC a.2.1 a.2.2.1 = 0) && (!hasA a a.1 && decide ((a.2.2.2.length : Int) ≤ 16384)))

section
variable {h : View} {L : List Res} {b o : Nat} {s : Sb}
theorem sb_past (c : Cells h L ⟨b, o, none⟩ (sbc s)) : Cells h L ⟨b, o + 2, none⟩ (cxc s.u s.mv) := by
  have h1 := (c.drop 2).take 17
  have h2 : ((sbc s).drop 2).take 17 = cxc s.u s.mv := by
    show (cxc s.u s.mv ++ [s.bv]).take 17 = _
    rw [List.take_append_of_le_length (by rw [ycj s.hu]; omega), List.take_of_length_le (by rw [ycj s.hu]; omega)]
  rwa [h2] at h1
theorem sb_dot (c : Cells h L ⟨b, o, none⟩ (sbc s)) : Cells h L ⟨b, o, none⟩ (dcs s.d) := c.take 2
theorem sb_cl (c : Cells h L ⟨b, o, none⟩ (sbc s)) : CellAt h L b (o + 0) (.int .i64 s.d.1) := c.cell rfl
theorem sb_nu (c : Cells h L ⟨b, o, none⟩ (sbc s)) : CellAt h L b (o + 1) (.int .i64 s.d.2) := c.cell rfl
theorem sb_body (c : Cells h L ⟨b, o, none⟩ (sbc s)) : CellAt h L b (o + 19) s.bv := by
  refine c.cell ?_
  show (cxc s.u s.mv ++ [s.bv])[17]? = _
  rw [List.getElem?_append_right (by rw [ycj s.hu]; omega), ycj s.hu]
  rfl
theorem sb_body' {v : Value} (c : Cells h L ⟨b, o, none⟩ (sbc s)) (e : s.bv = v) : CellAt h L b (o + 19) v := e ▸ sb_body c
end

theorem sbc_sz (s : Sb) : (Value.agg (sbc s).toArray).cells.size = 20 := by
  show (sbc s).toArray.size = 20
  simpa using sbc_len s
theorem sbc_fit {s : Sb} {cs : Array Value} (h : cs.size = 20) : 0 + (Value.agg (sbc s).toArray).cells.size ≤ cs.size := by rw [sbc_sz, h]; omega
theorem sbc_all {s : Sb} {cs : List Value} (h : cs.length = 20) : (Value.agg (sbc s).toArray).cells.toList.length = cs.length := by
  rw [h]
  exact sbc_len s
theorem sbc_one {s : Sb} (h1 : s.mv.oneCell' = true) (h2 : s.bv.oneCell' = true) : (Value.agg (sbc s).toArray).cells.toList.all Value.oneCell' = true := by
  show (sbc s).all Value.oneCell' = true
  have h3 := cxc_one (u := s.u) h1
  have h4 : (cxc s.u s.mv).all Value.oneCell' = true := h3
  simp only [sbc, List.all_append, h4, List.all_cons, List.all_nil, h2, Bool.and_true, dcs]
  rfl
theorem Sv.one {h : View} {s : Sb} (v : Sv h s) : s.mv.oneCell' = true ∧ s.bv.oneCell' = true := by
  obtain ⟨_, _, _, e1, _⟩ := v.ds
  obtain ⟨_, _, _, e2, _⟩ := v.bs
  rw [e1, e2]
  exact ⟨rfl, rfl⟩

theorem sorder_sp (x y : Sb) (h : View) (w : World) (s : St ⟨w, h, []⟩ h [] w) :
    Calls Try.prog 32 [sbv x, sbv y].toArray w fun e w' => e = .returned (.int .i64 (ordD x.d y.d)) ∧ St ⟨w, h, []⟩ h [] w' := by
  refine calls_enter Try.func32 rfl Try.ntmps32 rfl s ?_
  repeat' (first | refine tw_ ?_ | (refine ta_ ?_; intro _) | ((fail_if_success (refine ybi rfl ?_)); refine ybj rfl ?_ ?_ <;> (intro ht; rw [ht]; first | replace ht := of_decide_eq_true ht | replace ht := of_decide_eq_false ht | skip)) | (refine ych ?_; first | (refine ybw rfl ?_ ?_ <;> intro ht) | (refine ybx rfl ?_ ?_ <;> intro ht)))
  refine cx_region_draw' rfl (by kernel_rfl) ?_
  repeat' (refine ycf ?_; (first | refine tz_ ?_ | ((fail_if_success (refine ybi rfl ?_)); refine ybj rfl ?_ ?_ <;> (intro ht; rw [ht]; first | replace ht := of_decide_eq_true ht | replace ht := of_decide_eq_false ht | skip)) | (refine tb_ ?_ ?_ ?_; (· exact to_); (· intro _; exact to_); intro _) | refine ycg ?_))
  (refine ycn (ycp Try.func39 rfl (by kernel_rfl) rfl) (compare_sp _ _ h) rfl rfl rfl ?_ ?_; (· (exact to_)))
  repeat' (refine ycf ?_; (first | refine tz_ ?_ | ((fail_if_success (refine ybi rfl ?_)); refine ybj rfl ?_ ?_ <;> (intro ht; rw [ht]; first | replace ht := of_decide_eq_true ht | replace ht := of_decide_eq_false ht | skip)) | (refine tb_ ?_ ?_ ?_; (· exact to_); (· intro _; exact to_); intro _) | refine ycg ?_))
  (refine ycn (ycp Try.func39 rfl (by kernel_rfl) rfl) (compare_sp _ _ h) rfl rfl rfl ?_ ?_; (· (exact to_)))
  repeat' (refine ycf ?_; (first | refine tz_ ?_ | ((fail_if_success (refine ybi rfl ?_)); refine ybj rfl ?_ ?_ <;> (intro ht; rw [ht]; first | replace ht := of_decide_eq_true ht | replace ht := of_decide_eq_false ht | skip)) | (refine tb_ ?_ ?_ ?_; (· exact to_); (· intro _; exact to_); intro _) | refine ycg ?_))
  (refine rx_call_m (ycp Try.func38 rfl (by kernel_rfl) rfl) (perm_at (k := 0) rfl) (or2_sp _ _ _ _ h) rfl rfl rfl ?_ ?_ ?_; (· (exact to_)); (· intro _ _ hle; (exact to_)); intro x px hle)
  repeat' (refine ycf ?_; (first | refine tz_ ?_ | ((fail_if_success (refine ybi rfl ?_)); refine ybj rfl ?_ ?_ <;> (intro ht; rw [ht]; first | replace ht := of_decide_eq_true ht | replace ht := of_decide_eq_false ht | skip)) | (refine tb_ ?_ ?_ ?_; (· exact to_); (· intro _; exact to_); intro _) | refine ycg ?_))
  repeat' (first | refine tw_ ?_ | (refine ta_ ?_; intro _) | ((fail_if_success (refine ybi rfl ?_)); refine ybj rfl ?_ ?_ <;> (intro ht; rw [ht]; first | replace ht := of_decide_eq_true ht | replace ht := of_decide_eq_false ht | skip)) | (refine ych ?_; first | (refine ybw rfl ?_ ?_ <;> intro ht) | (refine ybx rfl ?_ ?_ <;> intro ht)))
  exact nx_ret1 rfl (rv_tmp rfl) (fun w' s' => ⟨rfl, s'.nil⟩)

theorem inv_zero : Inv zeroU [] := ⟨rfl, fun x hx => by rw [List.eq_of_mem_replicate hx]; decide, by simp, by simp⟩
theorem Add_zero (d : Dt) (h : View) (w : World) (s : St ⟨w, h, []⟩ h [] w) :
    Calls Try.prog 40 [cxv zeroU (.slice none 0 0), dv d].toArray w fun e w' => ∃ x : View × Value × List Int × List Dt, e = .returned (.tuple #[x.2.1, .int .i64 (if rightB d = true then 0 else 1)]) ∧ St ⟨w, h, []⟩ x.1 [] w' ∧ Cx x.1 x.2.1 x.2.2.1 x.2.2.2 := by
  refine (Add_in _ zeroU [] d h ⟨rfl, _, rfl, Sc.nil h 2 none 0⟩ inv_zero (by decide) w s).mono ?_
  rintro e w' ⟨⟨h4, v4, er, u', l'⟩, he, hs, px⟩
  dsimp only at he hs px
  rcases px.2 with ⟨hr, h1⟩ | ⟨hr, h1, _⟩
  · exact ⟨(h4, v4, u', l'), by rw [he, hr, h1]; rfl, hs, px.1⟩
  · exact ⟨(h4, v4, u', l'), by rw [he, hr, h1]; rfl, hs, px.1⟩

theorem sright_sp (z : Sb) (h : View) (hx : Sv h z) (hl : z.l.length ≤ 4611686018427387904) (w : World) (s : St ⟨w, h, []⟩ h [] w) :
    Calls Try.prog 31 [sbv z].toArray w fun e w' => e = .returned (.bool (rightA z.a)) ∧ St ⟨w, h, []⟩ h [] w' := by
  obtain ⟨_, ab, capb, hbv, _, _⟩ := id hx.bs
  refine calls_enter Try.func31 rfl Try.ntmps31 rfl s ?_
  repeat' (first | (refine ycf ?_; apply ybk; (· first | (first | (apply yad; (· rfl); (· exact sb_past (yaz 1 rfl)); (· exact ycj z.hu)) | (apply yad; (· rfl); (· exact sb_dot (yaz 1 rfl)); (· rfl)) | (apply yad; (· rfl); (· exact sb_past (yaz 2 rfl)); (· exact ycj z.hu)) | (apply yad; (· rfl); (· exact sb_dot (yaz 2 rfl)); (· rfl)))); (· rfl); (· rfl)) | refine t1_ ?_ | (refine ta_ ?_; intro _) | ((fail_if_success (refine ybi rfl ?_)); refine ybj rfl ?_ ?_ <;> (intro ht; rw [ht]; first | replace ht := of_decide_eq_true ht | replace ht := of_decide_eq_false ht | skip)) | (refine ych ?_; first | (refine ybw rfl ?_ ?_ <;> intro ht) | (refine ybx rfl ?_ ?_ <;> intro ht)))
  (refine yco (ycp Try.func40 rfl (by kernel_rfl) rfl) (Add_zero z.d h) rfl rfl rfl ?_ ?_ ?_; (· (exact to_)); (· intro _ _ hle; (exact to_)); intro x px hle)
  obtain ⟨h1, v1, u1, l1⟩ := x
  replace hle : Le h h1 := hle
  have hc1 : Cx h1 (cxv z.u z.mv) z.u z.l := ⟨z.hu, _, rfl, hx.ds.mono hle⟩
  have c1 : Cx h1 v1 u1 l1 := px
  clear px hle
  obtain ⟨hu1, x1, rfl, s1⟩ := c1
  have ea : rightA z.a = (rightB z.d && (decide (checkC z.u z.l = 0) && (!(decide (checkC z.u z.l = 0) && rightB z.d && hasC z.u z.l z.d) && decide ((z.b.length : Int) ≤ 16384)))) := rfl
  rw [ea]
  cases hR : rightB z.d with
  | false =>
    repeat' (first|(refine ycf ?_;apply ybk;(·first|(first|(apply yad;(·rfl);(·exact sb_past (yaz 1 rfl));(·exact ycj z.hu))|(apply yad;(·rfl);(·exact sb_dot (yaz 1 rfl));(·rfl))|(apply yad;(·rfl);(·exact sb_past (yaz 2 rfl));(·exact ycj z.hu))|(apply yad;(·rfl);(·exact sb_dot (yaz 2 rfl));(·rfl)))|(apply yae;(·rfl);(·(exact sb_body' (yaz 2 rfl) hbv))));(·rfl);(·rfl))|(refine ybg 0 rfl rfl rfl (cxc_sz hu1) (cxc_fit hu1) (cxc_one (by obtain ⟨_, _, _, rfl, _⟩ := s1;rfl)) (ybh (cxc_all hu1)) rfl rfl ?_ ?_ ?_;(·(exact to_));(·(exact to_)))|refine t1_ ?_|(refine ta_ ?_;intro _)|((fail_if_success (refine ybi rfl ?_));refine ybj rfl ?_ ?_<;>(intro ht;rw [ht];first|replace ht := of_decide_eq_true ht|replace ht := of_decide_eq_false ht|skip))|(refine ych ?_;first|(refine ybw rfl ?_ ?_<;>intro ht)|(refine ybx rfl ?_ ?_<;>intro ht)))
    exact nx_ret1 rfl (rv_tmp rfl) (fun w' s' => ⟨by simp, s'.nil.base⟩)
  | true =>
    have K1 := check_sp _ z.u z.l h1 hc1 hl
    have H1 := Has_sp _ z.u z.l z.d h1 hc1 hl
    rw [hR, Bool.and_true] at H1
    by_cases hk : checkC z.u z.l = 0
    · rw [hk] at K1 H1 ⊢
      rw [show decide ((0 : Int) = 0) = true from rfl, Bool.true_and] at H1 ⊢
      cases hH : hasC z.u z.l z.d with
      | true =>
        rw [hH] at H1
        repeat' (first|(refine ycf ?_;apply ybk;(·first|(first|(apply yad;(·rfl);(·exact sb_past (yaz 1 rfl));(·exact ycj z.hu))|(apply yad;(·rfl);(·exact sb_dot (yaz 1 rfl));(·rfl))|(apply yad;(·rfl);(·exact sb_past (yaz 2 rfl));(·exact ycj z.hu))|(apply yad;(·rfl);(·exact sb_dot (yaz 2 rfl));(·rfl)))|(apply yae;(·rfl);(·(exact sb_body' (yaz 2 rfl) hbv))));(·rfl);(·rfl))|(refine ybg 0 rfl rfl rfl (cxc_sz hu1) (cxc_fit hu1) (cxc_one (by obtain ⟨_, _, _, rfl, _⟩ := s1;rfl)) (ybh (cxc_all hu1)) rfl rfl ?_ ?_ ?_;(·(exact to_));(·(exact to_)))|refine t1_ ?_|(refine ta_ ?_;intro _)|((fail_if_success (refine ybi rfl ?_));refine ybj rfl ?_ ?_<;>(intro ht;rw [ht];first|replace ht := of_decide_eq_true ht|replace ht := of_decide_eq_false ht|skip))|(refine ych ?_;first|(refine ybw rfl ?_ ?_<;>intro ht)|(refine ybx rfl ?_ ?_<;>intro ht)))
        (refine ycn (ycp Try.func41 rfl (by kernel_rfl) rfl) (K1) rfl rfl rfl ?_ ?_; (· (exact to_)))
        repeat' (first|(refine ycf ?_;apply ybk;(·first|(first|(apply yad;(·rfl);(·exact sb_past (yaz 1 rfl));(·exact ycj z.hu))|(apply yad;(·rfl);(·exact sb_dot (yaz 1 rfl));(·rfl))|(apply yad;(·rfl);(·exact sb_past (yaz 2 rfl));(·exact ycj z.hu))|(apply yad;(·rfl);(·exact sb_dot (yaz 2 rfl));(·rfl)))|(apply yae;(·rfl);(·(exact sb_body' (yaz 2 rfl) hbv))));(·rfl);(·rfl))|(refine ybg 0 rfl rfl rfl (cxc_sz hu1) (cxc_fit hu1) (cxc_one (by obtain ⟨_, _, _, rfl, _⟩ := s1;rfl)) (ybh (cxc_all hu1)) rfl rfl ?_ ?_ ?_;(·(exact to_));(·(exact to_)))|refine t1_ ?_|(refine ta_ ?_;intro _)|((fail_if_success (refine ybi rfl ?_));refine ybj rfl ?_ ?_<;>(intro ht;rw [ht];first|replace ht := of_decide_eq_true ht|replace ht := of_decide_eq_false ht|skip))|(refine ych ?_;first|(refine ybw rfl ?_ ?_<;>intro ht)|(refine ybx rfl ?_ ?_<;>intro ht)))
        (refine ycn (ycp Try.func55 rfl (by kernel_rfl) rfl) (H1) rfl rfl rfl ?_ ?_; (· (exact to_)))
        repeat' (first|(refine ycf ?_;apply ybk;(·first|(first|(apply yad;(·rfl);(·exact sb_past (yaz 1 rfl));(·exact ycj z.hu))|(apply yad;(·rfl);(·exact sb_dot (yaz 1 rfl));(·rfl))|(apply yad;(·rfl);(·exact sb_past (yaz 2 rfl));(·exact ycj z.hu))|(apply yad;(·rfl);(·exact sb_dot (yaz 2 rfl));(·rfl)))|(apply yae;(·rfl);(·(exact sb_body' (yaz 2 rfl) hbv))));(·rfl);(·rfl))|(refine ybg 0 rfl rfl rfl (cxc_sz hu1) (cxc_fit hu1) (cxc_one (by obtain ⟨_, _, _, rfl, _⟩ := s1;rfl)) (ybh (cxc_all hu1)) rfl rfl ?_ ?_ ?_;(·(exact to_));(·(exact to_)))|refine t1_ ?_|(refine ta_ ?_;intro _)|((fail_if_success (refine ybi rfl ?_));refine ybj rfl ?_ ?_<;>(intro ht;rw [ht];first|replace ht := of_decide_eq_true ht|replace ht := of_decide_eq_false ht|skip))|(refine ych ?_;first|(refine ybw rfl ?_ ?_<;>intro ht)|(refine ybx rfl ?_ ?_<;>intro ht)))
        exact nx_ret1 rfl (rv_tmp rfl) (fun w' s' => ⟨by simp, s'.nil.base⟩)
      | false =>
        rw [hH] at H1
        repeat' (first|(refine ycf ?_;apply ybk;(·first|(first|(apply yad;(·rfl);(·exact sb_past (yaz 1 rfl));(·exact ycj z.hu))|(apply yad;(·rfl);(·exact sb_dot (yaz 1 rfl));(·rfl))|(apply yad;(·rfl);(·exact sb_past (yaz 2 rfl));(·exact ycj z.hu))|(apply yad;(·rfl);(·exact sb_dot (yaz 2 rfl));(·rfl)))|(apply yae;(·rfl);(·(exact sb_body' (yaz 2 rfl) hbv))));(·rfl);(·rfl))|(refine ybg 0 rfl rfl rfl (cxc_sz hu1) (cxc_fit hu1) (cxc_one (by obtain ⟨_, _, _, rfl, _⟩ := s1;rfl)) (ybh (cxc_all hu1)) rfl rfl ?_ ?_ ?_;(·(exact to_));(·(exact to_)))|refine t1_ ?_|(refine ta_ ?_;intro _)|((fail_if_success (refine ybi rfl ?_));refine ybj rfl ?_ ?_<;>(intro ht;rw [ht];first|replace ht := of_decide_eq_true ht|replace ht := of_decide_eq_false ht|skip))|(refine ych ?_;first|(refine ybw rfl ?_ ?_<;>intro ht)|(refine ybx rfl ?_ ?_<;>intro ht)))
        (refine ycn (ycp Try.func41 rfl (by kernel_rfl) rfl) (K1) rfl rfl rfl ?_ ?_; (· (exact to_)))
        repeat' (first|(refine ycf ?_;apply ybk;(·first|(first|(apply yad;(·rfl);(·exact sb_past (yaz 1 rfl));(·exact ycj z.hu))|(apply yad;(·rfl);(·exact sb_dot (yaz 1 rfl));(·rfl))|(apply yad;(·rfl);(·exact sb_past (yaz 2 rfl));(·exact ycj z.hu))|(apply yad;(·rfl);(·exact sb_dot (yaz 2 rfl));(·rfl)))|(apply yae;(·rfl);(·(exact sb_body' (yaz 2 rfl) hbv))));(·rfl);(·rfl))|(refine ybg 0 rfl rfl rfl (cxc_sz hu1) (cxc_fit hu1) (cxc_one (by obtain ⟨_, _, _, rfl, _⟩ := s1;rfl)) (ybh (cxc_all hu1)) rfl rfl ?_ ?_ ?_;(·(exact to_));(·(exact to_)))|refine t1_ ?_|(refine ta_ ?_;intro _)|((fail_if_success (refine ybi rfl ?_));refine ybj rfl ?_ ?_<;>(intro ht;rw [ht];first|replace ht := of_decide_eq_true ht|replace ht := of_decide_eq_false ht|skip))|(refine ych ?_;first|(refine ybw rfl ?_ ?_<;>intro ht)|(refine ybx rfl ?_ ?_<;>intro ht)))
        (refine ycn (ycp Try.func55 rfl (by kernel_rfl) rfl) (H1) rfl rfl rfl ?_ ?_; (· (exact to_)))
        repeat' (first|(refine ycf ?_;apply ybk;(·first|(first|(apply yad;(·rfl);(·exact sb_past (yaz 1 rfl));(·exact ycj z.hu))|(apply yad;(·rfl);(·exact sb_dot (yaz 1 rfl));(·rfl))|(apply yad;(·rfl);(·exact sb_past (yaz 2 rfl));(·exact ycj z.hu))|(apply yad;(·rfl);(·exact sb_dot (yaz 2 rfl));(·rfl)))|(apply yae;(·rfl);(·(exact sb_body' (yaz 2 rfl) hbv))));(·rfl);(·rfl))|(refine ybg 0 rfl rfl rfl (cxc_sz hu1) (cxc_fit hu1) (cxc_one (by obtain ⟨_, _, _, rfl, _⟩ := s1;rfl)) (ybh (cxc_all hu1)) rfl rfl ?_ ?_ ?_;(·(exact to_));(·(exact to_)))|refine t1_ ?_|(refine ta_ ?_;intro _)|((fail_if_success (refine ybi rfl ?_));refine ybj rfl ?_ ?_<;>(intro ht;rw [ht];first|replace ht := of_decide_eq_true ht|replace ht := of_decide_eq_false ht|skip))|(refine ych ?_;first|(refine ybw rfl ?_ ?_<;>intro ht)|(refine ybx rfl ?_ ?_<;>intro ht)))
        exact nx_ret1 rfl (rv_tmp rfl) (fun w' s' => ⟨by simp, s'.nil.base⟩)
    · generalize checkC z.u z.l = cz at hk K1 ⊢
      rw [decide_eq_false hk]
      repeat' (first|(refine ycf ?_;apply ybk;(·first|(first|(apply qv_eql_no;(·rfl);(·rfl);(·exact hk))|(apply yad;(·rfl);(·exact sb_past (yaz 2 rfl));(·exact ycj z.hu))|(apply yad;(·rfl);(·exact sb_dot (yaz 2 rfl));(·rfl)))|(apply yae;(·rfl);(·(exact sb_body' (yaz 2 rfl) hbv))));(·rfl);(·rfl))|(refine ybg 0 rfl rfl rfl (cxc_sz hu1) (cxc_fit hu1) (cxc_one (by obtain ⟨_, _, _, rfl, _⟩ := s1;rfl)) (ybh (cxc_all hu1)) rfl rfl ?_ ?_ ?_;(·(exact to_));(·(exact to_)))|refine t1_ ?_|(refine ta_ ?_;intro _)|((fail_if_success (refine ybi rfl ?_));refine ybj rfl ?_ ?_<;>(intro ht;rw [ht];first|replace ht := of_decide_eq_true ht|replace ht := of_decide_eq_false ht|skip))|(refine ych ?_;first|(refine ybw rfl ?_ ?_<;>intro ht)|(refine ybx rfl ?_ ?_<;>intro ht)))
      (refine ycn (ycp Try.func41 rfl (by kernel_rfl) rfl) (K1) rfl rfl rfl ?_ ?_; (· (exact to_)))
      repeat' (first|(refine ycf ?_;apply ybk;(·first|(first|(apply qv_eql_no;(·rfl);(·rfl);(·exact hk))|(apply yad;(·rfl);(·exact sb_past (yaz 2 rfl));(·exact ycj z.hu))|(apply yad;(·rfl);(·exact sb_dot (yaz 2 rfl));(·rfl)))|(apply yae;(·rfl);(·(exact sb_body' (yaz 2 rfl) hbv))));(·rfl);(·rfl))|(refine ybg 0 rfl rfl rfl (cxc_sz hu1) (cxc_fit hu1) (cxc_one (by obtain ⟨_, _, _, rfl, _⟩ := s1;rfl)) (ybh (cxc_all hu1)) rfl rfl ?_ ?_ ?_;(·(exact to_));(·(exact to_)))|refine t1_ ?_|(refine ta_ ?_;intro _)|((fail_if_success (refine ybi rfl ?_));refine ybj rfl ?_ ?_<;>(intro ht;rw [ht];first|replace ht := of_decide_eq_true ht|replace ht := of_decide_eq_false ht|skip))|(refine ych ?_;first|(refine ybw rfl ?_ ?_<;>intro ht)|(refine ybx rfl ?_ ?_<;>intro ht)))
      exact nx_ret1 rfl (rv_tmp rfl) (fun w' s' => ⟨by simp, s'.nil.base⟩)
end Go.Proofs.Ytkkjppeaaicgaaa
end
