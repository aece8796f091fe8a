/-
  Part 7 of a proof: BitI DotV1 DotV BitK CkPer CkEq.
  Conditions: each theorem states its own.
-/
import Derived.Test.YtkkjppeaaicgaaaGreatDoorSrGPM6
section
namespace Go.Proofs.YtkkjppeaaicgaaaGreatDoor
open Go Go.Ck
set_option maxRecDepth 100000
set_option maxHeartbeats 2000000
set_option linter.unusedVariables false
theorem bstr_take (l : List Int) (k : Nat) : (bstr l).extract 0 k = bstr (l.take k) := by
  apply ByteArray.ext
  rw [ByteArray.data_extract]
  simp [bstr, List.map_take]
theorem bstr_at {l : List Int} (hb : Bytes l) {i : Nat} (hi : i < l.length) : ∃ v : UInt8, (bstr l)[i]? = some v ∧ (v.toNat : Int) = l[i] := by
  have hx := hb l[i] (List.getElem_mem _)
  refine ⟨UInt8.ofNat l[i].toNat, ?_, ?_⟩
  · have hs : i < (bstr l).size := by rw [bstr_size]; exact hi
    rw [getElem?_pos (bstr l) i hs]
    show some ((bstr l).data[i]'_) = _
    simp [bstr]
  · rw [UInt8.toNat_ofNat']
    omega
section
variable {P : Program} {n : Nat} {F : List (Nat × Value)} {h : View} {L : List Res} {dst : Option Nat} {ty : Nat} {pos : String} {af : Array Edge} {gd : Option (Nat × Bool)}
theorem qv_at_bstr {T : Nat} {x y : Operand} {l : List Int} {ki : IntKind} {i : Int} {k : Nat} (hb : Bytes l) [tu : TyU P T .string] (hx : ev F x = some (.string (bstr l))) (hy : ev F y = some (.int ki i))
    (hi : i = k) (hk : k < l.length) : QV P n F h L ⟨dst, .index T x y, ty, pos, af, gd⟩ (.int .u8 l[k]) := by
  obtain ⟨v, h1, h2⟩ := bstr_at hb hk
  rw [← h2]
  refine qv_index_str hx hy (by omega) ?_
  subst hi
  exact h1
theorem qv_str_to {T : Nat} {x y : Operand} {l : List Int} {i : Nat} {ki : IntKind} [tu : TyU P T .string] (hx : ev F x = some (.string (bstr l))) (hy : ev F y = some (.int ki i)) (h1 : i ≤ l.length) :
    QV P n F h L ⟨dst, .slice T x none (some y) none, ty, pos, af, gd⟩ (.string (bstr (l.take i))) := .mk fun a w f s => by
  have h2 : i ≤ (bstr l).size := by rw [bstr_size]; exact h1
  simp [execOp, f.ev hx, f.ev hy, Instr.sliceAt, Instr.slice, Instr.sliceBounds, Instr.sliceBound, asIntOf, run_underlying tu.u, h2]
  exact bstr_take l i
theorem qv_len_bstr {x : Operand} {T : Nat} {l : List Int} [tu : TyU P T .string] (hx : ev F x = some (.string (bstr l))) : QV P n F h L ⟨dst, .call ⟨.builtin .len, #[x], #[T]⟩, ty, pos, af, gd⟩ (.int .i64 l.length) := by
  rw [← bstr_size]; exact yar hx
theorem qv_mul' {T T' : Nat} {x y : Operand} {k : IntKind} {i j r : Int} (hx : ev F x = some (.int k i)) (hy : ev F y = some (.int k j)) (hr : k.wrap (i * j) = r) : QV P n F h L ⟨dst, .binOp .mul T x y T', ty, pos, af, gd⟩ (.int k r) := by subst hr; exact qv_mul_w hx hy
theorem qv_add' {T T' : Nat} {x y : Operand} {k : IntKind} {i j r : Int} (hx : ev F x = some (.int k i)) (hy : ev F y = some (.int k j)) (hr : k.wrap (i + j) = r) : QV P n F h L ⟨dst, .binOp .add T x y T', ty, pos, af, gd⟩ (.int k r) := by subst hr; exact qv_add_w hx hy
theorem qv_neq_str {T T' : Nat} {x y : Operand} {a b : ByteArray} {t : Bool} (hx : ev F x = some (.string a)) (hy : ev F y = some (.string b)) (ht : (!(a.toList == b.toList)) = t) :
    QV P n F h L ⟨dst, .binOp .neq T x y T', ty, pos, af, gd⟩ (.bool t) := by
  subst ht
  refine .mk fun ac w f s => ?_
  have hg : (eqGuard .neq T x y (.string a) (.string b)).run P w = .ok () w := by simp [eqGuard]
  simp only [execOp, f.ev hx, f.ev hy, Sem.run_bind, hg, Result.andThen_ok, binOp, Op.stringOp]
  rfl
end
theorem Word_sp (l : List Int) (hb : Bytes l) (hl : l.length ≤ 8) (h : View) (w : World) (s : St ⟨w, h, []⟩ h [] w) :
    Calls Tryz.prog 78 [.string (bstr l), .bool true].toArray w fun e w' => e = .returned (.int .u64 (valB l)) ∧ St ⟨w, h, []⟩ h [] w' := by
  refine calls_enter Tryz.func78 rfl Tryz.ntmps78 rfl s ?_
  repeat' (first|refine tw_ ?_|(refine ta_ ?_;intro _)|((fail_if_success (refine ybi rfl ?_));refine ybj rfl ?_ ?_<;>(intro ht;rw [ht];first|replace ht := oet_ ht|replace ht := oef_ ht|skip))|(refine ych ?_;first|(refine ybw rfl ?_ ?_<;>intro ht)|(refine ybx rfl ?_ ?_<;>intro ht)))
  refine cx_loop (X := Nat) (fun k => [(0, .string (bstr l)), (1, .bool true), (5, .int .u64 (valB (l.take k))), (6, .int .i64 k)]) (fun _ => h) (fun _ => []) (fun k => k ≤ l.length) (fun k => l.length - k) 0 (Nat.zero_le _) ts_ (fun _ s => s) ?_
  intro k hk
  by_cases hkl : k < l.length
  · have hbd := valB_bd hb k (by omega)
    have hp : (256 : Int) ^ k ≤ 256 ^ 7 := p256 (by omega)
    have e7 : (256 : Int) ^ 7 = 72057594037927936 := by decide
    rw [e7] at hp
    have hc := hb l[k] (List.getElem_mem _)
    have hmul : IntKind.u64.wrap (valB (l.take k) * 256) = valB (l.take k) * 256 := wrap_u64 (by omega) (by omega)
    have hcw : IntKind.u64.wrap l[k] = l[k] := wrap_u64 hc.1 (by omega)
    have hadd : IntKind.u64.wrap (valB (l.take k) * 256 + l[k]) = valB (l.take (k + 1)) := by
      rw [valB_succ hkl]; exact wrap_u64 (by omega) (by omega)
    repeat' (first|(refine ycf ?_;apply ybk;(·first|(first|(refine qv_len_bstr rfl)|(refine qv_at_bstr (k := k) hb rfl rfl rfl hkl)|(refine qv_at_bstr (k := l.length - 1 - k) hb rfl rfl (by omega) (by omega))|(refine qv_mul' rfl rfl hmul)|(refine qv_convert_int' rfl hcw)|(refine qv_add' rfl rfl hadd)));(·rfl);(·rfl))|refine t1_ ?_|(refine ta_ ?_;intro _)|((fail_if_success (refine ybi rfl ?_));refine ybj rfl ?_ ?_<;>(intro ht;rw [ht];first|replace ht := oet_ ht|replace ht := oef_ ht|skip))|(refine ych ?_;first|(refine ybw rfl ?_ ?_<;>intro ht)|(refine ybx rfl ?_ ?_<;>intro ht)))
    · exact nx_round (k + 1) (by show k + 1 ≤ l.length; omega) (by show l.length - (k + 1) < l.length - k; omega) ts_ (fun _ s => s)
    all_goals omega
  · have ek : k = l.length := by omega
    subst ek
    repeat' (first|(refine ycf ?_;apply ybk;(·first|(first|(refine qv_len_bstr rfl)|(refine qv_at_bstr (k := k) hb rfl rfl rfl hkl)|(refine qv_at_bstr (k := l.length - 1 - k) hb rfl rfl (by omega) (by omega))|(refine qv_mul' rfl rfl hmul)|(refine qv_convert_int' rfl hcw)|(refine qv_add' rfl rfl hadd)));(·rfl);(·rfl))|refine t1_ ?_|(refine ta_ ?_;intro _)|((fail_if_success (refine ybi rfl ?_));refine ybj rfl ?_ ?_<;>(intro ht;rw [ht];first|replace ht := oet_ ht|replace ht := oef_ ht|skip))|(refine ych ?_;first|(refine ybw rfl ?_ ?_<;>intro ht)|(refine ybx rfl ?_ ?_<;>intro ht)))
    all_goals try omega
    rw [List.take_length]
    exact nx_ret1 rfl (rv_tmp rfl) (fun w' s' => ⟨rfl, s'⟩)
theorem lookC_bad {l : List Int} {size : Nat} {most : Int} (hz : (lookC l size most).2 ≠ 0) : (lookC l size most).1 = 0 := by
  unfold lookC at hz ⊢
  split
  · rfl
  · rename_i h1
    rw [if_neg h1] at hz
    split
    · rfl
    · rename_i h2
      rw [if_neg h2] at hz
      exact absurd rfl hz
theorem lookC_len {l : List Int} {size : Nat} {most : Int} (hz : (lookC l size most).2 = 0) : size ≤ l.length := by
  unfold lookC at hz
  split at hz
  · cases hz
  · omega
end Go.Proofs.YtkkjppeaaicgaaaGreatDoor
end

section
namespace Go.Proofs.YtkkjppeaaicgaaaGreatDoor
open Go Go.Ck
set_option maxRecDepth 100000
set_option maxHeartbeats 1000000
set_option linter.unusedVariables false
theorem refDot_sp (d : Dt) (h : View) (w : World) (s : St ⟨w, h, []⟩ h [] w) :
    Calls Tryz.prog 51 [dv d].toArray w fun e w' => e = .returned (.bool (rightB d)) ∧ St ⟨w, h, []⟩ h [] w' := by
  refine calls_enter Tryz.func51 rfl Tryz.ntmps51 rfl s ?_
  repeat' (first|refine tw_ ?_|(refine ta_ ?_;intro _)|((fail_if_success (refine ybi rfl ?_));refine ybj rfl ?_ ?_<;>(intro ht;rw [ht];first|replace ht := oet_ ht|replace ht := oef_ ht|skip))|(refine ych ?_;first|(refine ybw rfl ?_ ?_<;>intro ht)|(refine ybx rfl ?_ ?_<;>intro ht)))
  all_goals (refine nx_ret1 rfl (rv_tmp rfl) (fun w' s' => ⟨?_, s'.nil⟩))
  all_goals (congr 2; simp [rightB, *])
theorem refHas_sp (cv : Value) (u : List Int) (l : List Dt) (d : Dt) (h : View) (hc : Cx h cv u l) (hl : l.length ≤ 4611686018427387904) (hr : rightB d = true) (w : World) (s : St ⟨w, h, []⟩ h [] w) :
    Calls Tryz.prog 21 [cv, dv d].toArray w fun e w' => e = .returned (.bool (hasC u l d)) ∧ St ⟨w, h, []⟩ h [] w' := by
  obtain ⟨hu, mv, rfl, hs⟩ := hc
  obtain ⟨_, ad, cap, rfl, hcap, _⟩ := id hs
  have hr' := right_of hr
  refine calls_enter Tryz.func21 rfl Tryz.ntmps21 rfl s ?_
  repeat' (first|refine tw_ ?_|(refine ta_ ?_;intro _)|((fail_if_success (refine ybi rfl ?_));refine ybj rfl ?_ ?_<;>(intro ht;rw [ht];first|replace ht := oet_ ht|replace ht := oef_ ht|skip))|(refine ych ?_;first|(refine ybw rfl ?_ ?_<;>intro ht)|(refine ybx rfl ?_ ?_<;>intro ht)))
  refine cx_region_draw' rfl (by kernel_rfl) ?_
  repeat' (refine ycf ?_;(first|(first|(apply ybm;(·(first|(apply yae;(·rfl);(·(first|exact ycl (yaz 1 rfl) (d.1 - 1).toNat (by omega) (by omega)|exact yck (yaz 1 rfl) hu rfl)))|exact tq_));(·rfl);(·rfl);(·(exact th_)))|refine ybl rfl rfl ?_|((fail_if_success (refine ybi rfl ?_));refine ybj rfl ?_ ?_<;>(intro ht;rw [ht];first|replace ht := oet_ ht|replace ht := oef_ ht|skip))|(refine tb_ ?_ ?_ ?_;(·(exact to_));(·intro _;(exact to_));intro _)|(first|(refine tqs_ ?_ ?_ ?_;(·(exact to_));(·(exact to_))))|(apply ybn;(·(first|(apply yae;(·rfl);(·(first|exact ycl (yaz 1 rfl) (d.1 - 1).toNat (by omega) (by omega)|exact yck (yaz 1 rfl) hu rfl)))|exact tq_));(·rfl);(·rfl);(·rfl);(·(exact to_))))|refine ycg ?_))
  repeat' (first|(refine ycf ?_;apply ybk;(·first|(apply yae;(·rfl);(·(first|exact ycl (yaz 1 rfl) (d.1 - 1).toNat (by omega) (by omega)|exact yck (yaz 1 rfl) hu rfl))));(·rfl);(·rfl))|refine t1_ ?_|(refine ta_ ?_;intro _)|((fail_if_success (refine ybi rfl ?_));refine ybj rfl ?_ ?_<;>(intro ht;rw [ht];first|replace ht := oet_ ht|replace ht := oef_ ht|skip))|(refine ych ?_;first|(refine ybw rfl ?_ ?_<;>intro ht)|(refine ybx rfl ?_ ?_<;>intro ht)))
  · have : decide (d.2 ≤ uD u d) = true := decide_eq_true (by unfold uD; assumption)
    exact nx_ret1 rfl (rv_tmp rfl) (fun w' s' => ⟨by simp [hasC, this], s'.nil⟩)
  rename_i b1 b2
  have hf : decide (d.2 ≤ uD u d) = false := decide_eq_false ht
  clear ht
  refine cx_loop (X := Nat) (fun k => [(2, .pointer (some ⟨b1, 0, none⟩)), (3, .pointer (some ⟨b2, 0, none⟩)), (5, .int .i64 k)]) (fun _ => h) (fun _ => _) (fun k => k ≤ l.length ∧ ∀ j (hj : j < l.length), j < k → l[j] ≠ d) (fun k => l.length - k) 0 ⟨by omega, by omega⟩ ts_ (fun _ s => s) ?_
  rintro k ⟨hk, hno⟩
  by_cases hkl : k < l.length
  · obtain ⟨bs, o, rfl⟩ := hs.ad (by omega) (by omega)
    have hel : ∀ L, Cells h L ⟨bs, o + k * 2, none⟩ (dcs l[k]) := fun L => hs.elem dcs_len k hkl
    repeat' (first|(refine ycf ?_;apply ybk;(·first|(apply yae;(·rfl);(·(first|exact ycl (yaz 1 rfl) (d.1 - 1).toNat (by omega) (by omega)|exact yck (yaz 1 rfl) hu rfl))));(·rfl);(·rfl))|refine t1_ ?_|(refine ta_ ?_;intro _)|((fail_if_success (refine ybi rfl ?_));refine ybj rfl ?_ ?_<;>(intro ht;rw [ht];first|replace ht := oet_ ht|replace ht := oef_ ht|skip))|(refine ych ?_;first|(refine ybw rfl ?_ ?_<;>intro ht)|(refine ybx rfl ?_ ?_<;>intro ht)))
    · refine cx_region_draw' rfl (by kernel_rfl) ?_
      repeat' (refine ycf ?_;(first|(first|(apply ybm;(·(first|(first|(refine yad rfl (hel _) ?_;rfl)|exact qv_eql_agg rfl rfl (fun w => dot_eq _ _ w))|(apply yae;(·rfl);(·(first|exact ycl (yaz 1 rfl) (d.1 - 1).toNat (by omega) (by omega)|exact yck (yaz 1 rfl) hu rfl)))|exact tq_));(·rfl);(·rfl);(·(exact th_)))|refine ybl rfl rfl ?_|((fail_if_success (refine ybi rfl ?_));refine ybj rfl ?_ ?_<;>(intro ht;rw [ht];first|replace ht := oet_ ht|replace ht := oef_ ht|skip))|(refine tb_ ?_ ?_ ?_;(·(exact to_));(·intro _;(exact to_));intro _)|(first|(refine tqs_ ?_ ?_ ?_;(·(exact to_));(·(exact to_))))|(apply ybn;(·(first|(first|(refine yad rfl (hel _) ?_;rfl)|exact qv_eql_agg rfl rfl (fun w => dot_eq _ _ w))|(apply yae;(·rfl);(·(first|exact ycl (yaz 1 rfl) (d.1 - 1).toNat (by omega) (by omega)|exact yck (yaz 1 rfl) hu rfl)))|exact tq_));(·rfl);(·rfl);(·rfl);(·(exact to_))))|refine ycg ?_))
      repeat' (first|(refine ycf ?_;apply ybk;(·first|(first|(refine yad rfl (hel _) ?_;rfl)|exact qv_eql_agg rfl rfl (fun w => dot_eq _ _ w))|(apply yae;(·rfl);(·(first|exact ycl (yaz 1 rfl) (d.1 - 1).toNat (by omega) (by omega)|exact yck (yaz 1 rfl) hu rfl))));(·rfl);(·rfl))|refine t1_ ?_|(refine ta_ ?_;intro _)|((fail_if_success (refine ybi rfl ?_));refine ybj rfl ?_ ?_<;>(intro ht;rw [ht];first|replace ht := oet_ ht|replace ht := oef_ ht|skip))|(refine ych ?_;first|(refine ybw rfl ?_ ?_<;>intro ht)|(refine ybx rfl ?_ ?_<;>intro ht)))
      · refine nx_ret1 rfl (rv_tmp rfl) (fun w' s' => ⟨?_, s'.nil⟩)
        have hm : d ∈ l := by rw [← ht]; exact List.getElem_mem hkl
        simp [hasC, hm]
      · refine nx_round (k + 1) ⟨by omega, fun j hj hjk => ?_⟩ (by omega) ts_ (fun _ s => s)
        by_cases hjk' : j = k
        · subst hjk'; exact ht
        · exact hno j hj (by omega)
    · omega
  · repeat' (first|(refine ycf ?_;apply ybk;(·first|(first|(refine yad rfl (hel _) ?_;rfl)|exact qv_eql_agg rfl rfl (fun w => dot_eq _ _ w))|(apply yae;(·rfl);(·(first|exact ycl (yaz 1 rfl) (d.1 - 1).toNat (by omega) (by omega)|exact yck (yaz 1 rfl) hu rfl))));(·rfl);(·rfl))|refine t1_ ?_|(refine ta_ ?_;intro _)|((fail_if_success (refine ybi rfl ?_));refine ybj rfl ?_ ?_<;>(intro ht;rw [ht];first|replace ht := oet_ ht|replace ht := oef_ ht|skip))|(refine ych ?_;first|(refine ybw rfl ?_ ?_<;>intro ht)|(refine ybx rfl ?_ ?_<;>intro ht)))
    · omega
    · refine nx_ret1 rfl (rv_tmp rfl) (fun w' s' => ⟨?_, s'.nil⟩)
      have hm : d ∉ l := fun hm => by
        obtain ⟨j, hj, hjd⟩ := List.getElem_of_mem hm
        exact hno j hj (by omega) hjd
      unfold hasC
      rw [hf, decide_eq_false hm]; rfl
theorem refSame_sp (cv dvv : Value) (u v : List Int) (l m : List Dt) (h : View) (hc : Cx h cv u l) (hd : Cx h dvv v m) (hl : l.length ≤ 4611686018427387904) (hm : m.length ≤ 4611686018427387904) (w : World) (s : St ⟨w, h, []⟩ h [] w) :
    Calls Tryz.prog 13 [cv, dvv].toArray w fun e w' => e = .returned (.bool (decide (u = v) && decide (l = m))) ∧ St ⟨w, h, []⟩ h [] w' := by
  obtain ⟨hu, mv, rfl, hs⟩ := hc
  obtain ⟨hv, nv, rfl, hs2⟩ := hd
  obtain ⟨_, ad, cap, rfl, hcap, _⟩ := id hs
  obtain ⟨_, ad2, cap2, rfl, hcap2, _⟩ := id hs2
  refine calls_enter Tryz.func13 rfl Tryz.ntmps13 rfl s ?_
  repeat' (first|(refine ycf ?_;apply ybk;(·first|(first|(apply yad;(·rfl);(·exact ycm (yaz 0 rfl));(·simp [up, hv]))|(apply yad;(·rfl);(·exact ycm (yaz 1 rfl));(·simp [up, hu]))|(apply qv_neq_agg;(·rfl);(·rfl);(·exact fun w => run_equal_arr u v hu hv w)))|(apply yae;(·rfl);(·(first|exact yck (yaz 0 rfl) hv rfl|exact yck (yaz 1 rfl) hu rfl))));(·rfl);(·rfl))|refine t1_ ?_|(refine ta_ ?_;intro _)|((fail_if_success (refine ybi rfl ?_));refine ybj rfl ?_ ?_<;>(intro ht;rw [ht];first|replace ht := oet_ ht|replace ht := oef_ ht|skip))|(refine ych ?_;first|(refine ybw rfl ?_ ?_<;>intro ht)|(refine ybx rfl ?_ ?_<;>intro ht)))
  · have hne := ht
    refine nx_ret1 rfl (rv_tmp rfl) (fun w' s' => ⟨?_, s'.nil⟩)
    have : ¬ u = v := by simpa using hne
    simp [this]
  · have hne := ht
    refine nx_ret1 rfl (rv_tmp rfl) (fun w' s' => ⟨?_, s'.nil⟩)
    have : ¬ l = m := fun e => by rw [e] at hne; exact hne rfl
    simp [this]
  · rename_i b2 b1 huv0
    have huv : u = v := by simpa using huv0
    have hlm : l.length = m.length := by omega
    clear ht huv0
    refine cx_loop (X := Nat) (fun k => [(2, .pointer (some ⟨b2, 0, none⟩)), (3, .pointer (some ⟨b1, 0, none⟩)), (5, .int .i64 k)]) (fun _ => h) (fun _ => _) (fun k => k ≤ l.length ∧ ∀ j (hj : j < l.length), j < k → l[j] = m[j]'(by omega)) (fun k => l.length - k) 0 ⟨by omega, by omega⟩ ts_ (fun _ s => s) ?_
    rintro k ⟨hk, hno⟩
    by_cases hkl : k < l.length
    · obtain ⟨bs, o, rfl⟩ := hs.ad (by omega) (by omega)
      obtain ⟨bt, o2, rfl⟩ := hs2.ad (by omega) (by omega)
      have hkm : k < m.length := by omega
      have hel : ∀ L, Cells h L ⟨bs, o + k * 2, none⟩ (dcs l[k]) := fun L => hs.elem dcs_len k hkl
      have hel2 : ∀ L, Cells h L ⟨bt, o2 + k * 2, none⟩ (dcs m[k]) := fun L => hs2.elem dcs_len k hkm
      repeat' (first|(refine ycf ?_;apply ybk;(·first|(first|(apply yad;(·rfl);(·exact ycm (yaz 0 rfl));(·simp [up, hv]))|(apply yad;(·rfl);(·exact ycm (yaz 1 rfl));(·simp [up, hu]))|(apply qv_neq_agg;(·rfl);(·rfl);(·exact fun w => run_equal_arr u v hu hv w)))|(apply yae;(·rfl);(·(first|exact yck (yaz 0 rfl) hv rfl|exact yck (yaz 1 rfl) hu rfl))));(·rfl);(·rfl))|refine t1_ ?_|(refine ta_ ?_;intro _)|((fail_if_success (refine ybi rfl ?_));refine ybj rfl ?_ ?_<;>(intro ht;rw [ht];first|replace ht := oet_ ht|replace ht := oef_ ht|skip))|(refine ych ?_;first|(refine ybw rfl ?_ ?_<;>intro ht)|(refine ybx rfl ?_ ?_<;>intro ht)))
      · refine cx_region_draw' rfl (by kernel_rfl) ?_
        repeat' (refine ycf ?_;(first|(first|(apply ybm;(·(first|(first|(refine yad rfl (hel _) ?_;rfl)|(refine yad rfl (hel2 _) ?_;rfl)|exact qv_neq_agg rfl rfl (fun w => dot_eq _ _ w))|(apply yae;(·rfl);(·(first|exact yck (yaz 0 rfl) hv rfl|exact yck (yaz 1 rfl) hu rfl)))|exact tq_));(·rfl);(·rfl);(·(exact th_)))|refine ybl rfl rfl ?_|((fail_if_success (refine ybi rfl ?_));refine ybj rfl ?_ ?_<;>(intro ht;rw [ht];first|replace ht := oet_ ht|replace ht := oef_ ht|skip))|(refine tb_ ?_ ?_ ?_;(·(exact to_));(·intro _;(exact to_));intro _)|(first|(refine tqs_ ?_ ?_ ?_;(·(exact to_));(·(exact to_))))|(apply ybn;(·(first|(first|(refine yad rfl (hel _) ?_;rfl)|(refine yad rfl (hel2 _) ?_;rfl)|exact qv_neq_agg rfl rfl (fun w => dot_eq _ _ w))|(apply yae;(·rfl);(·(first|exact yck (yaz 0 rfl) hv rfl|exact yck (yaz 1 rfl) hu rfl)))|exact tq_));(·rfl);(·rfl);(·rfl);(·(exact to_))))|refine ycg ?_))
        repeat' (first|(refine ycf ?_;apply ybk;(·first|(first|(refine yad rfl (hel _) ?_;rfl)|(refine yad rfl (hel2 _) ?_;rfl)|exact qv_neq_agg rfl rfl (fun w => dot_eq _ _ w))|(apply yae;(·rfl);(·(first|exact yck (yaz 0 rfl) hv rfl|exact yck (yaz 1 rfl) hu rfl))));(·rfl);(·rfl))|refine t1_ ?_|(refine ta_ ?_;intro _)|((fail_if_success (refine ybi rfl ?_));refine ybj rfl ?_ ?_<;>(intro ht;rw [ht];first|replace ht := oet_ ht|replace ht := oef_ ht|skip))|(refine ych ?_;first|(refine ybw rfl ?_ ?_<;>intro ht)|(refine ybx rfl ?_ ?_<;>intro ht)))
        · have hne := ht
          refine nx_ret1 rfl (rv_tmp rfl) (fun w' s' => ⟨?_, s'.nil⟩)
          have : ¬ l = m := fun e => by
            subst e
            simp at hne
          simp [this]
        · have hne := ht
          refine nx_round (k + 1) ⟨by omega, fun j hj hjk => ?_⟩ (by omega) ts_ (fun _ s => s)
          by_cases hjk' : j = k
          · subst hjk'; simpa using hne
          · exact hno j hj (by omega)
      · omega
    · repeat' (first|(refine ycf ?_;apply ybk;(·first|(first|(refine yad rfl (hel _) ?_;rfl)|(refine yad rfl (hel2 _) ?_;rfl)|exact qv_neq_agg rfl rfl (fun w => dot_eq _ _ w))|(apply yae;(·rfl);(·(first|exact yck (yaz 0 rfl) hv rfl|exact yck (yaz 1 rfl) hu rfl))));(·rfl);(·rfl))|refine t1_ ?_|(refine ta_ ?_;intro _)|((fail_if_success (refine ybi rfl ?_));refine ybj rfl ?_ ?_<;>(intro ht;rw [ht];first|replace ht := oet_ ht|replace ht := oef_ ht|skip))|(refine ych ?_;first|(refine ybw rfl ?_ ?_<;>intro ht)|(refine ybx rfl ?_ ?_<;>intro ht)))
      · omega
      · refine nx_ret1 rfl (rv_tmp rfl) (fun w' s' => ⟨?_, s'.nil⟩)
        have : l = m := List.ext_getElem hlm fun i h1 h2 => hno i h1 (by omega)
        simp [this, huv]
end Go.Proofs.YtkkjppeaaicgaaaGreatDoor
end

section
namespace Go.Proofs.YtkkjppeaaicgaaaGreatDoor
open Go Go.Ck
set_option maxRecDepth 100000
set_option maxHeartbeats 1000000
set_option linter.unusedVariables false
theorem ord_neg {x y : Dt} : ordD x y < 0 ↔ (x.1 < y.1 ∨ x.1 = y.1 ∧ x.2 < y.2) := by
  have := ord_lt x y
  unfold ltOf at this
  rwa [decide_eq_decide] at this
theorem refCheck_sp (cv : Value) (u : List Int) (l : List Dt) (h : View) (hc : Cx h cv u l) (hl : l.length ≤ 4611686018427387904) (w : World) (s : St ⟨w, h, []⟩ h [] w) :
    Calls Tryz.prog 52 [cv].toArray w fun e w' => e = .returned (.int .i64 (checkC u l)) ∧ St ⟨w, h, []⟩ h [] w' := by
  obtain ⟨hu, mv, rfl, hs⟩ := hc
  obtain ⟨_, ad, cap, rfl, hcap, _⟩ := id hs
  refine calls_enter Tryz.func52 rfl Tryz.ntmps52 rfl s ?_
  repeat' (first|refine tw_ ?_|(refine ta_ ?_;intro _)|((fail_if_success (refine ybi rfl ?_));refine ybj rfl ?_ ?_<;>(intro ht;rw [ht];first|replace ht := oet_ ht|replace ht := oef_ ht|skip))|(refine ych ?_;first|(refine ybw rfl ?_ ?_<;>intro ht)|(refine ybx rfl ?_ ?_<;>intro ht)))
  rename_i b
  refine cx_loop (X := Nat) (fun k => [(1, .pointer (some ⟨b, 0, none⟩)), (3, .int .i64 k)]) (fun _ => h) (fun _ => _) (fun k => k ≤ 16 ∧ ∀ j (hj : j < u.length), j < k → 0 ≤ u[j] ∧ u[j] ≤ 1099511627776) (fun k => 16 - k) 0 ⟨by omega, by omega⟩ ts_ (fun _ s => s) ?_
  rintro k ⟨hk, hok⟩
  by_cases hk16 : k < 16
  · have hku : k < u.length := by omega
    have egk : u.getD k 0 = u[k] := by simp [hku]
    repeat' (first|(refine ycf ?_;apply ybk;(·first|(apply yae;(·rfl);(·(first|exact ycl (yaz 0 rfl) k (by omega) hku))));(·rfl);(·rfl))|refine t1_ ?_|(refine ta_ ?_;intro _)|((fail_if_success (refine ybi rfl ?_));refine ybj rfl ?_ ?_<;>(intro ht;rw [ht];first|replace ht := oet_ ht|replace ht := oef_ ht|skip))|(refine ych ?_;first|(refine ybw rfl ?_ ?_<;>intro ht)|(refine ybx rfl ?_ ?_<;>intro ht)))
    · refine nx_ret1 rfl (rv_tmp rfl) (fun w' s' => ⟨?_, s'.nil⟩)
      have : upOk u = false := by
        cases hx : upOk u with
        | false => rfl
        | true => have := upOk_iff.1 hx _ (List.getElem_mem hku); omega
      simp [checkC, this]
    · refine nx_ret1 rfl (rv_tmp rfl) (fun w' s' => ⟨?_, s'.nil⟩)
      have : upOk u = false := by
        cases hx : upOk u with
        | false => rfl
        | true => have := upOk_iff.1 hx _ (List.getElem_mem hku); omega
      simp [checkC, this]
    · refine nx_round (k + 1) ⟨by omega, fun j hj hjk => ?_⟩ (by omega) ts_ (fun _ s => s)
      by_cases hjk' : j = k
      · subst hjk'; omega
      · exact hok j hj (by omega)
    · omega
  · have hup : upOk u = true := upOk_iff.2 fun x hx => by
      obtain ⟨j, hj, rfl⟩ := List.getElem_of_mem hx
      exact hok j hj (by omega)
    have hub := upOk_iff.1 hup
    repeat' (first|(refine ycf ?_;apply ybk;(·first|(apply yae;(·rfl);(·(first|exact yck (yaz 0 rfl) hu rfl))));(·rfl);(·rfl))|refine t1_ ?_|(refine ta_ ?_;intro _)|((fail_if_success (refine ybi rfl ?_));refine ybj rfl ?_ ?_<;>(intro ht;rw [ht];first|replace ht := oet_ ht|replace ht := oef_ ht|skip))|(refine ych ?_;first|(refine ybw rfl ?_ ?_<;>intro ht)|(refine ybx rfl ?_ ?_<;>intro ht)))
    · omega
    · refine nx_ret1 rfl (rv_tmp rfl) (fun w' s' => ⟨?_, s'.nil⟩)
      have : 32 < l.length := by omega
      simp [checkC, hup, this]
    have hl32 : l.length ≤ 32 := by omega
    refine cx_loop (X := Nat) (fun k => [(1, .pointer (some ⟨b, 0, none⟩)), (4, .int .i64 k)]) (fun _ => h) (fun _ => _) (fun k => k ≤ l.length ∧ ∀ j, j < k → moreB u l j = true) (fun k => l.length - k) 0 ⟨by omega, by omega⟩ ts_ (fun _ s => s) ?_
    rintro j ⟨hj, hm⟩
    by_cases hjl : j < l.length
    · obtain ⟨bs, o, rfl⟩ := hs.ad (by omega) (by omega)
      have hel : ∀ L, Cells h L ⟨bs, o + j * 2, none⟩ (dcs l[j]) := fun L => hs.elem dcs_len j hjl
      have ei : l.getD j (0, 0) = l[j] := by simp [hjl]
      have hdot := refDot_sp l[j] h
      have bad : moreB u l j = false → checkC u l = 1 := fun hM => by
        have h1 : moresOk u l = false := by
          cases hx : moresOk u l with
          | false => rfl
          | true =>
            have := List.all_eq_true.1 hx j (List.mem_range.2 hjl)
            rw [hM] at this; cases this
        have h2 : ¬ 32 < l.length := by omega
        simp [checkC, hup, h1, h2]
      have next : moreB u l j = true → ∀ i, i < j + 1 → moreB u l i = true := fun hM i hi => by
        by_cases hij : i = j
        · subst hij; exact hM
        · exact hm i (by omega)
      unfold moreB at bad next
      rw [ei] at bad next
      cases hR : rightB l[j] with
      | false =>
        rw [hR] at hdot bad
        repeat' (first|(refine ycf ?_;apply ybk;(·first|(first|(refine yad rfl (hel _) ?_;rfl))|(apply yae;(·rfl);(·(first|exact yck (yaz 0 rfl) hu rfl))));(·rfl);(·rfl))|refine t1_ ?_|(refine ta_ ?_;intro _)|((fail_if_success (refine ybi rfl ?_));refine ybj rfl ?_ ?_<;>(intro ht;rw [ht];first|replace ht := oet_ ht|replace ht := oef_ ht|skip))|(refine ych ?_;first|(refine ybw rfl ?_ ?_<;>intro ht)|(refine ybx rfl ?_ ?_<;>intro ht)))
        · refine cx_region_draw' rfl (by kernel_rfl) ?_
          repeat' (refine ycf ?_;(first|(first|(apply ybm;(·(first|(first|(refine yad rfl (hel _) ?_;rfl))|(apply yae;(·rfl);(·(first|exact yck (yaz 0 rfl) hu rfl)))|exact tq_));(·rfl);(·rfl);(·(exact th_)))|refine ybl rfl rfl ?_|((fail_if_success (refine ybi rfl ?_));refine ybj rfl ?_ ?_<;>(intro ht;rw [ht];first|replace ht := oet_ ht|replace ht := oef_ ht|skip))|(refine tb_ ?_ ?_ ?_;(·(exact to_));(·intro _;(exact to_));intro _)|(first|(refine tqs_ ?_ ?_ ?_;(·(exact to_));(·(exact to_))))|(apply ybn;(·(first|(first|(refine yad rfl (hel _) ?_;rfl))|(apply yae;(·rfl);(·(first|exact yck (yaz 0 rfl) hu rfl)))|exact tq_));(·rfl);(·rfl);(·rfl);(·(exact to_))))|refine ycg ?_))
          (refine ycn (ycp Tryz.func51 rfl (by kernel_rfl) rfl) (hdot) rfl rfl rfl ?_ ?_; (· (exact to_)))
          repeat' (refine ycf ?_;(first|(first|(apply ybm;(·(first|(first|(refine yad rfl (hel _) ?_;rfl))|(apply yae;(·rfl);(·(first|exact yck (yaz 0 rfl) hu rfl)))|exact tq_));(·rfl);(·rfl);(·(exact th_)))|refine ybl rfl rfl ?_|((fail_if_success (refine ybi rfl ?_));refine ybj rfl ?_ ?_<;>(intro ht;rw [ht];first|replace ht := oet_ ht|replace ht := oef_ ht|skip))|(refine tb_ ?_ ?_ ?_;(·(exact to_));(·intro _;(exact to_));intro _)|(first|(refine tqs_ ?_ ?_ ?_;(·(exact to_));(·(exact to_))))|(apply ybn;(·(first|(first|(refine yad rfl (hel _) ?_;rfl))|(apply yae;(·rfl);(·(first|exact yck (yaz 0 rfl) hu rfl)))|exact tq_));(·rfl);(·rfl);(·rfl);(·(exact to_))))|refine ycg ?_))
          repeat' (first|(refine ycf ?_;apply ybk;(·first|(first|(refine yad rfl (hel _) ?_;rfl))|(apply yae;(·rfl);(·(first|exact yck (yaz 0 rfl) hu rfl))));(·rfl);(·rfl))|refine t1_ ?_|(refine ta_ ?_;intro _)|((fail_if_success (refine ybi rfl ?_));refine ybj rfl ?_ ?_<;>(intro ht;rw [ht];first|replace ht := oet_ ht|replace ht := oef_ ht|skip))|(refine ych ?_;first|(refine ybw rfl ?_ ?_<;>intro ht)|(refine ybx rfl ?_ ?_<;>intro ht)))
          refine nx_ret1 rfl (rv_tmp rfl) (fun w' s' => ⟨?_, s'.nil⟩)
          rw [bad rfl]
        · omega
      | true =>
        rw [hR] at hdot bad next
        have hr' := right_of hR
        have hb := hub _ (getD_mem (u := u) (i := (l[j].1 - 1).toNat) (by omega))
        repeat' (first|(refine ycf ?_;apply ybk;(·first|(first|(refine yad rfl (hel _) ?_;rfl))|(apply yae;(·rfl);(·(first|exact ycl (yaz 1 rfl) (l[j].1 - 1).toNat (by omega) (by omega)|exact yck (yaz 1 rfl) hu rfl|exact yck (yaz 0 rfl) hu rfl))));(·rfl);(·rfl))|refine t1_ ?_|(refine ta_ ?_;intro _)|((fail_if_success (refine ybi rfl ?_));refine ybj rfl ?_ ?_<;>(intro ht;rw [ht];first|replace ht := oet_ ht|replace ht := oef_ ht|skip))|(refine ych ?_;first|(refine ybw rfl ?_ ?_<;>intro ht)|(refine ybx rfl ?_ ?_<;>intro ht)))
        · refine cx_region_draw' rfl (by kernel_rfl) ?_
          repeat' (refine ycf ?_;(first|(first|(apply ybm;(·(first|(first|(refine yad rfl (hel _) ?_;rfl))|(apply yae;(·rfl);(·(first|exact ycl (yaz 1 rfl) (l[j].1 - 1).toNat (by omega) (by omega)|exact yck (yaz 1 rfl) hu rfl|exact yck (yaz 0 rfl) hu rfl)))|exact tq_));(·rfl);(·rfl);(·(exact th_)))|refine ybl rfl rfl ?_|((fail_if_success (refine ybi rfl ?_));refine ybj rfl ?_ ?_<;>(intro ht;rw [ht];first|replace ht := oet_ ht|replace ht := oef_ ht|skip))|(refine tb_ ?_ ?_ ?_;(·(exact to_));(·intro _;(exact to_));intro _)|(first|(refine tqs_ ?_ ?_ ?_;(·(exact to_));(·(exact to_))))|(apply ybn;(·(first|(first|(refine yad rfl (hel _) ?_;rfl))|(apply yae;(·rfl);(·(first|exact ycl (yaz 1 rfl) (l[j].1 - 1).toNat (by omega) (by omega)|exact yck (yaz 1 rfl) hu rfl|exact yck (yaz 0 rfl) hu rfl)))|exact tq_));(·rfl);(·rfl);(·rfl);(·(exact to_))))|refine ycg ?_))
          (refine ycn (ycp Tryz.func51 rfl (by kernel_rfl) rfl) (hdot) rfl rfl rfl ?_ ?_; (· (exact to_)))
          repeat' (refine ycf ?_;(first|(first|(apply ybm;(·(first|(first|(refine yad rfl (hel _) ?_;rfl))|(apply yae;(·rfl);(·(first|exact ycl (yaz 1 rfl) (l[j].1 - 1).toNat (by omega) (by omega)|exact yck (yaz 1 rfl) hu rfl|exact yck (yaz 0 rfl) hu rfl)))|exact tq_));(·rfl);(·rfl);(·(exact th_)))|refine ybl rfl rfl ?_|((fail_if_success (refine ybi rfl ?_));refine ybj rfl ?_ ?_<;>(intro ht;rw [ht];first|replace ht := oet_ ht|replace ht := oef_ ht|skip))|(refine tb_ ?_ ?_ ?_;(·(exact to_));(·intro _;(exact to_));intro _)|(first|(refine tqs_ ?_ ?_ ?_;(·(exact to_));(·(exact to_))))|(apply ybn;(·(first|(first|(refine yad rfl (hel _) ?_;rfl))|(apply yae;(·rfl);(·(first|exact ycl (yaz 1 rfl) (l[j].1 - 1).toNat (by omega) (by omega)|exact yck (yaz 1 rfl) hu rfl|exact yck (yaz 0 rfl) hu rfl)))|exact tq_));(·rfl);(·rfl);(·rfl);(·(exact to_))))|refine ycg ?_))
          repeat' (first|(refine ycf ?_;apply ybk;(·first|(first|(refine yad rfl (hel _) ?_;rfl))|(apply yae;(·rfl);(·(first|exact ycl (yaz 1 rfl) (l[j].1 - 1).toNat (by omega) (by omega)|exact yck (yaz 1 rfl) hu rfl|exact yck (yaz 0 rfl) hu rfl))));(·rfl);(·rfl))|refine t1_ ?_|(refine ta_ ?_;intro _)|((fail_if_success (refine ybi rfl ?_));refine ybj rfl ?_ ?_<;>(intro ht;rw [ht];first|replace ht := oet_ ht|replace ht := oef_ ht|skip))|(refine ych ?_;first|(refine ybw rfl ?_ ?_<;>intro ht)|(refine ybx rfl ?_ ?_<;>intro ht)))
          · have hge := ht
            have hf : decide (uD u l[j] + 1 < l[j].2) = false := decide_eq_false (by unfold uD; omega)
            refine nx_ret1 rfl (rv_tmp rfl) (fun w' s' => ⟨?_, s'.nil⟩)
            rw [bad (by rw [hf, Bool.and_false, Bool.false_and])]
          · have hge := ht
            have hT : decide (uD u l[j] + 1 < l[j].2) = true := decide_eq_true (by unfold uD; omega)
            by_cases h0 : j = 0
            · subst h0
              refine cx_region_draw' rfl (by kernel_rfl) ?_
              repeat' (refine ycf ?_;(first|(first|(apply ybm;(·(first|(first|(refine yad rfl (hel _) ?_;rfl))|(apply yae;(·rfl);(·(first|exact ycl (yaz 1 rfl) (l[j].1 - 1).toNat (by omega) (by omega)|exact yck (yaz 1 rfl) hu rfl|exact yck (yaz 0 rfl) hu rfl)))|exact tq_));(·rfl);(·rfl);(·(exact th_)))|refine ybl rfl rfl ?_|((fail_if_success (refine ybi rfl ?_));refine ybj rfl ?_ ?_<;>(intro ht;rw [ht];first|replace ht := oet_ ht|replace ht := oef_ ht|skip))|(refine tb_ ?_ ?_ ?_;(·(exact to_));(·intro _;(exact to_));intro _)|(first|(refine tqs_ ?_ ?_ ?_;(·(exact to_));(·(exact to_))))|(apply ybn;(·(first|(first|(refine yad rfl (hel _) ?_;rfl))|(apply yae;(·rfl);(·(first|exact ycl (yaz 1 rfl) (l[j].1 - 1).toNat (by omega) (by omega)|exact yck (yaz 1 rfl) hu rfl|exact yck (yaz 0 rfl) hu rfl)))|exact tq_));(·rfl);(·rfl);(·rfl);(·(exact to_))))|refine ycg ?_))
              repeat' (first|(refine ycf ?_;apply ybk;(·first|(first|(refine yad rfl (hel _) ?_;rfl))|(apply yae;(·rfl);(·(first|exact ycl (yaz 1 rfl) (l[j].1 - 1).toNat (by omega) (by omega)|exact yck (yaz 1 rfl) hu rfl|exact yck (yaz 0 rfl) hu rfl))));(·rfl);(·rfl))|refine t1_ ?_|(refine ta_ ?_;intro _)|((fail_if_success (refine ybi rfl ?_));refine ybj rfl ?_ ?_<;>(intro ht;rw [ht];first|replace ht := oet_ ht|replace ht := oef_ ht|skip))|(refine ych ?_;first|(refine ybw rfl ?_ ?_<;>intro ht)|(refine ybx rfl ?_ ?_<;>intro ht)))
              refine nx_round 1 ⟨by omega, next (by rw [hT]; rfl)⟩ (by omega) ts_ (fun _ s => s.tl)
            · have hel2 : ∀ L, Cells h L ⟨bs, o + (j - 1) * 2, none⟩ (dcs l[j - 1]) := fun L => hs.elem dcs_len (j - 1) (by omega)
              have ei2 : l.getD (j - 1) (0, 0) = l[j - 1] := by simp [show j - 1 < l.length by omega]
              have hjj : ((j : Int) - 1).toNat = j - 1 := by omega
              have hc0 : ∀ L, CellAt h L bs (o + ((j : Int) - 1).toNat * 2 + 0) (.int .i64 l[j - 1].1) := fun L => by rw [hjj]; exact (hel2 L).cell (j := 0) rfl
              have hc1 : ∀ L, CellAt h L bs (o + ((j : Int) - 1).toNat * 2 + 1) (.int .i64 l[j - 1].2) := fun L => by rw [hjj]; exact (hel2 L).cell (j := 1) rfl
              rw [ei2, hT, decide_eq_false h0, Bool.and_true, Bool.true_and, Bool.false_or] at next bad
              refine cx_region_draw' rfl (by kernel_rfl) ?_
              repeat' (refine ycf ?_;(first|(first|(apply ybm;(·(first|(first|(refine yad rfl (hel _) ?_;rfl))|(apply yae;(·rfl);(·(first|exact hc0 _|exact hc1 _|exact ycl (yaz 1 rfl) (l[j].1 - 1).toNat (by omega) (by omega)|exact yck (yaz 1 rfl) hu rfl)))|exact tq_));(·rfl);(·rfl);(·(exact th_)))|refine ybl rfl rfl ?_|((fail_if_success (refine ybi rfl ?_));refine ybj rfl ?_ ?_<;>(intro ht;rw [ht];first|replace ht := oet_ ht|replace ht := oef_ ht|skip))|(refine tb_ ?_ ?_ ?_;(·(exact to_));(·intro _;(exact to_));intro _)|(first|(refine tqs_ ?_ ?_ ?_;(·(exact to_));(·(exact to_))))|(apply ybn;(·(first|(first|(refine yad rfl (hel _) ?_;rfl))|(apply yae;(·rfl);(·(first|exact hc0 _|exact hc1 _|exact ycl (yaz 1 rfl) (l[j].1 - 1).toNat (by omega) (by omega)|exact yck (yaz 1 rfl) hu rfl)))|exact tq_));(·rfl);(·rfl);(·rfl);(·(exact to_))))|refine ycg ?_))
              · have hq := ht
                have hf : decide (ordD l[j - 1] l[j] < 0) = false := decide_eq_false (fun hx => by rw [ord_neg] at hx; omega)
                repeat' (first|(refine ycf ?_;apply ybk;(·first|(first|(refine yad rfl (hel _) ?_;rfl))|(apply yae;(·rfl);(·(first|exact hc0 _|exact hc1 _|exact ycl (yaz 1 rfl) (l[j].1 - 1).toNat (by omega) (by omega)|exact yck (yaz 1 rfl) hu rfl))));(·rfl);(·rfl))|refine t1_ ?_|(refine ta_ ?_;intro _)|((fail_if_success (refine ybi rfl ?_));refine ybj rfl ?_ ?_<;>(intro ht;rw [ht];first|replace ht := oet_ ht|replace ht := oef_ ht|skip))|(refine ych ?_;first|(refine ybw rfl ?_ ?_<;>intro ht)|(refine ybx rfl ?_ ?_<;>intro ht)))
                refine nx_ret1 rfl (rv_tmp rfl) (fun w' s' => ⟨?_, s'.nil⟩)
                rw [bad hf]
              · have hq := ht
                repeat' (first|(refine ycf ?_;apply ybk;(·first|(first|(refine yad rfl (hel _) ?_;rfl))|(apply yae;(·rfl);(·(first|exact hc0 _|exact hc1 _|exact ycl (yaz 1 rfl) (l[j].1 - 1).toNat (by omega) (by omega)|exact yck (yaz 1 rfl) hu rfl))));(·rfl);(·rfl))|refine t1_ ?_|(refine ta_ ?_;intro _)|((fail_if_success (refine ybi rfl ?_));refine ybj rfl ?_ ?_<;>(intro ht;rw [ht];first|replace ht := oet_ ht|replace ht := oef_ ht|skip))|(refine ych ?_;first|(refine ybw rfl ?_ ?_<;>intro ht)|(refine ybx rfl ?_ ?_<;>intro ht)))
                · have hf : decide (ordD l[j - 1] l[j] < 0) = false := decide_eq_false (fun hx => by rw [ord_neg] at hx; omega)
                  refine nx_ret1 rfl (rv_tmp rfl) (fun w' s' => ⟨?_, s'.nil⟩)
                  rw [bad hf]
                · have hf : decide (ordD l[j - 1] l[j] < 0) = true := decide_eq_true (by rw [ord_neg]; omega)
                  refine nx_round (j + 1) ⟨by omega, next hf⟩ (by omega) ts_ (fun _ s => s.tl)
              · have hq := ht
                have hf : decide (ordD l[j - 1] l[j] < 0) = true := decide_eq_true (by rw [ord_neg]; omega)
                repeat' (first|(refine ycf ?_;apply ybk;(·first|(first|(refine yad rfl (hel _) ?_;rfl))|(apply yae;(·rfl);(·(first|exact hc0 _|exact hc1 _|exact ycl (yaz 1 rfl) (l[j].1 - 1).toNat (by omega) (by omega)|exact yck (yaz 1 rfl) hu rfl))));(·rfl);(·rfl))|refine t1_ ?_|(refine ta_ ?_;intro _)|((fail_if_success (refine ybi rfl ?_));refine ybj rfl ?_ ?_<;>(intro ht;rw [ht];first|replace ht := oet_ ht|replace ht := oef_ ht|skip))|(refine ych ?_;first|(refine ybw rfl ?_ ?_<;>intro ht)|(refine ybx rfl ?_ ?_<;>intro ht)))
                refine nx_round (j + 1) ⟨by omega, next hf⟩ (by omega) ts_ (fun _ s => s.tl)
              · omega
        · omega
    ·
      repeat' (first|(refine ycf ?_;apply ybk;(·first|(first|(refine yad rfl (hel _) ?_;rfl))|(apply yae;(·rfl);(·(first|exact yck (yaz 0 rfl) hu rfl))));(·rfl);(·rfl))|refine t1_ ?_|(refine ta_ ?_;intro _)|((fail_if_success (refine ybi rfl ?_));refine ybj rfl ?_ ?_<;>(intro ht;rw [ht];first|replace ht := oet_ ht|replace ht := oef_ ht|skip))|(refine ych ?_;first|(refine ybw rfl ?_ ?_<;>intro ht)|(refine ybx rfl ?_ ?_<;>intro ht)))
      · omega
      refine nx_ret1 rfl (rv_tmp rfl) (fun w' s' => ⟨?_, s'.nil⟩)
      have h1 : moresOk u l = true := List.all_eq_true.2 fun i hi => hm i (by have := List.mem_range.1 hi; omega)
      have h2 : ¬ 32 < l.length := by omega
      simp [checkC, hup, h1, h2]
end Go.Proofs.YtkkjppeaaicgaaaGreatDoor
end

section
namespace Go.Proofs.YtkkjppeaaicgaaaGreatDoor
open Go Go.Ck
set_option maxRecDepth 100000
set_option maxHeartbeats 2000000
set_option linter.unusedVariables false
theorem putLow_val : ∀ {l : List Int}, Bytes l → (putLow l.length (valB l)).reverse = l := by
  intro l
  rw [show l = l.reverse.reverse by simp]
  generalize l.reverse = r
  induction r with
  | nil => intro _; rfl
  | cons c r ih =>
    intro hb
    have hb' : Bytes r.reverse := fun x hx => hb x (by simp at hx ⊢; exact .inl hx)
    have hc := hb c (by simp)
    have e : valB (c :: r).reverse = valB r.reverse * 256 + c := by
      rw [List.reverse_cons]
      unfold valB
      rw [List.foldl_append]
      rfl
    rw [e, List.reverse_cons, List.length_append, List.length_singleton, putLow, List.reverse_cons, show (valB r.reverse * 256 + c) % 256 = c by omega, show (valB r.reverse * 256 + c) / 256 = valB r.reverse by omega, ih hb']
theorem val_putLow : ∀ (k : Nat) (x : Int), 0 ≤ x → x < 256 ^ k → valB (putLow k x).reverse = x
  | 0, x, h0, h1 => by
    rw [Int.pow_zero] at h1
    have : x = 0 := by omega
    subst this; rfl
  | k + 1, x, h0, h1 => by
    rw [Int.pow_succ] at h1
    have ih := val_putLow k (x / 256) (by omega) (by omega)
    rw [putLow, List.reverse_cons]
    unfold valB at ih ⊢
    rw [List.foldl_append, ih]
    show x / 256 * 256 + x % 256 = x
    omega
theorem putLow_bytes : ∀ (k : Nat) (x : Int), Bytes (putLow k x)
  | 0, x => fun b hb => by cases hb
  | k + 1, x => fun b hb => by
    rcases List.mem_cons.1 hb with rfl | hb
    · omega
    · exact putLow_bytes k _ b hb
theorem putLow_bytes' (k : Nat) (x : Int) : Bytes (putLow k x).reverse := fun b hb => putLow_bytes k x b (List.mem_reverse.1 hb)
theorem numC_took {s : RS} (hb : Bytes s.1) {size : Nat} {most : Int} (h : (numC s size most).2.2 = 0) :
    s.2 = 0 ∧ (putLow size (numC s size most).1).reverse ++ (numC s size most).2.1 = s.1 := by
  unfold numC at h ⊢
  by_cases h0 : s.2 ≠ 0
  · rw [if_pos h0] at h; exact absurd h h0
  · rw [if_neg h0] at h ⊢
    refine ⟨Decidable.not_not.1 h0, ?_⟩
    by_cases h1 : (lookC s.1 size most).2 = 0
    · rw [if_pos h1]
      have hl := lookC_len h1
      have e : (lookC s.1 size most).1 = valB (s.1.take size) := by
        unfold lookC at h1 ⊢
        split
        · rename_i h2; rw [if_pos h2] at h1; cases h1
        · rename_i h2
          rw [if_neg h2] at h1
          split
          · rename_i h3; rw [if_pos h3] at h1; cases h1
          · rfl
      dsimp only
      rw [e]
      have hp := putLow_val (l := s.1.take size) (fun x hx => hb x (List.mem_of_mem_take hx))
      rw [List.length_take, Nat.min_eq_left hl] at hp
      rw [hp, List.take_append_drop]
    · rw [if_neg h1] at h; exact absurd h h1
theorem upsC_took {s : RS} (hs : RsOk s) : ∀ k, (upsC k s).2.2 = 0 → s.2 = 0 ∧ (upsC k s).1.flatMap num8 ++ (upsC k s).2.1 = s.1
  | 0, h => ⟨h, rfl⟩
  | k + 1, h => by
    obtain ⟨h1, h2⟩ := numC_took (upsC_ok hs k).1.b h
    obtain ⟨h3, h4⟩ := upsC_took hs k h1
    refine ⟨h3, ?_⟩
    show ((upsC k s).1 ++ [_]).flatMap num8 ++ _ = _
    rw [List.flatMap_append, List.append_assoc]
    refine Eq.trans (congrArg ((upsC k s).1.flatMap num8 ++ ·) ?_) h4
    rw [← h2]
    simp [num8, upsC]
theorem dsC_took {s : RS} (hs : RsOk s) : ∀ k, (dsC k s).2.2 = 0 → s.2 = 0 ∧ (dsC k s).1.flatMap encD ++ (dsC k s).2.1 = s.1
  | 0, h => ⟨h, rfl⟩
  | k + 1, h => by
    have hk := (dsC_ok hs k).1
    obtain ⟨h1, h2⟩ := numC_took (hk.num 8 1099511627776).b h
    obtain ⟨h1', h2'⟩ := numC_took hk.b h1
    obtain ⟨h3, h4⟩ := dsC_took hs k h1'
    refine ⟨h3, ?_⟩
    show ((dsC k s).1 ++ [_]).flatMap encD ++ _ = _
    rw [List.flatMap_append, List.append_assoc]
    refine Eq.trans (congrArg ((dsC k s).1.flatMap encD ++ ·) ?_) h4
    rw [← h2', ← h2]
    simp [encD, num8, dsC]
theorem rd_took {l : List Int} (hb : Bytes l) (hl : l.length ≤ 1000000) (he : endC (rdC l).2.2 = 0) : encW (rdC l).1 (rdC l).2.1 = l ∧ (rdC l).1.length = 16 ∧ (rdC l).2.1.length ≤ 32 := by
  have hs : RsOk (l, 0) := ⟨hb, hl⟩
  have hu := (upsC_ok hs 16).1
  have h16 := (upsC_ok hs 16).2
  have hok2 : RsOk (smC l).2 := hu.num _ _
  have hbd : 0 ≤ (smC l).1 ∧ (smC l).1 ≤ 32 := numC_bd hu (by omega)
  have hdl := (dsC_ok hok2 (smC l).1.toNat).2
  have hz : (rdC l).2.2.2 = 0 ∧ (rdC l).2.2.1 = [] := by
    unfold endC at he
    split at he
    · cases he
    · rename_i h1
      refine ⟨he, ?_⟩
      have : ¬ 0 < (rdC l).2.2.1.length := fun h => h1 ⟨he, h⟩
      exact List.length_eq_zero_iff.1 (by omega)
  obtain ⟨h1, h2⟩ := dsC_took hok2 (smC l).1.toNat hz.1
  obtain ⟨h3, h4⟩ := numC_took hu.b (show (numC (upsC 16 (l, 0)).2 1 32).2.2 = 0 from h1)
  obtain ⟨_, h6⟩ := upsC_took hs 16 h3
  refine ⟨?_, h16, ?_⟩
  · show (upsC 16 (l, 0)).1.flatMap num8 ++ num1 ((dsC (smC l).1.toNat (smC l).2).1.length : Int) ++ (dsC (smC l).1.toNat (smC l).2).1.flatMap encD = l
    rw [hdl, Int.toNat_of_nonneg hbd.1, List.append_assoc]
    refine Eq.trans (congrArg ((upsC 16 (l, 0)).1.flatMap num8 ++ ·) ?_) h6
    refine Eq.trans ?_ h4
    show num1 (smC l).1 ++ _ = (putLow 1 (smC l).1).reverse ++ (smC l).2.1
    rw [← h2]
    have : (dsC (smC l).1.toNat (smC l).2).2.1 = [] := hz.2
    rw [this, List.append_nil]
    rfl
  · show (dsC (smC l).1.toNat (smC l).2).1.length ≤ 32
    omega
theorem numC_put {size : Nat} {x most : Int} {r : List Int} (h0 : 0 ≤ x) (h1 : x ≤ most) (h2 : x < 256 ^ size) : numC ((putLow size x).reverse ++ r, 0) size most = (x, (r, 0)) := by
  have hl : (putLow size x).reverse.length = size := by rw [List.length_reverse, putLow_len]
  have ht : ((putLow size x).reverse ++ r).take size = (putLow size x).reverse := by
    conv => lhs; arg 1; rw [← hl]
    exact List.take_left
  have hd : ((putLow size x).reverse ++ r).drop size = r := by
    conv => lhs; arg 1; rw [← hl]
    exact List.drop_left
  have hk : lookC ((putLow size x).reverse ++ r) size most = (x, 0) := by
    unfold lookC
    rw [if_neg (by rw [List.length_append, hl]; omega), ht, val_putLow size x h0 h2, if_neg (by omega)]
  unfold numC
  rw [if_neg (by simp)]
  dsimp only
  rw [hk, if_pos rfl, hd]
theorem numC_num8 {x : Int} {r : List Int} (h : 0 ≤ x ∧ x ≤ 1099511627776) : numC (num8 x ++ r, 0) 8 1099511627776 = (x, (r, 0)) :=
  numC_put h.1 h.2 (by have : (256 : Int) ^ 8 = 18446744073709551616 := by decide
                       rw [this]; omega)
theorem upsC_put : ∀ (u : List Int) (r : List Int), (∀ x ∈ u, 0 ≤ x ∧ x ≤ 1099511627776) → ∀ k, k ≤ u.length → upsC k (u.flatMap num8 ++ r, 0) = (u.take k, ((u.drop k).flatMap num8 ++ r, 0)) := by
  intro u r hu k
  induction k with
  | zero => intro _; rfl
  | succ k ih =>
    intro hk
    rw [upsC, ih (by omega), List.drop_eq_getElem_cons (by omega : k < u.length), List.flatMap_cons, List.append_assoc]
    dsimp only
    rw [numC_num8 (hu _ (List.getElem_mem _)), List.take_succ_eq_append_getElem (by omega)]
theorem dsC_put : ∀ (l : List Dt) (r : List Int), (∀ d ∈ l, (0 ≤ d.1 ∧ d.1 ≤ 1099511627776) ∧ 0 ≤ d.2 ∧ d.2 ≤ 1099511627776) → ∀ k, k ≤ l.length → dsC k (l.flatMap encD ++ r, 0) = (l.take k, ((l.drop k).flatMap encD ++ r, 0)) := by
  intro l r hl k
  induction k with
  | zero => intro _; rfl
  | succ k ih =>
    intro hk
    have hd := hl _ (List.getElem_mem (by omega : k < l.length))
    rw [dsC, ih (by omega), List.drop_eq_getElem_cons (by omega : k < l.length), List.flatMap_cons, encD, List.append_assoc, List.append_assoc]
    dsimp only
    rw [numC_num8 hd.1]
    dsimp only
    rw [numC_num8 hd.2, List.take_succ_eq_append_getElem (by omega)]
theorem rd_put {u : List Int} {l : List Dt} (hu : u.length = 16) (hk : checkC u l = 0) : rdC (encW u l) = (u, l, ([], 0)) ∧ (encW u l).length ≤ 700 := by
  obtain ⟨hub, hl32, hlr⟩ := check_right hk
  have e1 : upsC 16 (encW u l, 0) = (u, (num1 l.length ++ l.flatMap encD, 0)) := by
    unfold encW
    rw [List.append_assoc, upsC_put u _ hub 16 (by omega), List.take_of_length_le (by omega), List.drop_eq_nil_of_le (by omega)]
    rfl
  have e2 : smC (encW u l) = ((l.length : Int), (l.flatMap encD, 0)) := by
    unfold smC
    rw [e1]
    exact numC_put (by omega) (by omega) (by rw [Int.pow_one]; omega)
  have e3 : dsC l.length (l.flatMap encD, 0) = (l, ([], 0)) := by
    have := dsC_put l [] (fun d hd => by have := right_of (hlr d hd); omega) l.length (Nat.le_refl _)
    rw [List.append_nil, List.take_length, List.drop_length] at this
    exact this
  refine ⟨?_, ?_⟩
  · unfold rdC
    rw [e1, e2]
    dsimp only
    rw [Int.toNat_natCast, e3]
  · have h1 := encU_len u
    have h2 := encL_len l
    have h3 := num1_len (l.length : Int)
    unfold encW
    rw [List.length_append, List.length_append, h1, h2, h3]
    omega
end Go.Proofs.YtkkjppeaaicgaaaGreatDoor
end

section
namespace Go.Ck
open Go
set_option linter.unusedVariables false
theorem St.persistA {K : Bs} {h : View} {b : Nat} {o : Obj} {L : List Res} {w : World} (s : St K h (Res.blk b o :: L) w) (hA : ∀ x ∈ K.A, x ∈ doms L) : St K (addV h b o) L w := by
  have hmem : b ∈ doms (Res.blk b o :: L) := by rw [doms_cons]; exact List.mem_append_left _ (List.mem_singleton.2 rfl)
  have nd := s.nd
  rw [doms_cons] at nd
  obtain ⟨_, n2, n3⟩ := List.nodup_append.1 nd
  have hnot : b ∉ doms L := fun hb => n3 b (List.mem_singleton.2 rfl) b hb rfl
  have hb0 : K.w0.heap.size ≤ b := by
    rcases s.src b hmem with h1 | h1
    · exact absurd (hA b h1) hnot
    · exact h1
  refine ⟨s.os, s.tape, s.output, s.drawn, s.size, s.keep, ⟨fun x o' hx => ?_, fun r hr => s.hd.own r (List.mem_cons_of_mem _ hr)⟩, n2, fun x hx => s.src x (by rw [doms_cons]; exact List.mem_append_right _ hx), fun x o' hx => ?_, fun x hx hx0 => ?_, fun x hx => ?_⟩
  · unfold addV at hx
    split at hx
    · rename_i e; subst e; cases hx
      exact s.hd.own _ (List.mem_cons_self ..)
    · exact s.hd.view x o' hx
  · unfold addV
    split
    · rename_i e; subst e
      have h1 := s.grow x o' hx
      rw [s.dis x hmem] at h1; cases h1
    · exact s.grow x o' hx
  · unfold addV
    rw [if_neg (by omega)]
    exact s.new x hx hx0
  · unfold addV
    rw [if_neg (fun e => hnot (by rw [← e]; exact hx))]
    exact s.dis x (by rw [doms_cons]; exact List.mem_append_right _ hx)
section
variable {P : Program} {n : Nat} {K : Bs} {F : List (Nat × Value)} {h : View} {L : List Res} {Q : Exit → Act → World → Prop}
theorem St.rowPersistA {e : TypeId} {k m : Nat} {v : Value} {xs : List Value} {w : World} (s : St K h (Res.row e k v m xs :: L) w) (hA : ∀ x ∈ K.A, x ∈ doms L) : ∃ h', Le h h' ∧ Sc h' k v m xs ∧ St K h' L w := by
  have ho : w.ownsRow 0 e k v m xs := s.hd.own _ (List.mem_cons_self ..)
  rcases ho.2 with ⟨rfl, rfl⟩ | ⟨g, cap, cur, rfl, _, hg, hn, _, hcs, htake⟩
  · have : xs = [] := List.eq_nil_of_length_eq_zero (by rw [ho.1]; simp)
    subst this
    exact ⟨h, Le.refl h, Sc.nil h k Option.none 0, s.tl⟩
  · have hd : doms (Res.row e k (.slice (some ⟨g, 0, Option.none⟩) m cap) m xs :: L) = doms (Res.blk g (.cells cur e (0, 0)) :: L) := by simp [doms_cons, Res.row, Res.blk, Value.ownBlock]
    have s2 : St K h (Res.blk g (.cells cur e (0, 0)) :: L) w := ⟨s.os, s.tape, s.output, s.drawn, s.size, s.keep, ⟨s.hd.view, fun r hr => by
      rcases List.mem_cons.1 hr with rfl | hr
      · exact hg
      · exact s.hd.own r (List.mem_cons_of_mem _ hr)⟩, by rw [← hd]; exact s.nd, fun b hb => s.src b (by rw [hd]; exact hb), s.grow, s.new, fun b hb => s.dis b (by rw [hd]; exact hb)⟩
    refine ⟨addV h g (.cells cur e (0, 0)), Le.addV (s2.dis g (by rw [doms_cons]; exact List.mem_append_left _ (List.mem_singleton.2 rfl))), ⟨ho.1, some ⟨g, 0, Option.none⟩, cap, rfl, hn, .inr ⟨g, 0, cur, e, (0, 0), rfl, addV_same, fun j u hj => ?_⟩⟩, s2.persistA hA⟩
    rw [← htake, List.getElem?_take] at hj
    split at hj
    · simpa using hj
    · cases hj
end
end Go.Ck
end

section
namespace Go.Ck
open Go
set_option linter.unusedVariables false
theorem qv_eql_no {P : Program} {n : Nat} {F : List (Nat × Value)} {h : View} {L : List Res} {dst : Option Nat} {ty : Nat} {pos : String} {af : Array Edge} {gd : Option (Nat × Bool)} {T T' : Nat} {x y : Operand} {k : IntKind} {i j : Int} (hx : ev F x = some (.int k i)) (hy : ev F y = some (.int k j)) (hn : i ≠ j) :
    QV P n F h L ⟨dst, .binOp .eql T x y T', ty, pos, af, gd⟩ (.bool false) := by
  have := yal (P := P) (n := n) (h := h) (L := L) (dst := dst) (ty := ty) (pos := pos) (af := af) (gd := gd) (T := T) (T' := T') hx hy
  rwa [decide_eq_false hn] at this
theorem qv_lss_t {P : Program} {n : Nat} {F : List (Nat × Value)} {h : View} {L : List Res} {dst : Option Nat} {ty : Nat} {pos : String} {af : Array Edge} {gd : Option (Nat × Bool)} {T T' : Nat} {x y : Operand} {k : IntKind} {i j : Int} (hx : ev F x = some (.int k i)) (hy : ev F y = some (.int k j)) (hr : i < j) :
    QV P n F h L ⟨dst, .binOp .lss T x y T', ty, pos, af, gd⟩ (.bool true) := by
  have := yah (P := P) (n := n) (h := h) (L := L) (dst := dst) (ty := ty) (pos := pos) (af := af) (gd := gd) (T := T) (T' := T') hx hy
  rwa [decide_eq_true hr] at this
theorem qv_lss_f {P : Program} {n : Nat} {F : List (Nat × Value)} {h : View} {L : List Res} {dst : Option Nat} {ty : Nat} {pos : String} {af : Array Edge} {gd : Option (Nat × Bool)} {T T' : Nat} {x y : Operand} {k : IntKind} {i j : Int} (hx : ev F x = some (.int k i)) (hy : ev F y = some (.int k j)) (hr : ¬ (i < j)) :
    QV P n F h L ⟨dst, .binOp .lss T x y T', ty, pos, af, gd⟩ (.bool false) := by
  have := yah (P := P) (n := n) (h := h) (L := L) (dst := dst) (ty := ty) (pos := pos) (af := af) (gd := gd) (T := T) (T' := T') hx hy
  rwa [decide_eq_false hr] at this
theorem qv_leq_t {P : Program} {n : Nat} {F : List (Nat × Value)} {h : View} {L : List Res} {dst : Option Nat} {ty : Nat} {pos : String} {af : Array Edge} {gd : Option (Nat × Bool)} {T T' : Nat} {x y : Operand} {k : IntKind} {i j : Int} (hx : ev F x = some (.int k i)) (hy : ev F y = some (.int k j)) (hr : i ≤ j) :
    QV P n F h L ⟨dst, .binOp .leq T x y T', ty, pos, af, gd⟩ (.bool true) := by
  have := yai (P := P) (n := n) (h := h) (L := L) (dst := dst) (ty := ty) (pos := pos) (af := af) (gd := gd) (T := T) (T' := T') hx hy
  rwa [decide_eq_true hr] at this
theorem qv_leq_f {P : Program} {n : Nat} {F : List (Nat × Value)} {h : View} {L : List Res} {dst : Option Nat} {ty : Nat} {pos : String} {af : Array Edge} {gd : Option (Nat × Bool)} {T T' : Nat} {x y : Operand} {k : IntKind} {i j : Int} (hx : ev F x = some (.int k i)) (hy : ev F y = some (.int k j)) (hr : ¬ (i ≤ j)) :
    QV P n F h L ⟨dst, .binOp .leq T x y T', ty, pos, af, gd⟩ (.bool false) := by
  have := yai (P := P) (n := n) (h := h) (L := L) (dst := dst) (ty := ty) (pos := pos) (af := af) (gd := gd) (T := T) (T' := T') hx hy
  rwa [decide_eq_false hr] at this
theorem qv_gtr_t {P : Program} {n : Nat} {F : List (Nat × Value)} {h : View} {L : List Res} {dst : Option Nat} {ty : Nat} {pos : String} {af : Array Edge} {gd : Option (Nat × Bool)} {T T' : Nat} {x y : Operand} {k : IntKind} {i j : Int} (hx : ev F x = some (.int k i)) (hy : ev F y = some (.int k j)) (hr : j < i) :
    QV P n F h L ⟨dst, .binOp .gtr T x y T', ty, pos, af, gd⟩ (.bool true) := by
  have := yaj (P := P) (n := n) (h := h) (L := L) (dst := dst) (ty := ty) (pos := pos) (af := af) (gd := gd) (T := T) (T' := T') hx hy
  rwa [decide_eq_true hr] at this
theorem qv_gtr_f {P : Program} {n : Nat} {F : List (Nat × Value)} {h : View} {L : List Res} {dst : Option Nat} {ty : Nat} {pos : String} {af : Array Edge} {gd : Option (Nat × Bool)} {T T' : Nat} {x y : Operand} {k : IntKind} {i j : Int} (hx : ev F x = some (.int k i)) (hy : ev F y = some (.int k j)) (hr : ¬ (j < i)) :
    QV P n F h L ⟨dst, .binOp .gtr T x y T', ty, pos, af, gd⟩ (.bool false) := by
  have := yaj (P := P) (n := n) (h := h) (L := L) (dst := dst) (ty := ty) (pos := pos) (af := af) (gd := gd) (T := T) (T' := T') hx hy
  rwa [decide_eq_false hr] at this
theorem qv_geq_t {P : Program} {n : Nat} {F : List (Nat × Value)} {h : View} {L : List Res} {dst : Option Nat} {ty : Nat} {pos : String} {af : Array Edge} {gd : Option (Nat × Bool)} {T T' : Nat} {x y : Operand} {k : IntKind} {i j : Int} (hx : ev F x = some (.int k i)) (hy : ev F y = some (.int k j)) (hr : j ≤ i) :
    QV P n F h L ⟨dst, .binOp .geq T x y T', ty, pos, af, gd⟩ (.bool true) := by
  have := yak (P := P) (n := n) (h := h) (L := L) (dst := dst) (ty := ty) (pos := pos) (af := af) (gd := gd) (T := T) (T' := T') hx hy
  rwa [decide_eq_true hr] at this
theorem qv_geq_f {P : Program} {n : Nat} {F : List (Nat × Value)} {h : View} {L : List Res} {dst : Option Nat} {ty : Nat} {pos : String} {af : Array Edge} {gd : Option (Nat × Bool)} {T T' : Nat} {x y : Operand} {k : IntKind} {i j : Int} (hx : ev F x = some (.int k i)) (hy : ev F y = some (.int k j)) (hr : ¬ (j ≤ i)) :
    QV P n F h L ⟨dst, .binOp .geq T x y T', ty, pos, af, gd⟩ (.bool false) := by
  have := yak (P := P) (n := n) (h := h) (L := L) (dst := dst) (ty := ty) (pos := pos) (af := af) (gd := gd) (T := T) (T' := T') hx hy
  rwa [decide_eq_false hr] at this
theorem qv_eql_t {P : Program} {n : Nat} {F : List (Nat × Value)} {h : View} {L : List Res} {dst : Option Nat} {ty : Nat} {pos : String} {af : Array Edge} {gd : Option (Nat × Bool)} {T T' : Nat} {x y : Operand} {k : IntKind} {i j : Int} (hx : ev F x = some (.int k i)) (hy : ev F y = some (.int k j)) (hr : i = j) :
    QV P n F h L ⟨dst, .binOp .eql T x y T', ty, pos, af, gd⟩ (.bool true) := by
  have := yal (P := P) (n := n) (h := h) (L := L) (dst := dst) (ty := ty) (pos := pos) (af := af) (gd := gd) (T := T) (T' := T') hx hy
  rwa [decide_eq_true hr] at this
theorem qv_eql_f {P : Program} {n : Nat} {F : List (Nat × Value)} {h : View} {L : List Res} {dst : Option Nat} {ty : Nat} {pos : String} {af : Array Edge} {gd : Option (Nat × Bool)} {T T' : Nat} {x y : Operand} {k : IntKind} {i j : Int} (hx : ev F x = some (.int k i)) (hy : ev F y = some (.int k j)) (hr : ¬ (i = j)) :
    QV P n F h L ⟨dst, .binOp .eql T x y T', ty, pos, af, gd⟩ (.bool false) := by
  have := yal (P := P) (n := n) (h := h) (L := L) (dst := dst) (ty := ty) (pos := pos) (af := af) (gd := gd) (T := T) (T' := T') hx hy
  rwa [decide_eq_false hr] at this
theorem qv_neq_t {P : Program} {n : Nat} {F : List (Nat × Value)} {h : View} {L : List Res} {dst : Option Nat} {ty : Nat} {pos : String} {af : Array Edge} {gd : Option (Nat × Bool)} {T T' : Nat} {x y : Operand} {k : IntKind} {i j : Int} (hx : ev F x = some (.int k i)) (hy : ev F y = some (.int k j)) (hr : i ≠ j) :
    QV P n F h L ⟨dst, .binOp .neq T x y T', ty, pos, af, gd⟩ (.bool true) := by
  have := yam (P := P) (n := n) (h := h) (L := L) (dst := dst) (ty := ty) (pos := pos) (af := af) (gd := gd) (T := T) (T' := T') hx hy
  rwa [decide_eq_true hr] at this
theorem qv_neq_f {P : Program} {n : Nat} {F : List (Nat × Value)} {h : View} {L : List Res} {dst : Option Nat} {ty : Nat} {pos : String} {af : Array Edge} {gd : Option (Nat × Bool)} {T T' : Nat} {x y : Operand} {k : IntKind} {i j : Int} (hx : ev F x = some (.int k i)) (hy : ev F y = some (.int k j)) (hr : ¬ (i ≠ j)) :
    QV P n F h L ⟨dst, .binOp .neq T x y T', ty, pos, af, gd⟩ (.bool false) := by
  have := yam (P := P) (n := n) (h := h) (L := L) (dst := dst) (ty := ty) (pos := pos) (af := af) (gd := gd) (T := T) (T' := T') hx hy
  rwa [decide_eq_false hr] at this
end Go.Ck
end
