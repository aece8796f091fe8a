/-
  Part 4 of a proof: BitI BitJ BitK CkPer CkEq BitP CkGrow CkFloat DotQ DotR SbA SbC SbQ SbT SrA.
  Conditions: each theorem states its own.
-/
import Derived.Lib.AppendZerosOnto
import Derived.Laws.IdiomStrings
import Derived.Test.YtndpclcbobgdlaaGreatDoorTrKPM3
section
namespace Go.Proofs.YtndpclcbobgdlaaGreatDoor
open Go Go.Ck
set_option maxRecDepth 100000
set_option maxHeartbeats 2000000
set_option linter.unusedVariables false
theorem bstr_take (l : List Int) (k : Nat) : (bstr l).extract 0 k = bstr (l.take k) := by
  apply ByteArray.ext
  rw [ByteArray.data_extract]
  simp [bstr, List.map_take]
theorem bstr_drop (l : List Int) (k : Nat) : (bstr l).extract k (bstr l).size = bstr (l.drop k) := by
  apply ByteArray.ext
  rw [ByteArray.data_extract, bstr_size]
  simp [bstr, List.map_drop]
  exact List.take_of_length_le (by simp)
theorem bstr_at {l : List Int} (hb : Bytes l) {i : Nat} (hi : i < l.length) : ∃ v : UInt8, (bstr l)[i]? = some v ∧ (v.toNat : Int) = l[i] := by
  have hx := hb l[i] (List.getElem_mem _)
  refine ⟨UInt8.ofNat l[i].toNat, ?_, ?_⟩
  · have hs : i < (bstr l).size := by rw [bstr_size]; exact hi
    rw [getElem?_pos (bstr l) i hs]
    show some ((bstr l).data[i]'_) = _
    simp [bstr]
  · rw [UInt8.toNat_ofNat']
    omega
section
variable {P : Program} {n : Nat} {F : List (Nat × Value)} {h : View} {L : List Res} {dst : Option Nat} {ty : Nat} {pos : String} {af : Array Edge} {gd : Option (Nat × Bool)}
theorem qv_at_bstr {T : Nat} {x y : Operand} {l : List Int} {ki : IntKind} {i : Int} {k : Nat} (hb : Bytes l) [tu : TyU P T .string] (hx : ev F x = some (.string (bstr l))) (hy : ev F y = some (.int ki i))
    (hi : i = k) (hk : k < l.length) : QV P n F h L ⟨dst, .index T x y, ty, pos, af, gd⟩ (.int .u8 l[k]) := by
  obtain ⟨v, h1, h2⟩ := bstr_at hb hk
  rw [← h2]
  refine qv_index_str hx hy (by omega) ?_
  subst hi
  exact h1
theorem qv_str_to {T : Nat} {x y : Operand} {l : List Int} {i : Nat} {ki : IntKind} [tu : TyU P T .string] (hx : ev F x = some (.string (bstr l))) (hy : ev F y = some (.int ki i)) (h1 : i ≤ l.length) :
    QV P n F h L ⟨dst, .slice T x none (some y) none, ty, pos, af, gd⟩ (.string (bstr (l.take i))) := .mk fun a w f s => by
  have h2 : i ≤ (bstr l).size := by rw [bstr_size]; exact h1
  simp [execOp, f.ev hx, f.ev hy, Instr.sliceAt, Instr.slice, Instr.sliceBounds, Instr.sliceBound, asIntOf, run_underlying tu.u, h2]
  exact bstr_take l i
theorem qv_str_from {T : Nat} {x y : Operand} {l : List Int} {i : Nat} {ki : IntKind} [tu : TyU P T .string] (hx : ev F x = some (.string (bstr l))) (hy : ev F y = some (.int ki i)) (h1 : i ≤ l.length) :
    QV P n F h L ⟨dst, .slice T x (some y) none none, ty, pos, af, gd⟩ (.string (bstr (l.drop i))) := .mk fun a w f s => by
  have h2 : i ≤ (bstr l).size := by rw [bstr_size]; exact h1
  simp [execOp, f.ev hx, f.ev hy, Instr.sliceAt, Instr.slice, Instr.sliceBounds, Instr.sliceBound, asIntOf, run_underlying tu.u, h2]
  exact bstr_drop l i
theorem qv_len_bstr {x : Operand} {T : Nat} {l : List Int} [tu : TyU P T .string] (hx : ev F x = some (.string (bstr l))) : QV P n F h L ⟨dst, .call ⟨.builtin .len, #[x], #[T]⟩, ty, pos, af, gd⟩ (.int .i64 l.length) := by
  rw [← bstr_size]; exact yar hx
theorem qv_mul' {T T' : Nat} {x y : Operand} {k : IntKind} {i j r : Int} (hx : ev F x = some (.int k i)) (hy : ev F y = some (.int k j)) (hr : k.wrap (i * j) = r) : QV P n F h L ⟨dst, .binOp .mul T x y T', ty, pos, af, gd⟩ (.int k r) := by subst hr; exact qv_mul_w hx hy
theorem qv_add' {T T' : Nat} {x y : Operand} {k : IntKind} {i j r : Int} (hx : ev F x = some (.int k i)) (hy : ev F y = some (.int k j)) (hr : k.wrap (i + j) = r) : QV P n F h L ⟨dst, .binOp .add T x y T', ty, pos, af, gd⟩ (.int k r) := by subst hr; exact qv_add_w hx hy
theorem qv_neq_str {T T' : Nat} {x y : Operand} {a b : ByteArray} {t : Bool} (hx : ev F x = some (.string a)) (hy : ev F y = some (.string b)) (ht : (!(a.toList == b.toList)) = t) :
    QV P n F h L ⟨dst, .binOp .neq T x y T', ty, pos, af, gd⟩ (.bool t) := by
  subst ht
  refine .mk fun ac w f s => ?_
  have hg : (eqGuard .neq T x y (.string a) (.string b)).run P w = .ok () w := by simp [eqGuard]
  simp only [execOp, f.ev hx, f.ev hy, Sem.run_bind, hg, Result.andThen_ok, binOp, Op.stringOp]
  rfl
end
theorem Word_sp (l : List Int) (hb : Bytes l) (hl : l.length ≤ 8) (h : View) (w : World) (s : St ⟨w, h, []⟩ h [] w) :
    Calls Tryz.prog 72 [.string (bstr l), .bool true].toArray w fun e w' => e = .returned (.int .u64 (valB l)) ∧ St ⟨w, h, []⟩ h [] w' := by
  refine calls_enter Tryz.func72 rfl Tryz.ntmps72 rfl s ?_
  repeat' (first|refine tw_ ?_|(refine ta_ ?_;intro _)|((fail_if_success (refine ybi rfl ?_));refine ybj rfl ?_ ?_<;>(intro ht;rw [ht];first|replace ht := oet_ ht|replace ht := oef_ ht|skip))|(refine ych ?_;first|(refine ybw rfl ?_ ?_<;>intro ht)|(refine ybx rfl ?_ ?_<;>intro ht)))
  refine cx_loop (X := Nat) (fun k => [(0, .string (bstr l)), (1, .bool true), (5, .int .u64 (valB (l.take k))), (6, .int .i64 k)]) (fun _ => h) (fun _ => []) (fun k => k ≤ l.length) (fun k => l.length - k) 0 (Nat.zero_le _) ts_ (fun _ s => s) ?_
  intro k hk
  by_cases hkl : k < l.length
  · have hbd := valB_bd hb k (by omega)
    have hp : (256 : Int) ^ k ≤ 256 ^ 7 := p256 (by omega)
    have e7 : (256 : Int) ^ 7 = 72057594037927936 := by decide
    rw [e7] at hp
    have hc := hb l[k] (List.getElem_mem _)
    have hmul : IntKind.u64.wrap (valB (l.take k) * 256) = valB (l.take k) * 256 := wrap_u64 (by omega) (by omega)
    have hcw : IntKind.u64.wrap l[k] = l[k] := wrap_u64 hc.1 (by omega)
    have hadd : IntKind.u64.wrap (valB (l.take k) * 256 + l[k]) = valB (l.take (k + 1)) := by
      rw [valB_succ hkl]; exact wrap_u64 (by omega) (by omega)
    repeat' (first|(refine ycf ?_;apply ybk;(·first|(first|(refine qv_len_bstr rfl)|(refine qv_at_bstr (k := k) hb rfl rfl rfl hkl)|(refine qv_at_bstr (k := l.length - 1 - k) hb rfl rfl (by omega) (by omega))|(refine qv_mul' rfl rfl hmul)|(refine qv_convert_int' rfl hcw)|(refine qv_add' rfl rfl hadd)));(·rfl);(·rfl))|refine t1_ ?_|(refine ta_ ?_;intro _)|((fail_if_success (refine ybi rfl ?_));refine ybj rfl ?_ ?_<;>(intro ht;rw [ht];first|replace ht := oet_ ht|replace ht := oef_ ht|skip))|(refine ych ?_;first|(refine ybw rfl ?_ ?_<;>intro ht)|(refine ybx rfl ?_ ?_<;>intro ht)))
    · exact nx_round (k + 1) (by show k + 1 ≤ l.length; omega) (by show l.length - (k + 1) < l.length - k; omega) ts_ (fun _ s => s)
    all_goals omega
  · have ek : k = l.length := by omega
    subst ek
    repeat' (first|(refine ycf ?_;apply ybk;(·first|(first|(refine qv_len_bstr rfl)|(refine qv_at_bstr (k := k) hb rfl rfl rfl hkl)|(refine qv_at_bstr (k := l.length - 1 - k) hb rfl rfl (by omega) (by omega))|(refine qv_mul' rfl rfl hmul)|(refine qv_convert_int' rfl hcw)|(refine qv_add' rfl rfl hadd)));(·rfl);(·rfl))|refine t1_ ?_|(refine ta_ ?_;intro _)|((fail_if_success (refine ybi rfl ?_));refine ybj rfl ?_ ?_<;>(intro ht;rw [ht];first|replace ht := oet_ ht|replace ht := oef_ ht|skip))|(refine ych ?_;first|(refine ybw rfl ?_ ?_<;>intro ht)|(refine ybx rfl ?_ ?_<;>intro ht)))
    all_goals try omega
    rw [List.take_length]
    exact nx_ret1 rfl (rv_tmp rfl) (fun w' s' => ⟨rfl, s'⟩)
abbrev rinR (bi : Nat) (l : List Int) (e : Int) : Res := Res.blk bi (.cells #[.string (bstr l), .int .i64 e] 71 (0, 0))
theorem rnumber_sp (bi : Nat) (l : List Int) (size : Nat) (most : Int) (hb : Bytes l) (h0 : 0 < size) (h8 : size ≤ 8) (hm : 0 ≤ most ∧ most < 9223372036854775808) (h : View) (w : World) (s : St ⟨w, h, doms [rinR bi l 0]⟩ h [rinR bi l 0] w) :
    Calls Tryz.prog 53 [.pointer (some ⟨bi, 0, none⟩), .int .i64 size, .int .i64 most].toArray w fun en w' => ∃ x : Unit, en = .returned (.int .i64 (lookC l size most).1) ∧ St ⟨w, h, doms [rinR bi l 0]⟩ h [rinR bi l (lookC l size most).2] w' ∧ True := by
  refine calls_enter Tryz.func53 rfl Tryz.ntmps53 rfl s ?_
  unfold lookC
  by_cases hsz : l.length < size
  · rw [if_pos hsz]
    repeat' (first|(refine ycf ?_;apply ybk;(·first|(first|(refine qv_len_bstr rfl)|(apply qv_nilCheck;rfl)));(·rfl);(·rfl))|refine t1_ ?_|(refine ta_ ?_;intro _)|((fail_if_success (refine ybi rfl ?_));refine ybj rfl ?_ ?_<;>(intro ht;rw [ht];first|replace ht := oet_ ht|replace ht := oef_ ht|skip))|(refine ych ?_;first|(refine ybw rfl ?_ ?_<;>intro ht)|(refine ybx rfl ?_ ?_<;>intro ht)))
    · exact nx_ret1 rfl (rv_tmp rfl) (fun w' s' => ⟨(), rfl, s', trivial⟩)
    · omega
  · rw [if_neg hsz]
    have hbt : Bytes (l.take size) := fun x hx => hb x (List.mem_of_mem_take hx)
    have hlt : (l.take size).length ≤ 8 := by simp; omega
    have hbd := valB_bd hb size (by omega)
    have hp : (256 : Int) ^ size ≤ 256 ^ 8 := p256 h8
    have e8 : (256 : Int) ^ 8 = 18446744073709551616 := by decide
    rw [e8] at hp
    have hW := Word_sp (l.take size) hbt hlt h
    generalize valB (l.take size) = X at hbd hW ⊢
    have hmw : IntKind.u64.wrap most = most := wrap_u64 hm.1 (by omega)
    repeat' (first|(refine ycf ?_;apply ybk;(·first|(first|(refine qv_len_bstr rfl)|(apply qv_nilCheck;rfl)|(refine qv_str_to rfl rfl (by omega))|(refine qv_convert_int' rfl hmw)));(·rfl);(·rfl))|refine t1_ ?_|(refine ta_ ?_;intro _)|((fail_if_success (refine ybi rfl ?_));refine ybj rfl ?_ ?_<;>(intro ht;rw [ht];first|replace ht := oet_ ht|replace ht := oef_ ht|skip))|(refine ych ?_;first|(refine ybw rfl ?_ ?_<;>intro ht)|(refine ybx rfl ?_ ?_<;>intro ht)))
    · omega
    (refine ycn (ycp Tryz.func72 rfl (by kernel_rfl) rfl) (hW) rfl rfl rfl ?_ ?_; (· (exact to_)))
    by_cases hX : most < X
    · rw [if_pos hX]
      repeat' (first|(refine ycf ?_;apply ybk;(·first|(first|(refine qv_len_bstr rfl)|(apply qv_nilCheck;rfl)|(refine qv_str_to rfl rfl (by omega))|(refine qv_convert_int' rfl hmw)));(·rfl);(·rfl))|refine t1_ ?_|(refine ta_ ?_;intro _)|((fail_if_success (refine ybi rfl ?_));refine ybj rfl ?_ ?_<;>(intro ht;rw [ht];first|replace ht := oet_ ht|replace ht := oef_ ht|skip))|(refine ych ?_;first|(refine ybw rfl ?_ ?_<;>intro ht)|(refine ybx rfl ?_ ?_<;>intro ht)))
      all_goals try omega
      exact nx_ret1 rfl (rv_tmp rfl) (fun w' s' => ⟨(), rfl, s', trivial⟩)
    · rw [if_neg hX]
      have hXw : IntKind.i64.wrap X = X := wrap_i64 (by unfold I64; omega)
      repeat' (first|(refine ycf ?_;apply ybk;(·first|(first|(refine qv_len_bstr rfl)|(apply qv_nilCheck;rfl)|(refine qv_convert_int' rfl hXw)|(refine qv_convert_int' rfl hmw)));(·rfl);(·rfl))|refine t1_ ?_|(refine ta_ ?_;intro _)|((fail_if_success (refine ybi rfl ?_));refine ybj rfl ?_ ?_<;>(intro ht;rw [ht];first|replace ht := oet_ ht|replace ht := oef_ ht|skip))|(refine ych ?_;first|(refine ybw rfl ?_ ?_<;>intro ht)|(refine ybx rfl ?_ ?_<;>intro ht)))
      all_goals try omega
      exact nx_ret1 rfl (rv_tmp rfl) (fun w' s' => ⟨(), rfl, s', trivial⟩)
theorem lookC_bad {l : List Int} {size : Nat} {most : Int} (hz : (lookC l size most).2 ≠ 0) : (lookC l size most).1 = 0 := by
  unfold lookC at hz ⊢
  split
  · rfl
  · rename_i h1
    rw [if_neg h1] at hz
    split
    · rfl
    · rename_i h2
      rw [if_neg h2] at hz
      exact absurd rfl hz
theorem lookC_len {l : List Int} {size : Nat} {most : Int} (hz : (lookC l size most).2 = 0) : size ≤ l.length := by
  unfold lookC at hz
  split at hz
  · cases hz
  · omega
theorem take_sp (bi : Nat) (l : List Int) (e : Int) (size : Nat) (most : Int) (hb : Bytes l) (h0 : 0 < size) (h8 : size ≤ 8) (hm : 0 ≤ most ∧ most < 9223372036854775808) (h : View) (w : World) (s : St ⟨w, h, doms [rinR bi l e]⟩ h [rinR bi l e] w) :
    Calls Tryz.prog 52 [.pointer (some ⟨bi, 0, none⟩), .int .i64 size, .int .i64 most].toArray w fun en w' => ∃ x : Unit, en = .returned (.int .i64 (numC (l, e) size most).1) ∧ St ⟨w, h, doms [rinR bi l e]⟩ h [rinR bi (numC (l, e) size most).2.1 (numC (l, e) size most).2.2] w' ∧ True := by
  refine calls_enter Tryz.func52 rfl Tryz.ntmps52 rfl s ?_
  unfold numC
  dsimp only
  by_cases he : e = 0
  · subst he
    rw [if_neg (by simp)]
    repeat' (first|(refine ycf ?_;apply ybk;(·first|(first|(apply qv_nilCheck;rfl)));(·rfl);(·rfl))|refine t1_ ?_|(refine ta_ ?_;intro _)|((fail_if_success (refine ybi rfl ?_));refine ybj rfl ?_ ?_<;>(intro ht;rw [ht];first|replace ht := oet_ ht|replace ht := oef_ ht|skip))|(refine ych ?_;first|(refine ybw rfl ?_ ?_<;>intro ht)|(refine ybx rfl ?_ ?_<;>intro ht)))
    (refine rx_call_m (ycp Tryz.func53 rfl (by kernel_rfl) rfl) (perm_at (k := 0) rfl) (rnumber_sp bi l size most hb h0 h8 hm h) rfl rfl rfl ?_ ?_ ?_; (· (exact to_)); (· intro _ _ hle; (exact to_)); intro x px hle)
    by_cases hz : (lookC l size most).2 = 0
    · have hsl := lookC_len hz
      rw [if_pos hz, hz]
      repeat' (first|(refine ycf ?_;apply ybk;(·first|(first|(apply qv_nilCheck;rfl)|(refine qv_str_from rfl rfl hsl)));(·rfl);(·rfl))|refine t1_ ?_|(refine ta_ ?_;intro _)|((fail_if_success (refine ybi rfl ?_));refine ybj rfl ?_ ?_<;>(intro ht;rw [ht];first|replace ht := oet_ ht|replace ht := oef_ ht|skip))|(refine ych ?_;first|(refine ybw rfl ?_ ?_<;>intro ht)|(refine ybx rfl ?_ ?_<;>intro ht)))
      all_goals try omega
      exact nx_ret1 rfl (rv_tmp rfl) (fun w' s' => ⟨(), rfl, s', trivial⟩)
    · rw [if_neg hz, lookC_bad hz]
      generalize (lookC l size most).2 = E at hz ⊢
      repeat' (first|(refine ycf ?_;apply ybk;(·first|(first|(apply qv_nilCheck;rfl)|(refine qv_str_from rfl rfl hsl)));(·rfl);(·rfl))|refine t1_ ?_|(refine ta_ ?_;intro _)|((fail_if_success (refine ybi rfl ?_));refine ybj rfl ?_ ?_<;>(intro ht;rw [ht];first|replace ht := oet_ ht|replace ht := oef_ ht|skip))|(refine ych ?_;first|(refine ybw rfl ?_ ?_<;>intro ht)|(refine ybx rfl ?_ ?_<;>intro ht)))
      · omega
      exact nx_ret1 rfl (rv_tmp rfl) (fun w' s' => ⟨(), rfl, s', trivial⟩)
  · rw [if_pos he]
    repeat' (first|(refine ycf ?_;apply ybk;(·first|(first|(apply qv_nilCheck;rfl)|(refine qv_str_from rfl rfl hsl)));(·rfl);(·rfl))|refine t1_ ?_|(refine ta_ ?_;intro _)|((fail_if_success (refine ybi rfl ?_));refine ybj rfl ?_ ?_<;>(intro ht;rw [ht];first|replace ht := oet_ ht|replace ht := oef_ ht|skip))|(refine ych ?_;first|(refine ybw rfl ?_ ?_<;>intro ht)|(refine ybx rfl ?_ ?_<;>intro ht)))
    all_goals try omega
    exact nx_ret1 rfl (rv_tmp rfl) (fun w' s' => ⟨(), rfl, s', trivial⟩)
theorem rNum_sp (bi : Nat) (l : List Int) (e : Int) (most : Int) (hb : Bytes l) (hm : 0 ≤ most ∧ most < 9223372036854775808) (h : View) (w : World) (s : St ⟨w, h, doms [rinR bi l e]⟩ h [rinR bi l e] w) :
    Calls Tryz.prog 28 [.pointer (some ⟨bi, 0, none⟩), .int .i64 most].toArray w fun en w' => ∃ x : Unit, en = .returned (.int .i64 (numC (l, e) 8 most).1) ∧ St ⟨w, h, doms [rinR bi l e]⟩ h [rinR bi (numC (l, e) 8 most).2.1 (numC (l, e) 8 most).2.2] w' ∧ True := by
  refine calls_enter Tryz.func28 rfl Tryz.ntmps28 rfl s ?_
  repeat' (first|(refine ycf ?_;apply ybk;(·first|(first|(apply qv_nilCheck;rfl)|(refine qv_str_from rfl rfl hsl)));(·rfl);(·rfl))|refine t1_ ?_|(refine ta_ ?_;intro _)|((fail_if_success (refine ybi rfl ?_));refine ybj rfl ?_ ?_<;>(intro ht;rw [ht];first|replace ht := oet_ ht|replace ht := oef_ ht|skip))|(refine ych ?_;first|(refine ybw rfl ?_ ?_<;>intro ht)|(refine ybx rfl ?_ ?_<;>intro ht)))
  (refine rx_call_m (ycp Tryz.func52 rfl (by kernel_rfl) rfl) (perm_at (k := 0) rfl) (take_sp bi l e 8 most hb (by omega) (by omega) hm h) rfl rfl rfl ?_ ?_ ?_; (· (exact to_)); (· intro _ _ hle; (exact to_)); intro x px hle)
  repeat' (first|(refine ycf ?_;apply ybk;(·first|(first|(apply qv_nilCheck;rfl)|(refine qv_str_from rfl rfl hsl)));(·rfl);(·rfl))|refine t1_ ?_|(refine ta_ ?_;intro _)|((fail_if_success (refine ybi rfl ?_));refine ybj rfl ?_ ?_<;>(intro ht;rw [ht];first|replace ht := oet_ ht|replace ht := oef_ ht|skip))|(refine ych ?_;first|(refine ybw rfl ?_ ?_<;>intro ht)|(refine ybx rfl ?_ ?_<;>intro ht)))
  exact nx_ret1 rfl (rv_tmp rfl) (fun w' s' => ⟨(), rfl, s', trivial⟩)
theorem rSmall_sp (bi : Nat) (l : List Int) (e : Int) (most : Int) (hb : Bytes l) (hm : 0 ≤ most ∧ most < 9223372036854775808) (h : View) (w : World) (s : St ⟨w, h, doms [rinR bi l e]⟩ h [rinR bi l e] w) :
    Calls Tryz.prog 29 [.pointer (some ⟨bi, 0, none⟩), .int .i64 most].toArray w fun en w' => ∃ x : Unit, en = .returned (.int .i64 (numC (l, e) 1 most).1) ∧ St ⟨w, h, doms [rinR bi l e]⟩ h [rinR bi (numC (l, e) 1 most).2.1 (numC (l, e) 1 most).2.2] w' ∧ True := by
  refine calls_enter Tryz.func29 rfl Tryz.ntmps29 rfl s ?_
  repeat' (first|(refine ycf ?_;apply ybk;(·first|(first|(apply qv_nilCheck;rfl)|(refine qv_str_from rfl rfl hsl)));(·rfl);(·rfl))|refine t1_ ?_|(refine ta_ ?_;intro _)|((fail_if_success (refine ybi rfl ?_));refine ybj rfl ?_ ?_<;>(intro ht;rw [ht];first|replace ht := oet_ ht|replace ht := oef_ ht|skip))|(refine ych ?_;first|(refine ybw rfl ?_ ?_<;>intro ht)|(refine ybx rfl ?_ ?_<;>intro ht)))
  (refine rx_call_m (ycp Tryz.func52 rfl (by kernel_rfl) rfl) (perm_at (k := 0) rfl) (take_sp bi l e 1 most hb (by omega) (by omega) hm h) rfl rfl rfl ?_ ?_ ?_; (· (exact to_)); (· intro _ _ hle; (exact to_)); intro x px hle)
  repeat' (first|(refine ycf ?_;apply ybk;(·first|(first|(apply qv_nilCheck;rfl)|(refine qv_str_from rfl rfl hsl)));(·rfl);(·rfl))|refine t1_ ?_|(refine ta_ ?_;intro _)|((fail_if_success (refine ybi rfl ?_));refine ybj rfl ?_ ?_<;>(intro ht;rw [ht];first|replace ht := oet_ ht|replace ht := oef_ ht|skip))|(refine ych ?_;first|(refine ybw rfl ?_ ?_<;>intro ht)|(refine ybx rfl ?_ ?_<;>intro ht)))
  exact nx_ret1 rfl (rv_tmp rfl) (fun w' s' => ⟨(), rfl, s', trivial⟩)
theorem bstr_nil {l : List Int} : ((bstr l).toList == (⟨#[]⟩ : ByteArray).toList) = decide (l.length = 0) := by
  rw [ByteArray.toList_eq, ByteArray.toList_eq]
  cases l with
  | nil => rfl
  | cons x l => simp [bstr]
theorem rEnd_sp (bi : Nat) (l : List Int) (e : Int) (h : View) (w : World) (s : St ⟨w, h, doms [rinR bi l e]⟩ h [rinR bi l e] w) :
    Calls Tryz.prog 31 [.pointer (some ⟨bi, 0, none⟩)].toArray w fun en w' => ∃ x : Unit, en = .returned (.int .i64 (endC (l, e))) ∧ St ⟨w, h, doms [rinR bi l e]⟩ h [rinR bi l e] w' ∧ True := by
  refine calls_enter Tryz.func31 rfl Tryz.ntmps31 rfl s ?_
  unfold endC
  dsimp only
  by_cases hl : l.length = 0
  · have hn : (!((bstr l).toList == (⟨#[]⟩ : ByteArray).toList)) = false := by rw [bstr_nil, decide_eq_true hl]; rfl
    rw [if_neg (by omega)]
    repeat' (first|(refine ycf ?_;apply ybk;(·first|(first|(apply qv_nilCheck;rfl)|(refine qv_neq_str rfl rfl hn)));(·rfl);(·rfl))|refine t1_ ?_|(refine ta_ ?_;intro _)|((fail_if_success (refine ybi rfl ?_));refine ybj rfl ?_ ?_<;>(intro ht;rw [ht];first|replace ht := oet_ ht|replace ht := oef_ ht|skip))|(refine ych ?_;first|(refine ybw rfl ?_ ?_<;>intro ht)|(refine ybx rfl ?_ ?_<;>intro ht)))
    all_goals exact nx_ret1 rfl (rv_tmp rfl) (fun w' s' => ⟨(), rfl, s', trivial⟩)
  · have hn : (!((bstr l).toList == (⟨#[]⟩ : ByteArray).toList)) = true := by rw [bstr_nil, decide_eq_false hl]; rfl
    repeat' (first|(refine ycf ?_;apply ybk;(·first|(first|(apply qv_nilCheck;rfl)|(refine qv_neq_str rfl rfl hn)));(·rfl);(·rfl))|refine t1_ ?_|(refine ta_ ?_;intro _)|((fail_if_success (refine ybi rfl ?_));refine ybj rfl ?_ ?_<;>(intro ht;rw [ht];first|replace ht := oet_ ht|replace ht := oef_ ht|skip))|(refine ych ?_;first|(refine ybw rfl ?_ ?_<;>intro ht)|(refine ybx rfl ?_ ?_<;>intro ht)))
    · rw [if_pos (by omega)]
      exact nx_ret1 rfl (rv_tmp rfl) (fun w' s' => ⟨(), rfl, s', trivial⟩)
    · rw [if_neg (by omega)]
      exact nx_ret1 rfl (rv_tmp rfl) (fun w' s' => ⟨(), rfl, s', trivial⟩)
end Go.Proofs.YtndpclcbobgdlaaGreatDoor
end

section
namespace Go.Proofs.YtndpclcbobgdlaaGreatDoor
open Go Go.Ck
set_option maxRecDepth 100000
set_option maxHeartbeats 2000000
set_option linter.unusedVariables false
theorem numC_err {s : RS} (h : s.2 ≠ 0) (size : Nat) (most : Int) : numC s size most = (0, s) := by unfold numC; rw [if_pos h]
end Go.Proofs.YtndpclcbobgdlaaGreatDoor
end

section
namespace Go.Proofs.YtndpclcbobgdlaaGreatDoor
open Go Go.Ck
set_option maxRecDepth 100000
set_option maxHeartbeats 2000000
set_option linter.unusedVariables false
theorem putLow_val : ∀ {l : List Int}, Bytes l → (putLow l.length (valB l)).reverse = l := by
  intro l
  rw [show l = l.reverse.reverse by simp]
  generalize l.reverse = r
  induction r with
  | nil => intro _; rfl
  | cons c r ih =>
    intro hb
    have hb' : Bytes r.reverse := fun x hx => hb x (by simp at hx ⊢; exact .inl hx)
    have hc := hb c (by simp)
    have e : valB (c :: r).reverse = valB r.reverse * 256 + c := by
      rw [List.reverse_cons]
      unfold valB
      rw [List.foldl_append]
      rfl
    rw [e, List.reverse_cons, List.length_append, List.length_singleton, putLow, List.reverse_cons, show (valB r.reverse * 256 + c) % 256 = c by omega, show (valB r.reverse * 256 + c) / 256 = valB r.reverse by omega, ih hb']
theorem numC_took {s : RS} (hb : Bytes s.1) {size : Nat} {most : Int} (h : (numC s size most).2.2 = 0) :
    s.2 = 0 ∧ (putLow size (numC s size most).1).reverse ++ (numC s size most).2.1 = s.1 := by
  unfold numC at h ⊢
  by_cases h0 : s.2 ≠ 0
  · rw [if_pos h0] at h; exact absurd h h0
  · rw [if_neg h0] at h ⊢
    refine ⟨Decidable.not_not.1 h0, ?_⟩
    by_cases h1 : (lookC s.1 size most).2 = 0
    · rw [if_pos h1]
      have hl := lookC_len h1
      have e : (lookC s.1 size most).1 = valB (s.1.take size) := by
        unfold lookC at h1 ⊢
        split
        · rename_i h2; rw [if_pos h2] at h1; cases h1
        · rename_i h2
          rw [if_neg h2] at h1
          split
          · rename_i h3; rw [if_pos h3] at h1; cases h1
          · rfl
      dsimp only
      rw [e]
      have hp := putLow_val (l := s.1.take size) (fun x hx => hb x (List.mem_of_mem_take hx))
      rw [List.length_take, Nat.min_eq_left hl] at hp
      rw [hp, List.take_append_drop]
    · rw [if_neg h1] at h; exact absurd h h1
end Go.Proofs.YtndpclcbobgdlaaGreatDoor
end

section
namespace Go.Ck
open Go
set_option linter.unusedVariables false
theorem St.persistA {K : Bs} {h : View} {b : Nat} {o : Obj} {L : List Res} {w : World} (s : St K h (Res.blk b o :: L) w) (hA : ∀ x ∈ K.A, x ∈ doms L) : St K (addV h b o) L w := by
  have hmem : b ∈ doms (Res.blk b o :: L) := by rw [doms_cons]; exact List.mem_append_left _ (List.mem_singleton.2 rfl)
  have nd := s.nd
  rw [doms_cons] at nd
  obtain ⟨_, n2, n3⟩ := List.nodup_append.1 nd
  have hnot : b ∉ doms L := fun hb => n3 b (List.mem_singleton.2 rfl) b hb rfl
  have hb0 : K.w0.heap.size ≤ b := by
    rcases s.src b hmem with h1 | h1
    · exact absurd (hA b h1) hnot
    · exact h1
  refine ⟨s.os, s.tape, s.output, s.drawn, s.size, s.keep, ⟨fun x o' hx => ?_, fun r hr => s.hd.own r (List.mem_cons_of_mem _ hr)⟩, n2, fun x hx => s.src x (by rw [doms_cons]; exact List.mem_append_right _ hx), fun x o' hx => ?_, fun x hx hx0 => ?_, fun x hx => ?_⟩
  · unfold addV at hx
    split at hx
    · rename_i e; subst e; cases hx
      exact s.hd.own _ (List.mem_cons_self ..)
    · exact s.hd.view x o' hx
  · unfold addV
    split
    · rename_i e; subst e
      have h1 := s.grow x o' hx
      rw [s.dis x hmem] at h1; cases h1
    · exact s.grow x o' hx
  · unfold addV
    rw [if_neg (by omega)]
    exact s.new x hx hx0
  · unfold addV
    rw [if_neg (fun e => hnot (by rw [← e]; exact hx))]
    exact s.dis x (by rw [doms_cons]; exact List.mem_append_right _ hx)
section
variable {P : Program} {n : Nat} {K : Bs} {F : List (Nat × Value)} {h : View} {L : List Res} {Q : Exit → Act → World → Prop}
theorem St.rowPersistA {e : TypeId} {k m : Nat} {v : Value} {xs : List Value} {w : World} (s : St K h (Res.row e k v m xs :: L) w) (hA : ∀ x ∈ K.A, x ∈ doms L) : ∃ h', Le h h' ∧ Sc h' k v m xs ∧ St K h' L w := by
  have ho : w.ownsRow 0 e k v m xs := s.hd.own _ (List.mem_cons_self ..)
  rcases ho.2 with ⟨rfl, rfl⟩ | ⟨g, cap, cur, rfl, _, hg, hn, _, hcs, htake⟩
  · have : xs = [] := List.eq_nil_of_length_eq_zero (by rw [ho.1]; simp)
    subst this
    exact ⟨h, Le.refl h, Sc.nil h k Option.none 0, s.tl⟩
  · have hd : doms (Res.row e k (.slice (some ⟨g, 0, Option.none⟩) m cap) m xs :: L) = doms (Res.blk g (.cells cur e (0, 0)) :: L) := by simp [doms_cons, Res.row, Res.blk, Value.ownBlock]
    have s2 : St K h (Res.blk g (.cells cur e (0, 0)) :: L) w := ⟨s.os, s.tape, s.output, s.drawn, s.size, s.keep, ⟨s.hd.view, fun r hr => by
      rcases List.mem_cons.1 hr with rfl | hr
      · exact hg
      · exact s.hd.own r (List.mem_cons_of_mem _ hr)⟩, by rw [← hd]; exact s.nd, fun b hb => s.src b (by rw [hd]; exact hb), s.grow, s.new, fun b hb => s.dis b (by rw [hd]; exact hb)⟩
    refine ⟨addV h g (.cells cur e (0, 0)), Le.addV (s2.dis g (by rw [doms_cons]; exact List.mem_append_left _ (List.mem_singleton.2 rfl))), ⟨ho.1, some ⟨g, 0, Option.none⟩, cap, rfl, hn, .inr ⟨g, 0, cur, e, (0, 0), rfl, addV_same, fun j u hj => ?_⟩⟩, s2.persistA hA⟩
    rw [← htake, List.getElem?_take] at hj
    split at hj
    · simpa using hj
    · cases hj
theorem rx_persistA {g : Rg} {prs : List (Nat × Oper)} {e : TypeId} {sz m : Nat} {v : Value} {xs : List Value} (hA : ∀ x ∈ K.A, x ∈ doms L) (hx : ∀ h', Le h h' → Sc h' sz v m xs → RX P n K g prs F h' L Q) : RX P n K g prs F h (Res.row e sz v m xs :: L) Q := by
  unfold RX at *
  intro a w f s
  obtain ⟨h', h1, h2, h3⟩ := s.rowPersistA hA
  exact hx h' h1 h2 a w f h3
end
end Go.Ck
end

section
namespace Go.Ck
open Go
set_option linter.unusedVariables false
theorem qv_lss_t {P : Program} {n : Nat} {F : List (Nat × Value)} {h : View} {L : List Res} {dst : Option Nat} {ty : Nat} {pos : String} {af : Array Edge} {gd : Option (Nat × Bool)} {T T' : Nat} {x y : Operand} {k : IntKind} {i j : Int} (hx : ev F x = some (.int k i)) (hy : ev F y = some (.int k j)) (hr : i < j) :
    QV P n F h L ⟨dst, .binOp .lss T x y T', ty, pos, af, gd⟩ (.bool true) := by
  have := yah (P := P) (n := n) (h := h) (L := L) (dst := dst) (ty := ty) (pos := pos) (af := af) (gd := gd) (T := T) (T' := T') hx hy
  rwa [decide_eq_true hr] at this
theorem qv_lss_f {P : Program} {n : Nat} {F : List (Nat × Value)} {h : View} {L : List Res} {dst : Option Nat} {ty : Nat} {pos : String} {af : Array Edge} {gd : Option (Nat × Bool)} {T T' : Nat} {x y : Operand} {k : IntKind} {i j : Int} (hx : ev F x = some (.int k i)) (hy : ev F y = some (.int k j)) (hr : ¬ (i < j)) :
    QV P n F h L ⟨dst, .binOp .lss T x y T', ty, pos, af, gd⟩ (.bool false) := by
  have := yah (P := P) (n := n) (h := h) (L := L) (dst := dst) (ty := ty) (pos := pos) (af := af) (gd := gd) (T := T) (T' := T') hx hy
  rwa [decide_eq_false hr] at this
theorem qv_leq_t {P : Program} {n : Nat} {F : List (Nat × Value)} {h : View} {L : List Res} {dst : Option Nat} {ty : Nat} {pos : String} {af : Array Edge} {gd : Option (Nat × Bool)} {T T' : Nat} {x y : Operand} {k : IntKind} {i j : Int} (hx : ev F x = some (.int k i)) (hy : ev F y = some (.int k j)) (hr : i ≤ j) :
    QV P n F h L ⟨dst, .binOp .leq T x y T', ty, pos, af, gd⟩ (.bool true) := by
  have := yai (P := P) (n := n) (h := h) (L := L) (dst := dst) (ty := ty) (pos := pos) (af := af) (gd := gd) (T := T) (T' := T') hx hy
  rwa [decide_eq_true hr] at this
theorem qv_leq_f {P : Program} {n : Nat} {F : List (Nat × Value)} {h : View} {L : List Res} {dst : Option Nat} {ty : Nat} {pos : String} {af : Array Edge} {gd : Option (Nat × Bool)} {T T' : Nat} {x y : Operand} {k : IntKind} {i j : Int} (hx : ev F x = some (.int k i)) (hy : ev F y = some (.int k j)) (hr : ¬ (i ≤ j)) :
    QV P n F h L ⟨dst, .binOp .leq T x y T', ty, pos, af, gd⟩ (.bool false) := by
  have := yai (P := P) (n := n) (h := h) (L := L) (dst := dst) (ty := ty) (pos := pos) (af := af) (gd := gd) (T := T) (T' := T') hx hy
  rwa [decide_eq_false hr] at this
theorem qv_gtr_t {P : Program} {n : Nat} {F : List (Nat × Value)} {h : View} {L : List Res} {dst : Option Nat} {ty : Nat} {pos : String} {af : Array Edge} {gd : Option (Nat × Bool)} {T T' : Nat} {x y : Operand} {k : IntKind} {i j : Int} (hx : ev F x = some (.int k i)) (hy : ev F y = some (.int k j)) (hr : j < i) :
    QV P n F h L ⟨dst, .binOp .gtr T x y T', ty, pos, af, gd⟩ (.bool true) := by
  have := yaj (P := P) (n := n) (h := h) (L := L) (dst := dst) (ty := ty) (pos := pos) (af := af) (gd := gd) (T := T) (T' := T') hx hy
  rwa [decide_eq_true hr] at this
theorem qv_gtr_f {P : Program} {n : Nat} {F : List (Nat × Value)} {h : View} {L : List Res} {dst : Option Nat} {ty : Nat} {pos : String} {af : Array Edge} {gd : Option (Nat × Bool)} {T T' : Nat} {x y : Operand} {k : IntKind} {i j : Int} (hx : ev F x = some (.int k i)) (hy : ev F y = some (.int k j)) (hr : ¬ (j < i)) :
    QV P n F h L ⟨dst, .binOp .gtr T x y T', ty, pos, af, gd⟩ (.bool false) := by
  have := yaj (P := P) (n := n) (h := h) (L := L) (dst := dst) (ty := ty) (pos := pos) (af := af) (gd := gd) (T := T) (T' := T') hx hy
  rwa [decide_eq_false hr] at this
theorem qv_geq_t {P : Program} {n : Nat} {F : List (Nat × Value)} {h : View} {L : List Res} {dst : Option Nat} {ty : Nat} {pos : String} {af : Array Edge} {gd : Option (Nat × Bool)} {T T' : Nat} {x y : Operand} {k : IntKind} {i j : Int} (hx : ev F x = some (.int k i)) (hy : ev F y = some (.int k j)) (hr : j ≤ i) :
    QV P n F h L ⟨dst, .binOp .geq T x y T', ty, pos, af, gd⟩ (.bool true) := by
  have := yak (P := P) (n := n) (h := h) (L := L) (dst := dst) (ty := ty) (pos := pos) (af := af) (gd := gd) (T := T) (T' := T') hx hy
  rwa [decide_eq_true hr] at this
theorem qv_geq_f {P : Program} {n : Nat} {F : List (Nat × Value)} {h : View} {L : List Res} {dst : Option Nat} {ty : Nat} {pos : String} {af : Array Edge} {gd : Option (Nat × Bool)} {T T' : Nat} {x y : Operand} {k : IntKind} {i j : Int} (hx : ev F x = some (.int k i)) (hy : ev F y = some (.int k j)) (hr : ¬ (j ≤ i)) :
    QV P n F h L ⟨dst, .binOp .geq T x y T', ty, pos, af, gd⟩ (.bool false) := by
  have := yak (P := P) (n := n) (h := h) (L := L) (dst := dst) (ty := ty) (pos := pos) (af := af) (gd := gd) (T := T) (T' := T') hx hy
  rwa [decide_eq_false hr] at this
theorem qv_eql_t {P : Program} {n : Nat} {F : List (Nat × Value)} {h : View} {L : List Res} {dst : Option Nat} {ty : Nat} {pos : String} {af : Array Edge} {gd : Option (Nat × Bool)} {T T' : Nat} {x y : Operand} {k : IntKind} {i j : Int} (hx : ev F x = some (.int k i)) (hy : ev F y = some (.int k j)) (hr : i = j) :
    QV P n F h L ⟨dst, .binOp .eql T x y T', ty, pos, af, gd⟩ (.bool true) := by
  have := yal (P := P) (n := n) (h := h) (L := L) (dst := dst) (ty := ty) (pos := pos) (af := af) (gd := gd) (T := T) (T' := T') hx hy
  rwa [decide_eq_true hr] at this
theorem qv_eql_f {P : Program} {n : Nat} {F : List (Nat × Value)} {h : View} {L : List Res} {dst : Option Nat} {ty : Nat} {pos : String} {af : Array Edge} {gd : Option (Nat × Bool)} {T T' : Nat} {x y : Operand} {k : IntKind} {i j : Int} (hx : ev F x = some (.int k i)) (hy : ev F y = some (.int k j)) (hr : ¬ (i = j)) :
    QV P n F h L ⟨dst, .binOp .eql T x y T', ty, pos, af, gd⟩ (.bool false) := by
  have := yal (P := P) (n := n) (h := h) (L := L) (dst := dst) (ty := ty) (pos := pos) (af := af) (gd := gd) (T := T) (T' := T') hx hy
  rwa [decide_eq_false hr] at this
theorem qv_neq_t {P : Program} {n : Nat} {F : List (Nat × Value)} {h : View} {L : List Res} {dst : Option Nat} {ty : Nat} {pos : String} {af : Array Edge} {gd : Option (Nat × Bool)} {T T' : Nat} {x y : Operand} {k : IntKind} {i j : Int} (hx : ev F x = some (.int k i)) (hy : ev F y = some (.int k j)) (hr : i ≠ j) :
    QV P n F h L ⟨dst, .binOp .neq T x y T', ty, pos, af, gd⟩ (.bool true) := by
  have := yam (P := P) (n := n) (h := h) (L := L) (dst := dst) (ty := ty) (pos := pos) (af := af) (gd := gd) (T := T) (T' := T') hx hy
  rwa [decide_eq_true hr] at this
theorem qv_neq_f {P : Program} {n : Nat} {F : List (Nat × Value)} {h : View} {L : List Res} {dst : Option Nat} {ty : Nat} {pos : String} {af : Array Edge} {gd : Option (Nat × Bool)} {T T' : Nat} {x y : Operand} {k : IntKind} {i j : Int} (hx : ev F x = some (.int k i)) (hy : ev F y = some (.int k j)) (hr : ¬ (i ≠ j)) :
    QV P n F h L ⟨dst, .binOp .neq T x y T', ty, pos, af, gd⟩ (.bool false) := by
  have := yam (P := P) (n := n) (h := h) (L := L) (dst := dst) (ty := ty) (pos := pos) (af := af) (gd := gd) (T := T) (T' := T') hx hy
  rwa [decide_eq_false hr] at this
end Go.Ck
end

section
namespace Go.Proofs.YtndpclcbobgdlaaGreatDoor
open Go Go.Ck
set_option maxRecDepth 100000
set_option maxHeartbeats 2000000
set_option linter.unusedVariables false
def byC (s : RS) (most : Int) : List Int × RS :=
  if s.2 ≠ 0 then ([], s)
  else if (lookC s.1 4 most).2 ≠ 0 then ([], (s.1, (lookC s.1 4 most).2))
  else if s.1.length - 4 < (lookC s.1 4 most).1.toNat then ([], (s.1, 3))
  else ((s.1.drop 4).take (lookC s.1 4 most).1.toNat, ((s.1.drop 4).drop (lookC s.1 4 most).1.toNat, 0))
def num4 (x : Int) : List Int := (putLow 4 x).reverse
theorem num4_len (x : Int) : (num4 x).length = 4 := by simp [num4, putLow_len]
theorem byC_err {s : RS} (h : s.2 ≠ 0) (most : Int) : byC s most = ([], s) := by unfold byC; rw [if_pos h]
theorem lookC_bd {l : List Int} (hb : Bytes l) {size : Nat} {most : Int} (hm : 0 ≤ most) : 0 ≤ (lookC l size most).1 ∧ (lookC l size most).1 ≤ most := by
  unfold lookC
  split
  · exact ⟨by decide, hm⟩
  · split
    · exact ⟨by decide, hm⟩
    · exact ⟨(valB_bd hb size (by omega)).1, by dsimp only; omega⟩
theorem bytes_take {l : List Int} (hb : Bytes l) (k : Nat) : Bytes (l.take k) := fun b hx => hb b (List.mem_of_mem_take hx)
theorem bytes_drop {l : List Int} (hb : Bytes l) (k : Nat) : Bytes (l.drop k) := fun b hx => hb b (List.mem_of_mem_drop hx)
theorem RsOk.by {s : RS} (h : RsOk s) {most : Int} (hm : 0 ≤ most) : RsOk (byC s most).2 ∧ Bytes (byC s most).1 ∧ ((byC s most).1.length : Int) ≤ most := by
  have hbd := lookC_bd (size := 4) h.b hm
  unfold byC
  split
  · exact ⟨h, (fun b hx => by cases hx), hm⟩
  · split
    · exact ⟨⟨h.b, h.l⟩, (fun b hx => by cases hx), hm⟩
    · split
      · exact ⟨⟨h.b, h.l⟩, (fun b hx => by cases hx), hm⟩
      · refine ⟨⟨bytes_drop (bytes_drop h.b 4) _, ?_⟩, bytes_take (bytes_drop h.b 4) _, ?_⟩
        · have := h.l
          simp only [List.length_drop]; omega
        · simp only [List.length_take, List.length_drop]; omega
theorem skipr_sp (bi : Nat) (v : Value) (l : List Int) (e : Int) (size : Nat) (hsz : size ≤ l.length) (hl : l.length ≤ 1000000) (h : View) (hv : Bs8 h v l) (w : World) (s : St ⟨w, h, doms [inR bi v e]⟩ h [inR bi v e] w) :
    Calls Tryz.prog 71 [.pointer (some ⟨bi, 0, none⟩), .int .i64 size].toArray w fun en w' => ∃ x : View × Value × Value, en = .returned x.2.1 ∧ St ⟨w, h, doms [inR bi v e]⟩ x.1 [inR bi x.2.2 e] w' ∧ (Bs8 x.1 x.2.1 (l.take size) ∧ Bs8 x.1 x.2.2 (l.drop size)) := by
  obtain ⟨_, ad, cap, rfl, hcap, _⟩ := id hv
  have ht1 : Bs8 h (.slice ad size cap) (l.take size) := by
    have := sc_take hv hsz
    unfold Bs8
    rw [List.length_take, Nat.min_eq_left hsz]
    have e : bcs (l.take size) = (bcs l).take (size * 1) := by simp [bcs]
    rw [e]; exact this
  have hd1 : Bs8 h (.slice (cutF ad cap size 1) (l.length - size) (cap - size)) (l.drop size) := by
    have := sc_drop hv (by decide) hsz
    unfold Bs8
    rw [List.length_drop]
    have e : bcs (l.drop size) = (bcs l).drop (size * 1) := by simp [bcs]
    rw [e]; exact this
  refine calls_enter Tryz.func71 rfl Tryz.ntmps71 rfl s ?_
  repeat' (first|(refine ycf ?_;apply ybk;(·first|(first|(apply qv_nilCheck;rfl)|(apply qv_slice_to;(·rfl);(·rfl);(·omega);(·omega))|(apply qv_slice_from;(·rfl);(·rfl);(·omega))));(·rfl);(·rfl))|refine t1_ ?_|(refine ta_ ?_;intro _)|((fail_if_success (refine ybi rfl ?_));refine ybj rfl ?_ ?_<;>(intro ht;rw [ht];first|replace ht := oet_ ht|replace ht := oef_ ht|skip))|(refine ych ?_;first|(refine ybw rfl ?_ ?_<;>intro ht)|(refine ybx rfl ?_ ?_<;>intro ht)))
  (refine yco (ycp Tryz.func40 rfl (by kernel_rfl) rfl) (BClone_sp (.slice ad size cap) (l.take size) h ht1 (by simp; omega)) rfl rfl rfl ?_ ?_ ?_; (· (exact to_)); (· intro _ _ hle; (exact to_)); intro x px hle)
  repeat' (first|(refine ycf ?_;apply ybk;(·first|(first|(apply qv_nilCheck;rfl)|(apply qv_slice_to;(·rfl);(·rfl);(·omega);(·omega))|(apply qv_slice_from;(·rfl);(·rfl);(·omega))));(·rfl);(·rfl))|refine t1_ ?_|(refine ta_ ?_;intro _)|((fail_if_success (refine ybi rfl ?_));refine ybj rfl ?_ ?_<;>(intro ht;rw [ht];first|replace ht := oet_ ht|replace ht := oef_ ht|skip))|(refine ych ?_;first|(refine ybw rfl ?_ ?_<;>intro ht)|(refine ybx rfl ?_ ?_<;>intro ht)))
  refine nx_ret1 rfl (rv_tmp rfl) (fun w' s' => ?_)
  obtain ⟨h2, hle2, hs2, s2⟩ := s'.rowPersistA (by intro x hx; exact hx)
  exact ⟨(h2, x, .slice (cutF ad cap size 1) (l.length - size) (cap - size)), rfl, s2, hs2, hd1.mono hle2⟩
theorem InBytes_sp (bi : Nat) (v : Value) (l : List Int) (e : Int) (most : Int) (hb : Bytes l) (hm : 0 ≤ most ∧ most < 9223372036854775808) (hl : l.length ≤ 1000000) (h : View) (hv : Bs8 h v l) (w : World) (s : St ⟨w, h, doms [inR bi v e]⟩ h [inR bi v e] w) :
    Calls Tryz.prog 51 [.pointer (some ⟨bi, 0, none⟩), .int .i64 most].toArray w fun en w' => ∃ x : View × Value × Value, en = .returned x.2.1 ∧ St ⟨w, h, doms [inR bi v e]⟩ x.1 [inR bi x.2.2 (byC (l, e) most).2.2] w' ∧ (Bs8 x.1 x.2.1 (byC (l, e) most).1 ∧ Bs8 x.1 x.2.2 (byC (l, e) most).2.1) := by
  refine calls_enter Tryz.func51 rfl Tryz.ntmps51 rfl s ?_
  unfold byC
  dsimp only
  by_cases he : e = 0
  · subst he
    rw [if_neg (by simp)]
    have hdead := dead_sp bi v 0 h
    rw [show decide ((0 : Int) ≠ 0) = false by decide] at hdead
    repeat' (first|(refine ycf ?_;apply ybk;(·first|(first|(apply qv_nilCheck;rfl)|(apply qv_slice_to;(·rfl);(·rfl);(·omega);(·omega))|(apply qv_slice_from;(·rfl);(·rfl);(·omega))));(·rfl);(·rfl))|refine t1_ ?_|(refine ta_ ?_;intro _)|((fail_if_success (refine ybi rfl ?_));refine ybj rfl ?_ ?_<;>(intro ht;rw [ht];first|replace ht := oet_ ht|replace ht := oef_ ht|skip))|(refine ych ?_;first|(refine ybw rfl ?_ ?_<;>intro ht)|(refine ybx rfl ?_ ?_<;>intro ht)))
    (refine rx_call_m (ycp Tryz.func69 rfl (by kernel_rfl) rfl) (perm_at (k := 0) rfl) (hdead) rfl rfl rfl ?_ ?_ ?_; (· (exact to_)); (· intro _ _ hle; (exact to_)); intro x px hle)
    repeat' (first|(refine ycf ?_;apply ybk;(·first|(first|(apply qv_nilCheck;rfl)|(apply qv_slice_to;(·rfl);(·rfl);(·omega);(·omega))|(apply qv_slice_from;(·rfl);(·rfl);(·omega))));(·rfl);(·rfl))|refine t1_ ?_|(refine ta_ ?_;intro _)|((fail_if_success (refine ybi rfl ?_));refine ybj rfl ?_ ?_<;>(intro ht;rw [ht];first|replace ht := oet_ ht|replace ht := oef_ ht|skip))|(refine ych ?_;first|(refine ybw rfl ?_ ?_<;>intro ht)|(refine ybx rfl ?_ ?_<;>intro ht)))
    (refine rx_call_m (ycp Tryz.func70 rfl (by kernel_rfl) rfl) (perm_at (k := 0) rfl) (look_sp bi v l 4 most hb (by omega) (by omega) hm hl h hv) rfl rfl rfl ?_ ?_ ?_; (· (exact to_)); (· intro _ _ hle; (exact to_)); intro x px hle)
    have hbd := lookC_bd (size := 4) hb hm.1
    by_cases hz : (lookC l 4 most).2 = 0
    · have hsl := lookC_len hz
      rw [if_neg (by simpa using hz), hz]
      generalize (lookC l 4 most).1 = N at hbd ⊢
      obtain ⟨N, rfl⟩ : ∃ k : Nat, N = k := ⟨N.toNat, by omega⟩
      rw [Int.toNat_natCast]
      obtain ⟨_, ad, cap, rfl, hcap, _⟩ := id hv
      by_cases hN : l.length - 4 < N
      · rw [if_pos hN]
        repeat' (first|(refine ycf ?_;apply ybk;(·first|(exact tk_));(·rfl);(·rfl))|refine t1_ ?_|(refine ta_ ?_;intro _)|((fail_if_success (refine ybi rfl ?_));refine ybj rfl ?_ ?_<;>(intro ht;rw [ht];first|replace ht := oet_ ht|replace ht := oef_ ht|skip))|(refine ych ?_;first|(refine ybw rfl ?_ ?_<;>intro ht)|(refine ybx rfl ?_ ?_<;>intro ht)))
        exact nx_ret1 rfl (rv_tmp rfl) (fun w' s' => ⟨(h, .slice none 0 0, .slice ad l.length cap), rfl, s', Sc.nil h 1 none 0, hv⟩)
      · rw [if_neg hN]
        repeat' (first|(refine ycf ?_;apply ybk;(·first|(exact tk_));(·rfl);(·rfl))|refine t1_ ?_|(refine ta_ ?_;intro _)|((fail_if_success (refine ybi rfl ?_));refine ybj rfl ?_ ?_<;>(intro ht;rw [ht];first|replace ht := oet_ ht|replace ht := oef_ ht|skip))|(refine ych ?_;first|(refine ybw rfl ?_ ?_<;>intro ht)|(refine ybx rfl ?_ ?_<;>intro ht)))
        (refine rx_call_m (ycp Tryz.func71 rfl (by kernel_rfl) rfl) (perm_at (k := 0) rfl) (skipr_sp bi _ l 0 4 hsl hl h hv) rfl rfl rfl ?_ ?_ ?_; (· (exact to_)); (· intro _ _ hle; (exact to_)); intro x px hle)
        obtain ⟨h1, v1, v2⟩ := x
        obtain ⟨p1, p2⟩ := px
        dsimp only at p1 p2 hle ⊢
        have hle1 := hle
        repeat' (first|(refine ycf ?_;apply ybk;(·first|(exact tk_));(·rfl);(·rfl))|refine t1_ ?_|(refine ta_ ?_;intro _)|((fail_if_success (refine ybi rfl ?_));refine ybj rfl ?_ ?_<;>(intro ht;rw [ht];first|replace ht := oet_ ht|replace ht := oef_ ht|skip))|(refine ych ?_;first|(refine ybw rfl ?_ ?_<;>intro ht)|(refine ybx rfl ?_ ?_<;>intro ht)))
        (refine rx_call_m (ycp Tryz.func71 rfl (by kernel_rfl) rfl) (perm_at (k := 0) rfl) (skipr_sp bi v2 (l.drop 4) 0 N (by rw [List.length_drop]; omega) (by rw [List.length_drop]; omega) h1 p2) rfl rfl rfl ?_ ?_ ?_; (· (exact to_)); (· intro _ _ hle; (exact to_)); intro x px hle)
        repeat' (first|(refine ycf ?_;apply ybk;(·first|(exact tk_));(·rfl);(·rfl))|refine t1_ ?_|(refine ta_ ?_;intro _)|((fail_if_success (refine ybi rfl ?_));refine ybj rfl ?_ ?_<;>(intro ht;rw [ht];first|replace ht := oet_ ht|replace ht := oef_ ht|skip))|(refine ych ?_;first|(refine ybw rfl ?_ ?_<;>intro ht)|(refine ybx rfl ?_ ?_<;>intro ht)))
        exact nx_ret1 rfl (rv_tmp rfl) (fun w' s' => ⟨x, rfl, s', px⟩)
    · have hf := lookC_bad hz
      rw [if_pos hz, hf]
      generalize (lookC l 4 most).2 = E at hz ⊢
      repeat' (first|(refine ycf ?_;apply ybk;(·first|(exact tk_));(·rfl);(·rfl))|refine t1_ ?_|(refine ta_ ?_;intro _)|((fail_if_success (refine ybi rfl ?_));refine ybj rfl ?_ ?_<;>(intro ht;rw [ht];first|replace ht := oet_ ht|replace ht := oef_ ht|skip))|(refine ych ?_;first|(refine ybw rfl ?_ ?_<;>intro ht)|(refine ybx rfl ?_ ?_<;>intro ht)))
      exact nx_ret1 rfl (rv_tmp rfl) (fun w' s' => ⟨(h, .slice none 0 0, v), rfl, s', Sc.nil h 1 none 0, hv⟩)
  · rw [if_pos he]
    have hdead := dead_sp bi v e h
    rw [decide_eq_true he] at hdead
    repeat' (first|(refine ycf ?_;apply ybk;(·first|(exact tk_));(·rfl);(·rfl))|refine t1_ ?_|(refine ta_ ?_;intro _)|((fail_if_success (refine ybi rfl ?_));refine ybj rfl ?_ ?_<;>(intro ht;rw [ht];first|replace ht := oet_ ht|replace ht := oef_ ht|skip))|(refine ych ?_;first|(refine ybw rfl ?_ ?_<;>intro ht)|(refine ybx rfl ?_ ?_<;>intro ht)))
    (refine rx_call_m (ycp Tryz.func69 rfl (by kernel_rfl) rfl) (perm_at (k := 0) rfl) (hdead) rfl rfl rfl ?_ ?_ ?_; (· (exact to_)); (· intro _ _ hle; (exact to_)); intro x px hle)
    repeat' (first|(refine ycf ?_;apply ybk;(·first|(exact tk_));(·rfl);(·rfl))|refine t1_ ?_|(refine ta_ ?_;intro _)|((fail_if_success (refine ybi rfl ?_));refine ybj rfl ?_ ?_<;>(intro ht;rw [ht];first|replace ht := oet_ ht|replace ht := oef_ ht|skip))|(refine ych ?_;first|(refine ybw rfl ?_ ?_<;>intro ht)|(refine ybx rfl ?_ ?_<;>intro ht)))
    exact nx_ret1 rfl (rv_tmp rfl) (fun w' s' => ⟨(h, .slice none 0 0, v), rfl, s', Sc.nil h 1 none 0, hv⟩)
theorem qv_neq_pnil {P : Program} {n : Nat} {F : List (Nat × Value)} {h : View} {L : List Res} {dst : Option Nat} {ty : Nat} {pos : String} {af : Array Edge} {gd : Option (Nat × Bool)} {T T' e : Nat} {x y : Operand} {ad : Addr} [tu : TyU P T (.pointer e)] (hx : ev F x = some (.pointer (some ad))) (hy : ev F y = some (.pointer none)) :
    QV P n F h L ⟨dst, .binOp .neq T x y T', ty, pos, af, gd⟩ (.bool true) := by
  refine .mk fun a w f s => ?_
  have hp : P.underlying T = some (.pointer (P.pointee T)) := by
    have := tu.u
    simp [Program.pointee, this]
  have hg : (eqGuard .neq T x y (.pointer (some ad)) (.pointer none)).run P w = .ok () w := by simp [eqGuard]
  have he := run_equal_pointer_nil (P := P) (w := w) T (some ad) hp
  simp only [execOp, f.ev hx, f.ev hy, Sem.run_bind, hg, Result.andThen_ok, binOp, he]
  rfl
theorem OutFixed_sp (bo : Nat) (v : Value) (l : List Int) (bad : Bool) (bv : Value) (b : List Int) (hl : l.length + b.length ≤ 1000000) (h : View) (hb : Bs8 h bv b) (w : World) (s : St ⟨w, h, doms [outR bo v bad, rowB v l]⟩ h [outR bo v bad, rowB v l] w) :
    Calls Tryz.prog 48 [.pointer (some ⟨bo, 0, none⟩), bv].toArray w fun e w' => ∃ x : Value, e = .returned (.pointer (some ⟨bo, 0, none⟩)) ∧
      St ⟨w, h, doms [outR bo v bad, rowB v l]⟩ h [outR bo x bad, rowB x (l ++ b)] w' ∧ True := by
  obtain ⟨_, ad, cap, rfl, hcap, _⟩ := id hb
  refine calls_enter Tryz.func48 rfl Tryz.ntmps48 rfl s ?_
  repeat' (first|(refine ycf ?_;apply ybk;(·first|(first|(apply qv_neq_pnil<;>rfl)|(apply qv_nilCheck;rfl)));(·rfl);(·rfl))|refine t1_ ?_|(refine ta_ ?_;intro _)|((fail_if_success (refine ybi rfl ?_));refine ybj rfl ?_ ?_<;>(intro ht;rw [ht];first|replace ht := oet_ ht|replace ht := oef_ ht|skip))|(refine ych ?_;first|(refine ybw rfl ?_ ?_<;>intro ht)|(refine ybx rfl ?_ ?_<;>intro ht)))
  refine rx_append_sc (sz := 1) 1 rfl rfl rfl hb (bcs_one b) rfl (by omega) (by unfold maxLen; omega) (by omega) rfl rfl rfl ybf (fun _ => ybf) ?_
  intro v2 hv2
  refine rx_rowform 1 rfl (fun q1 q2 q3 => ?_) ?_
  · subst q1
    have hl0 : l = [] := List.eq_nil_of_length_eq_zero (by omega)
    have hb0 : b = [] := List.eq_nil_of_length_eq_zero (by omega)
    subst hl0
    subst hb0
    repeat' (first|(refine ycf ?_;apply ybk;(·first|(first|(apply qv_neq_pnil<;>rfl)|(apply qv_nilCheck;rfl)));(·rfl);(·rfl))|refine t1_ ?_|(refine ta_ ?_;intro _)|((fail_if_success (refine ybi rfl ?_));refine ybj rfl ?_ ?_<;>(intro ht;rw [ht];first|replace ht := oet_ ht|replace ht := oef_ ht|skip))|(refine ych ?_;first|(refine ybw rfl ?_ ?_<;>intro ht)|(refine ybx rfl ?_ ?_<;>intro ht)))
    exact nx_ret1 rfl (rv_tmp rfl) (fun w' s' => ⟨_, rfl, s', trivial⟩)
  rintro g2 cap2 rfl
  repeat' (first|(refine ycf ?_;apply ybk;(·first|(first|(apply qv_neq_pnil<;>rfl)|(apply qv_nilCheck;rfl)));(·rfl);(·rfl))|refine t1_ ?_|(refine ta_ ?_;intro _)|((fail_if_success (refine ybi rfl ?_));refine ybj rfl ?_ ?_<;>(intro ht;rw [ht];first|replace ht := oet_ ht|replace ht := oef_ ht|skip))|(refine ych ?_;first|(refine ybw rfl ?_ ?_<;>intro ht)|(refine ybx rfl ?_ ?_<;>intro ht)))
  refine nx_ret1 rfl (rv_tmp rfl) (fun w' s' => ⟨.slice (some ⟨g2, 0, none⟩) (l.length + b.length) cap2, rfl, ?_, trivial⟩)
  unfold rowB
  rw [List.length_append, bcs_app]
  exact s'
theorem OutBytes_sp (bo : Nat) (v : Value) (l : List Int) (bad : Bool) (bv : Value) (b : List Int) (hl : l.length + 4 + b.length ≤ 1000000) (h : View) (hb : Bs8 h bv b) (w : World) (s : St ⟨w, h, doms [outR bo v bad, rowB v l]⟩ h [outR bo v bad, rowB v l] w) :
    Calls Tryz.prog 38 [.pointer (some ⟨bo, 0, none⟩), bv].toArray w fun e w' => ∃ x : Value, e = .returned (.pointer (some ⟨bo, 0, none⟩)) ∧
      St ⟨w, h, doms [outR bo v bad, rowB v l]⟩ h [outR bo x bad, rowB x (l ++ num4 b.length ++ b)] w' ∧ True := by
  obtain ⟨_, ad, cap, rfl, hcap, _⟩ := id hb
  refine calls_enter Tryz.func38 rfl Tryz.ntmps38 rfl s ?_
  repeat' (first|(refine ycf ?_;apply ybk;(·first|(first|(apply qv_neq_pnil<;>rfl)|(apply qv_nilCheck;rfl)));(·rfl);(·rfl))|refine t1_ ?_|(refine ta_ ?_;intro _)|((fail_if_success (refine ybi rfl ?_));refine ybj rfl ?_ ?_<;>(intro ht;rw [ht];first|replace ht := oet_ ht|replace ht := oef_ ht|skip))|(refine ych ?_;first|(refine ybw rfl ?_ ?_<;>intro ht)|(refine ybx rfl ?_ ?_<;>intro ht)))
  (refine rx_call_2 (ycp Tryz.func35 rfl (by kernel_rfl) rfl) (put_sp bo v l bad b.length 4 true (fun _ => by omega) (by omega) (by omega) (by omega) (by omega) h) rfl rfl rfl ?_ ?_ ?_; (· (exact to_)); (· intro _ _ hle; (exact to_)); intro x px hle)
  rw [Bool.not_true, Bool.or_false, if_pos rfl]
  repeat' (first|(refine ycf ?_;apply ybk;(·first|(first|(apply qv_neq_pnil<;>rfl)|(apply qv_nilCheck;rfl)));(·rfl);(·rfl))|refine t1_ ?_|(refine ta_ ?_;intro _)|((fail_if_success (refine ybi rfl ?_));refine ybj rfl ?_ ?_<;>(intro ht;rw [ht];first|replace ht := oet_ ht|replace ht := oef_ ht|skip))|(refine ych ?_;first|(refine ybw rfl ?_ ?_<;>intro ht)|(refine ybx rfl ?_ ?_<;>intro ht)))
  (refine rx_call_2 (ycp Tryz.func48 rfl (by kernel_rfl) rfl) (OutFixed_sp bo x (l ++ num4 b.length) bad _ b (by rw [List.length_append, num4_len]; omega) h hb) rfl rfl rfl ?_ ?_ ?_; (· (exact to_)); (· intro _ _ hle; (exact to_)); intro x px hle)
  repeat' (first|(refine ycf ?_;apply ybk;(·first|(first|(apply qv_neq_pnil<;>rfl)|(apply qv_nilCheck;rfl)));(·rfl);(·rfl))|refine t1_ ?_|(refine ta_ ?_;intro _)|((fail_if_success (refine ybi rfl ?_));refine ybj rfl ?_ ?_<;>(intro ht;rw [ht];first|replace ht := oet_ ht|replace ht := oef_ ht|skip))|(refine ych ?_;first|(refine ybw rfl ?_ ?_<;>intro ht)|(refine ybx rfl ?_ ?_<;>intro ht)))
  exact nx_ret1 rfl (rv_tmp rfl) (fun w' s' => ⟨x, rfl, s', trivial⟩)
theorem bstr_mid (l : List Int) (i k : Nat) : (bstr l).extract i (i + k) = bstr ((l.drop i).take k) := by
  apply ByteArray.ext
  rw [ByteArray.data_extract]
  simp only [bstr]
  apply Array.ext'
  simp [List.map_take, List.map_drop]
section
variable {P : Program} {n : Nat} {F : List (Nat × Value)} {h : View} {L : List Res} {dst : Option Nat} {ty : Nat} {pos : String} {af : Array Edge} {gd : Option (Nat × Bool)}
theorem qv_str_mid {T : Nat} {x y z : Operand} {l : List Int} {i k : Nat} {j : Int} {ki kj : IntKind} [tu : TyU P T .string] (hx : ev F x = some (.string (bstr l))) (hy : ev F y = some (.int ki i)) (hz : ev F z = some (.int kj j)) (hj : j = ((i + k : Nat) : Int)) (h1 : i + k ≤ l.length) :
    QV P n F h L ⟨dst, .slice T x (some y) (some z) none, ty, pos, af, gd⟩ (.string (bstr ((l.drop i).take k))) := .mk fun a w f s => by
  subst hj
  have h2 : i + k ≤ (bstr l).size := by rw [bstr_size]; exact h1
  have h3 : 0 ≤ (i : Int) + k ∧ (i : Int) + k ≤ ((bstr l).size : Int) := by omega
  have h4 : ((i : Int) + k).toNat = i + k := by omega
  simp [execOp, f.ev hx, f.ev hy, f.ev hz, Instr.sliceAt, Instr.slice, Instr.sliceBounds, Instr.sliceBound, asIntOf, run_underlying tu.u, h3, h4]
  exact bstr_mid l i k
end
theorem rInBytes_sp (bi : Nat) (l : List Int) (e : Int) (most : Int) (hb : Bytes l) (hm : 0 ≤ most ∧ most < 9223372036854775808) (hl : l.length ≤ 1000000) (h : View) (w : World) (s : St ⟨w, h, doms [rinR bi l e]⟩ h [rinR bi l e] w) :
    Calls Tryz.prog 30 [.pointer (some ⟨bi, 0, none⟩), .int .i64 most].toArray w fun en w' => ∃ x : Unit, en = .returned (.string (bstr (byC (l, e) most).1)) ∧ St ⟨w, h, doms [rinR bi l e]⟩ h [rinR bi (byC (l, e) most).2.1 (byC (l, e) most).2.2] w' ∧ True := by
  refine calls_enter Tryz.func30 rfl Tryz.ntmps30 rfl s ?_
  unfold byC
  dsimp only
  by_cases he : e = 0
  · subst he
    rw [if_neg (by simp)]
    repeat' (first|(refine ycf ?_;apply ybk;(·first|(first|(apply qv_nilCheck;rfl)));(·rfl);(·rfl))|refine t1_ ?_|(refine ta_ ?_;intro _)|((fail_if_success (refine ybi rfl ?_));refine ybj rfl ?_ ?_<;>(intro ht;rw [ht];first|replace ht := oet_ ht|replace ht := oef_ ht|skip))|(refine ych ?_;first|(refine ybw rfl ?_ ?_<;>intro ht)|(refine ybx rfl ?_ ?_<;>intro ht)))
    (refine rx_call_m (ycp Tryz.func53 rfl (by kernel_rfl) rfl) (perm_at (k := 0) rfl) (rnumber_sp bi l 4 most hb (by omega) (by omega) hm h) rfl rfl rfl ?_ ?_ ?_; (· (exact to_)); (· intro _ _ hle; (exact to_)); intro x px hle)
    have hbd := lookC_bd (size := 4) hb hm.1
    by_cases hz : (lookC l 4 most).2 = 0
    · have hsl := lookC_len hz
      rw [if_neg (by simpa using hz), hz]
      generalize (lookC l 4 most).1 = N at hbd ⊢
      obtain ⟨N, rfl⟩ : ∃ k : Nat, N = k := ⟨N.toNat, by omega⟩
      rw [Int.toNat_natCast]
      by_cases hN : l.length - 4 < N
      · rw [if_pos hN]
        repeat' (first|(refine ycf ?_;apply ybk;(·first|(first|(apply qv_nilCheck;rfl)|exact qv_len_bstr rfl|exact tk_));(·rfl);(·rfl))|refine t1_ ?_|(refine ta_ ?_;intro _)|((fail_if_success (refine ybi rfl ?_));refine ybj rfl ?_ ?_<;>(intro ht;rw [ht];first|replace ht := oet_ ht|replace ht := oef_ ht|skip))|(refine ych ?_;first|(refine ybw rfl ?_ ?_<;>intro ht)|(refine ybx rfl ?_ ?_<;>intro ht)))
        exact nx_ret1 rfl (rv_tmp rfl) (fun w' s' => ⟨(), rfl, s', trivial⟩)
      · rw [if_neg hN]
        have hcat : (l.drop 4).drop N = l.drop (4 + N) := by rw [List.drop_drop]
        have hw : IntKind.i64.wrap (4 + (N : Int)) = ((4 + N : Nat) : Int) := by rw [IntKind.wrap_i64]; omega
        rw [hcat]
        repeat' (first|(refine ycf ?_;apply ybk;(·first|(first|(apply qv_nilCheck;rfl)|exact qv_len_bstr rfl|exact qv_add' rfl rfl hw|exact qv_str_mid (i := 4) (k := N) rfl rfl rfl rfl (by omega)|exact qv_str_from (i := 4 + N) rfl rfl (by omega)|exact tk_));(·rfl);(·rfl))|refine t1_ ?_|(refine ta_ ?_;intro _)|((fail_if_success (refine ybi rfl ?_));refine ybj rfl ?_ ?_<;>(intro ht;rw [ht];first|replace ht := oet_ ht|replace ht := oef_ ht|skip))|(refine ych ?_;first|(refine ybw rfl ?_ ?_<;>intro ht)|(refine ybx rfl ?_ ?_<;>intro ht)))
        exact nx_ret1 rfl (rv_tmp rfl) (fun w' s' => ⟨(), rfl, s', trivial⟩)
    · rw [if_pos hz, lookC_bad hz]
      generalize (lookC l 4 most).2 = E at hz ⊢
      repeat' (first|(refine ycf ?_;apply ybk;(·first|(first|(apply qv_nilCheck;rfl)|exact tk_));(·rfl);(·rfl))|refine t1_ ?_|(refine ta_ ?_;intro _)|((fail_if_success (refine ybi rfl ?_));refine ybj rfl ?_ ?_<;>(intro ht;rw [ht];first|replace ht := oet_ ht|replace ht := oef_ ht|skip))|(refine ych ?_;first|(refine ybw rfl ?_ ?_<;>intro ht)|(refine ybx rfl ?_ ?_<;>intro ht)))
      exact nx_ret1 rfl (rv_tmp rfl) (fun w' s' => ⟨(), rfl, s', trivial⟩)
  · rw [if_pos he]
    repeat' (first|(refine ycf ?_;apply ybk;(·first|(first|(apply qv_nilCheck;rfl)|exact tk_));(·rfl);(·rfl))|refine t1_ ?_|(refine ta_ ?_;intro _)|((fail_if_success (refine ybi rfl ?_));refine ybj rfl ?_ ?_<;>(intro ht;rw [ht];first|replace ht := oet_ ht|replace ht := oef_ ht|skip))|(refine ych ?_;first|(refine ybw rfl ?_ ?_<;>intro ht)|(refine ybx rfl ?_ ?_<;>intro ht)))
    exact nx_ret1 rfl (rv_tmp rfl) (fun w' s' => ⟨(), rfl, s', trivial⟩)
end Go.Proofs.YtndpclcbobgdlaaGreatDoor
end

section
namespace Go.Ck
open Go
set_option linter.unusedVariables false
set_option linter.unusedSimpArgs false
section
variable {P : Program} {n : Nat} {K : Bs} {F : List (Nat × Value)} {h : View} {L : List Res} {Q : Exit → Act → World → Prop}
variable {dst : Option Nat} {ty : Nat} {pos : String} {af : Array Edge} {gd : Option (Nat × Bool)}
theorem rx_row {g' : Rg} {prs : List (Nat × Oper)} (e : TypeId) (k : Nat) (hx : RX P n K g' prs F h (Res.row e k (.slice none 0 0) 0 [] :: L) Q) : RX P n K g' prs F h L Q := by
  unfold RX at *
  exact fun a w f s => hx a w f (s.rowNil e k)
end
end Go.Ck
end

section
namespace Go.Ck
open Go
set_option linter.unusedVariables false
section
variable {P : Program} {ops : Array Oper} {S : World → Prop} {lo bar : Nat → Bool} {fl : Nat → Bool}
def Pass (ops : Array Oper) (lo bar : Nat → Bool) (p : Nat × Oper) (i : Nat) (o : Oper) : Prop :=
  p.2.apart ops o = true ∧ (lo i && lo p.1) = false ∧ bar i = false ∧ bar p.1 = false ∧ (∀ cs b, o.op ≠ .select cs b) ∧ (∀ cs b, p.2.op ≠ .select cs b)
theorem Pass.swap {p : Nat × Oper} {i : Nat} {o : Oper} (h : Pass ops lo bar p i o) {K : Act → World → Prop} {a : Act} {w : World}
    (hr : R1 P ops S (lo p.1) (bar p.1) p.2 (fun a w => R1 P ops S (lo i) (bar i) o K a w) a w) : R1 P ops S (lo i) (bar i) o (fun a w => R1 P ops S (lo p.1) (bar p.1) p.2 K a w) a w := by
  obtain ⟨e1, e2, e3, e4, e5, e6⟩ := h
  exact Ck.swap e1 e5 e6 e2 e3 e4 hr
section
variable {ms : List Nat} {rk : Nat → Nat}
end
end
structure Flo where
  i : Nat
  o : Oper
  s : Nat
  f : Nat → Value
  ob : Obj
section
variable {P : Program} {n : Nat} {K : Bs} {g : Rg} {Y : List Flo} {F : List (Nat × Value)} {h : View} {L : List Res} {Q : Exit → Act → World → Prop}
structure FloOk (P : Program) (n : Nat) (g : Rg) (y : Flo) : Prop where
  dst : y.o.dst = some y.s
  okd : okd n (some y.s) = true
  gd : y.o.guard = none
  lo : g.lo y.i = true
  ma : ∀ F h L, MA P n F h L y.o y.f y.ob
end
end Go.Ck
end

section
namespace Go.Proofs.YtndpclcbobgdlaaGreatDoor
open Go Go.Ck
set_option maxRecDepth 100000
set_option maxHeartbeats 1000000
set_option linter.unusedVariables false
structure Inv (u : List Int) (out : List Dt) : Prop where
  len : u.length = 16
  bd : ∀ x ∈ u, 0 ≤ x ∧ x ≤ 1099511627776
  mor : ∀ e ∈ out, rightB e = true ∧ uD u e + 1 < e.2
  srt : out.Pairwise fun x y => ordD x y < 0
end Go.Proofs.YtndpclcbobgdlaaGreatDoor
end

section
namespace Go.Proofs.YtndpclcbobgdlaaGreatDoor
open Go Go.Ck
set_option maxRecDepth 100000
set_option maxHeartbeats 1000000
set_option linter.unusedVariables false
structure GSt where
  k : Nat
  h : View
  ua : List Int
  la : List Dt
  va : Value
  ub : List Int
  lb : List Dt
  vb : Value
structure GOk (h0 : View) (L : List Dt) (g : GSt) : Prop where
  kl : g.k ≤ L.length
  le : Le h0 g.h
  ca : Inv g.ua g.la
  cb : Inv g.ub g.lb
  na : g.la.length ≤ g.k
  nb : g.lb.length ≤ g.k
  da : Ds g.h g.va g.la
  db : Ds g.h g.vb g.lb
  sa : ∀ x, rightB x = true → hasC g.ua g.la x = decide (x ∈ L.take g.k)
  sb : ∀ x, rightB x = true → hasC g.ub g.lb x = decide (x ∈ L.reverse.take g.k)
end Go.Proofs.YtndpclcbobgdlaaGreatDoor
end

section
namespace Go.Proofs.YtndpclcbobgdlaaGreatDoor
open Go Go.Ck
set_option maxRecDepth 100000
set_option maxHeartbeats 2000000
set_option linter.unusedVariables false
structure Sb where
  d : Dt
  u : List Int
  hu : u.length = 16
  l : List Dt
  mv : Value
  b : List Int
  bv : Value
def sbc (s : Sb) : List Value := dcs s.d ++ (cxc s.u s.mv ++ [s.bv])
structure Sv (h : View) (s : Sb) : Prop where
  ds : Ds h s.mv s.l
  bs : Bs8 h s.bv s.b
  by8 : Bytes s.b
theorem Sv.mono {h h' : View} {s : Sb} (v : Sv h s) (hl : Le h h') : Sv h' s := ⟨v.ds.mono hl, v.bs.mono hl, v.by8⟩
abbrev Ab := Dt × List Int × List Dt × List Int
def Sb.a (s : Sb) : Ab := (s.d, s.u, s.l, s.b)
def Ss (h : View) (v : Value) (l : List Sb) : Prop := Sc h 20 v l.length (l.flatMap sbc) ∧ ∀ s ∈ l, Sv h s
theorem Ss.mono {h h' : View} {v : Value} {l : List Sb} (s : Ss h v l) (hl : Le h h') : Ss h' v l := ⟨s.1.mono hl, fun x hx => (s.2 x hx).mono hl⟩
section
variable {h : View} {L : List Res} {b o : Nat} {s : Sb}
end
theorem Sv.one {h : View} {s : Sb} (v : Sv h s) : s.mv.oneCell' = true ∧ s.bv.oneCell' = true := by
  obtain ⟨_, _, _, e1, _⟩ := v.ds
  obtain ⟨_, _, _, e2, _⟩ := v.bs
  rw [e1, e2]
  exact ⟨rfl, rfl⟩
end Go.Proofs.YtndpclcbobgdlaaGreatDoor
end

section
namespace Go.Proofs.YtndpclcbobgdlaaGreatDoor
open Go Go.Ck
set_option maxRecDepth 100000
set_option maxHeartbeats 2000000
set_option linter.unusedVariables false
section
variable {h : View} {L : List Res}
end
def KF (l m : List Sb) : Prop := ∀ d : Dt, l.filter (fun x => decide (x.d = d)) = m.filter (fun x => decide (x.d = d))
theorem KF.refl (l : List Sb) : KF l l := fun _ => rfl
theorem KF.symm {l m : List Sb} (h : KF l m) : KF m l := fun d => (h d).symm
theorem KF.trans {l m n : List Sb} (h : KF l m) (k : KF m n) : KF l n := fun d => (h d).trans (k d)
theorem KF.move {x : Sb} : ∀ {l : List Sb}, (∀ y ∈ l, y.d ≠ x.d) → KF (l ++ [x]) (x :: l)
  | [], _ => KF.refl _
  | y :: l, h => fun d => by
    have ih := KF.move (l := l) (fun z hz => h z (List.mem_cons_of_mem _ hz)) d
    have hy := h y (List.mem_cons_self ..)
    rw [List.cons_append, List.filter_cons, ih]
    by_cases e1 : x.d = d
    · have e2 : y.d ≠ d := fun e => hy (e.trans e1.symm)
      simp [e1, e2]
    · simp [List.filter_cons, e1]
theorem KF.perm {l m : List Sb} (h : KF l m) : l.Perm m := by
  classical
  refine List.perm_iff_count.2 fun x => ?_
  have h1 := h x.d
  have e1 := List.count_filter (p := fun y : Sb => decide (y.d = x.d)) (a := x) (l := l) (by simp)
  have e2 := List.count_filter (p := fun y : Sb => decide (y.d = x.d)) (a := x) (l := m) (by simp)
  rw [← e1, ← e2, h1]
theorem KF.len {l m : List Sb} (h : KF l m) : l.length = m.length := h.perm.length_eq
theorem KF.swap {a b : List Sb} (h : ∀ x ∈ a, ∀ y ∈ b, y.d ≠ x.d) : KF (a ++ b) (b ++ a) := fun d => by
  rw [List.filter_append, List.filter_append]
  by_cases h1 : ∃ x ∈ a, x.d = d
  · obtain ⟨x, hx, rfl⟩ := h1
    have : b.filter (fun y => decide (y.d = x.d)) = [] := List.filter_eq_nil_iff.2 fun y hy => by simpa using h x hx y hy
    rw [this, List.append_nil, List.nil_append]
  · have : a.filter (fun y => decide (y.d = d)) = [] := List.filter_eq_nil_iff.2 fun y hy => by simpa using fun e => h1 ⟨y, hy, e⟩
    rw [this, List.append_nil, List.nil_append]
end Go.Proofs.YtndpclcbobgdlaaGreatDoor
end

section
namespace Go.Proofs.YtndpclcbobgdlaaGreatDoor
open Go Go.Ck
set_option maxRecDepth 100000
set_option maxHeartbeats 4000000
set_option linter.unusedVariables false
section
variable {P : Program} {n : Nat} {K : Bs} {F : List (Nat × Value)} {h : View} {L : List Res} {Q : Exit → Act → World → Prop}
variable {dst : Option Nat} {ty : Nat} {pos : String} {af : Array Edge} {gd : Option (Nat × Bool)}
end
structure Rv (h : View) (s : Sb) : Prop where
  ds : Ds h s.mv s.l
  bs : s.bv = .string (bstr s.b)
  by8 : Bytes s.b
theorem Rv.mono {h h' : View} {s : Sb} (v : Rv h s) (hl : Le h h') : Rv h' s := ⟨v.ds.mono hl, v.bs, v.by8⟩
theorem Rv.one {h : View} {s : Sb} (v : Rv h s) : s.mv.oneCell' = true ∧ s.bv.oneCell' = true := by
  obtain ⟨_, _, _, e1, _⟩ := v.ds
  rw [e1, v.bs]
  exact ⟨rfl, rfl⟩
def Rs (h : View) (v : Value) (l : List Sb) : Prop := Sc h 20 v l.length (l.flatMap sbc) ∧ ∀ s ∈ l, Rv h s
theorem Rs.mono {h h' : View} {v : Value} {l : List Sb} (s : Rs h v l) (hl : Le h h') : Rs h' v l := ⟨s.1.mono hl, fun x hx => (s.2 x hx).mono hl⟩
end Go.Proofs.YtndpclcbobgdlaaGreatDoor
end

section
namespace Go.Proofs.YtndpclcbobgdlaaGreatDoor
open Go Go.Ck
set_option maxRecDepth 100000
set_option maxHeartbeats 4000000
set_option linter.unusedVariables false
def s0 (d : Dt) : Sb := ⟨d, zeroU, rfl, [], .slice none 0 0, [], .slice none 0 0⟩
end Go.Proofs.YtndpclcbobgdlaaGreatDoor
end

section
namespace Go.Proofs.YtndpclcbobgdlaaGreatDoor
open Go Go.Ck
set_option maxRecDepth 100000
set_option maxHeartbeats 2000000
set_option linter.unusedVariables false
theorem byC_took {s : RS} (hb : Bytes s.1) {most : Int} (h : (byC s most).2.2 = 0) : s.2 = 0 ∧ num4 (byC s most).1.length ++ (byC s most).1 ++ (byC s most).2.1 = s.1 := by
  unfold byC at h ⊢
  by_cases h0 : s.2 ≠ 0
  · rw [if_pos h0] at h; exact absurd h h0
  · rw [if_neg h0] at h ⊢
    refine ⟨Decidable.not_not.1 h0, ?_⟩
    by_cases h1 : (lookC s.1 4 most).2 = 0
    · rw [if_neg (by simpa using h1)] at h ⊢
      have hl := lookC_len h1
      have e : (lookC s.1 4 most).1 = valB (s.1.take 4) := by
        unfold lookC at h1 ⊢
        split
        · rename_i h2; rw [if_pos h2] at h1; cases h1
        · rename_i h2
          rw [if_neg h2] at h1
          split
          · rename_i h3; rw [if_pos h3] at h1; cases h1
          · rfl
      by_cases h2 : s.1.length - 4 < (lookC s.1 4 most).1.toNat
      · rw [if_pos h2] at h; cases h
      · rw [if_neg h2]
        have hp := putLow_val (l := s.1.take 4) (fun x hx => hb x (List.mem_of_mem_take hx))
        rw [List.length_take, Nat.min_eq_left hl, ← e] at hp
        have hn : 0 ≤ (lookC s.1 4 most).1 := by rw [e]; exact (valB_bd hb 4 hl).1
        have hlen : (((s.1.drop 4).take (lookC s.1 4 most).1.toNat).length : Int) = (lookC s.1 4 most).1 := by
          rw [List.length_take, List.length_drop]; omega
        dsimp only
        rw [hlen]
        unfold num4
        rw [hp, List.append_assoc, List.take_append_drop, List.take_append_drop]
    · rw [if_pos h1] at h
      exact absurd h h1
end Go.Proofs.YtndpclcbobgdlaaGreatDoor
end
