/-
  BitI: strings of bytes looked at and cut; casketref01.Word; casketref08.In: number, take, Num, Small, End.
  Conditions: each theorem states its own.
-/
import Derived.Test.YtbpahaciegfpfaaBitH
namespace Go.Proofs.Ytbpahaciegfpfaa
open Go Go.Ck
set_option maxRecDepth 100000
set_option maxHeartbeats 2000000
set_option linter.unusedVariables false

theorem bstr_take (l : List Int) (k : Nat) : (bstr l).extract 0 k = bstr (l.take k) := by
  apply ByteArray.ext
  rw [ByteArray.data_extract]
  simp [bstr, List.map_take]
theorem bstr_drop (l : List Int) (k : Nat) : (bstr l).extract k (bstr l).size = bstr (l.drop k) := by
  apply ByteArray.ext
  rw [ByteArray.data_extract, bstr_size]
  simp [bstr, List.map_drop]
  exact List.take_of_length_le (by simp)
theorem bstr_at {l : List Int} (hb : Bytes l) {i : Nat} (hi : i < l.length) : ∃ v : UInt8, (bstr l)[i]? = some v ∧ (v.toNat : Int) = l[i] := by
  have hx := hb l[i] (List.getElem_mem _)
  refine ⟨UInt8.ofNat l[i].toNat, ?_, ?_⟩
  · have hs : i < (bstr l).size := by rw [bstr_size]; exact hi
    rw [getElem?_pos (bstr l) i hs]
    show some ((bstr l).data[i]'_) = _
    simp [bstr]
  · rw [UInt8.toNat_ofNat']
    omega

section
variable {P : Program} {n : Nat} {F : List (Nat × Value)} {h : View} {L : List Res} {dst : Option Nat} {ty : Nat} {pos : String} {af : Array Edge} {gd : Option (Nat × Bool)}
theorem qv_at_bstr {T : Nat} {x y : Operand} {l : List Int} {ki : IntKind} {i : Int} {k : Nat} (hb : Bytes l) [tu : TyU P T .string] (hx : ev F x = some (.string (bstr l))) (hy : ev F y = some (.int ki i))
    (hi : i = k) (hk : k < l.length) : QV P n F h L ⟨dst, .index T x y, ty, pos, af, gd⟩ (.int .u8 l[k]) := by
  obtain ⟨v, h1, h2⟩ := bstr_at hb hk
  rw [← h2]
  refine qv_index_str hx hy (by omega) ?_
  subst hi
  exact h1
theorem qv_str_to {T : Nat} {x y : Operand} {l : List Int} {i : Nat} {ki : IntKind} [tu : TyU P T .string] (hx : ev F x = some (.string (bstr l))) (hy : ev F y = some (.int ki i)) (h1 : i ≤ l.length) :
    QV P n F h L ⟨dst, .slice T x none (some y) none, ty, pos, af, gd⟩ (.string (bstr (l.take i))) := .mk fun a w f s => by
  have h2 : i ≤ (bstr l).size := by rw [bstr_size]; exact h1
  simp [execOp, f.ev hx, f.ev hy, Instr.sliceAt, Instr.slice, Instr.sliceBounds, Instr.sliceBound, asIntOf, run_underlying tu.u, h2]
  exact bstr_take l i
theorem qv_str_from {T : Nat} {x y : Operand} {l : List Int} {i : Nat} {ki : IntKind} [tu : TyU P T .string] (hx : ev F x = some (.string (bstr l))) (hy : ev F y = some (.int ki i)) (h1 : i ≤ l.length) :
    QV P n F h L ⟨dst, .slice T x (some y) none none, ty, pos, af, gd⟩ (.string (bstr (l.drop i))) := .mk fun a w f s => by
  have h2 : i ≤ (bstr l).size := by rw [bstr_size]; exact h1
  simp [execOp, f.ev hx, f.ev hy, Instr.sliceAt, Instr.slice, Instr.sliceBounds, Instr.sliceBound, asIntOf, run_underlying tu.u, h2]
  exact bstr_drop l i
theorem qv_len_bstr {x : Operand} {T : Nat} {l : List Int} [tu : TyU P T .string] (hx : ev F x = some (.string (bstr l))) : QV P n F h L ⟨dst, .call ⟨.builtin .len, #[x], #[T]⟩, ty, pos, af, gd⟩ (.int .i64 l.length) := by
  rw [← bstr_size]; exact yar hx
theorem qv_mul' {T T' : Nat} {x y : Operand} {k : IntKind} {i j r : Int} (hx : ev F x = some (.int k i)) (hy : ev F y = some (.int k j)) (hr : k.wrap (i * j) = r) : QV P n F h L ⟨dst, .binOp .mul T x y T', ty, pos, af, gd⟩ (.int k r) := by subst hr; exact qv_mul_w hx hy
theorem qv_add' {T T' : Nat} {x y : Operand} {k : IntKind} {i j r : Int} (hx : ev F x = some (.int k i)) (hy : ev F y = some (.int k j)) (hr : k.wrap (i + j) = r) : QV P n F h L ⟨dst, .binOp .add T x y T', ty, pos, af, gd⟩ (.int k r) := by subst hr; exact qv_add_w hx hy
theorem qv_neq_str {T T' : Nat} {x y : Operand} {a b : ByteArray} {t : Bool} (hx : ev F x = some (.string a)) (hy : ev F y = some (.string b)) (ht : (!(a.toList == b.toList)) = t) :
    QV P n F h L ⟨dst, .binOp .neq T x y T', ty, pos, af, gd⟩ (.bool t) := by
  subst ht
  refine .mk fun ac w f s => ?_
  have hg : (eqGuard .neq T x y (.string a) (.string b)).run P w = .ok () w := by simp [eqGuard]
  simp only [execOp, f.ev hx, f.ev hy, Sem.run_bind, hg, Result.andThen_ok, binOp, Op.stringOp]
  rfl
end

theorem Word_sp (l : List Int) (hb : Bytes l) (hl : l.length ≤ 8) (h : View) (w : World) (s : St ⟨w, h, []⟩ h [] w) :
    Calls Try.prog 83 [.string (bstr l), .bool true].toArray w fun e w' => e = .returned (.int .u64 (valB l)) ∧ St ⟨w, h, []⟩ h [] w' := by
  refine calls_enter Try.func83 rfl Try.ntmps83 rfl s ?_
  repeat' (first | refine tw_ ?_ | (refine ta_ ?_; intro _) | ((fail_if_success (refine ybi rfl ?_)); refine ybj rfl ?_ ?_ <;> (intro ht; rw [ht]; first | replace ht := of_decide_eq_true ht | replace ht := of_decide_eq_false ht | skip)) | (refine ych ?_; first | (refine ybw rfl ?_ ?_ <;> intro ht) | (refine ybx rfl ?_ ?_ <;> intro ht)))
  refine cx_loop (X := Nat) (fun k => [(0, .string (bstr l)), (1, .bool true), (5, .int .u64 (valB (l.take k))), (6, .int .i64 k)]) (fun _ => h) (fun _ => []) (fun k => k ≤ l.length) (fun k => l.length - k) 0 (Nat.zero_le _) ts_ (fun _ s => s) ?_
  intro k hk
  by_cases hkl : k < l.length
  · have hbd := valB_bd hb k (by omega)
    have hp : (256 : Int) ^ k ≤ 256 ^ 7 := p256 (by omega)
    have e7 : (256 : Int) ^ 7 = 72057594037927936 := by decide
    rw [e7] at hp
    have hc := hb l[k] (List.getElem_mem _)
    have hmul : IntKind.u64.wrap (valB (l.take k) * 256) = valB (l.take k) * 256 := wrap_u64 (by omega) (by omega)
    have hcw : IntKind.u64.wrap l[k] = l[k] := wrap_u64 hc.1 (by omega)
    have hadd : IntKind.u64.wrap (valB (l.take k) * 256 + l[k]) = valB (l.take (k + 1)) := by
      rw [valB_succ hkl]; exact wrap_u64 (by omega) (by omega)
    repeat' (first | (refine ycf ?_; apply ybk; (· first | (first | (refine qv_len_bstr rfl) | (refine qv_at_bstr (k := k) hb rfl rfl rfl hkl) | (refine qv_at_bstr (k := l.length - 1 - k) hb rfl rfl (by omega) (by omega)) | (refine qv_mul' rfl rfl hmul) | (refine qv_convert_int' rfl hcw) | (refine qv_add' rfl rfl hadd))); (· rfl); (· rfl)) | refine t1_ ?_ | (refine ta_ ?_; intro _) | ((fail_if_success (refine ybi rfl ?_)); refine ybj rfl ?_ ?_ <;> (intro ht; rw [ht]; first | replace ht := of_decide_eq_true ht | replace ht := of_decide_eq_false ht | skip)) | (refine ych ?_; first | (refine ybw rfl ?_ ?_ <;> intro ht) | (refine ybx rfl ?_ ?_ <;> intro ht)))
    · exact nx_round (k + 1) (by show k + 1 ≤ l.length; omega) (by show l.length - (k + 1) < l.length - k; omega) ts_ (fun _ s => s)
    all_goals omega
  · have ek : k = l.length := by omega
    subst ek
    repeat' (first | (refine ycf ?_; apply ybk; (· first | (first | (refine qv_len_bstr rfl) | (refine qv_at_bstr (k := k) hb rfl rfl rfl hkl) | (refine qv_at_bstr (k := l.length - 1 - k) hb rfl rfl (by omega) (by omega)) | (refine qv_mul' rfl rfl hmul) | (refine qv_convert_int' rfl hcw) | (refine qv_add' rfl rfl hadd))); (· rfl); (· rfl)) | refine t1_ ?_ | (refine ta_ ?_; intro _) | ((fail_if_success (refine ybi rfl ?_)); refine ybj rfl ?_ ?_ <;> (intro ht; rw [ht]; first | replace ht := of_decide_eq_true ht | replace ht := of_decide_eq_false ht | skip)) | (refine ych ?_; first | (refine ybw rfl ?_ ?_ <;> intro ht) | (refine ybx rfl ?_ ?_ <;> intro ht)))
    all_goals try omega
    rw [List.take_length]
    exact nx_ret1 rfl (rv_tmp rfl) (fun w' s' => ⟨rfl, s'⟩)

abbrev rinR (bi : Nat) (l : List Int) (e : Int) : Res := Res.blk bi (.cells #[.string (bstr l), .int .i64 e] 77 (0, 0))

theorem rnumber_sp (bi : Nat) (l : List Int) (size : Nat) (most : Int) (hb : Bytes l) (h0 : 0 < size) (h8 : size ≤ 8) (hm : 0 ≤ most ∧ most < 9223372036854775808) (h : View) (w : World) (s : St ⟨w, h, doms [rinR bi l 0]⟩ h [rinR bi l 0] w) :
    Calls Try.prog 76 [.pointer (some ⟨bi, 0, none⟩), .int .i64 size, .int .i64 most].toArray w fun en w' => ∃ x : Unit, en = .returned (.int .i64 (lookC l size most).1) ∧ St ⟨w, h, doms [rinR bi l 0]⟩ h [rinR bi l (lookC l size most).2] w' ∧ True := by
  refine calls_enter Try.func76 rfl Try.ntmps76 rfl s ?_
  unfold lookC
  by_cases hsz : l.length < size
  · rw [if_pos hsz]
    repeat' (first | (refine ycf ?_; apply ybk; (· first | (first | (refine qv_len_bstr rfl) | (apply qv_nilCheck; rfl))); (· rfl); (· rfl)) | refine t1_ ?_ | (refine ta_ ?_; intro _) | ((fail_if_success (refine ybi rfl ?_)); refine ybj rfl ?_ ?_ <;> (intro ht; rw [ht]; first | replace ht := of_decide_eq_true ht | replace ht := of_decide_eq_false ht | skip)) | (refine ych ?_; first | (refine ybw rfl ?_ ?_ <;> intro ht) | (refine ybx rfl ?_ ?_ <;> intro ht)))
    · exact nx_ret1 rfl (rv_tmp rfl) (fun w' s' => ⟨(), rfl, s', trivial⟩)
    · omega
  · rw [if_neg hsz]
    have hbt : Bytes (l.take size) := fun x hx => hb x (List.mem_of_mem_take hx)
    have hlt : (l.take size).length ≤ 8 := by simp; omega
    have hbd := valB_bd hb size (by omega)
    have hp : (256 : Int) ^ size ≤ 256 ^ 8 := p256 h8
    have e8 : (256 : Int) ^ 8 = 18446744073709551616 := by decide
    rw [e8] at hp
    have hW := Word_sp (l.take size) hbt hlt h
    generalize valB (l.take size) = X at hbd hW ⊢
    have hmw : IntKind.u64.wrap most = most := wrap_u64 hm.1 (by omega)
    repeat' (first | (refine ycf ?_; apply ybk; (· first | (first | (refine qv_len_bstr rfl) | (apply qv_nilCheck; rfl) | (refine qv_str_to rfl rfl (by omega)) | (refine qv_convert_int' rfl hmw))); (· rfl); (· rfl)) | refine t1_ ?_ | (refine ta_ ?_; intro _) | ((fail_if_success (refine ybi rfl ?_)); refine ybj rfl ?_ ?_ <;> (intro ht; rw [ht]; first | replace ht := of_decide_eq_true ht | replace ht := of_decide_eq_false ht | skip)) | (refine ych ?_; first | (refine ybw rfl ?_ ?_ <;> intro ht) | (refine ybx rfl ?_ ?_ <;> intro ht)))
    · omega
    (refine ycn (ycp Try.func83 rfl (by kernel_rfl) rfl) (hW) rfl rfl rfl ?_ ?_; (· (exact to_)))
    by_cases hX : most < X
    · rw [if_pos hX]
      repeat' (first | (refine ycf ?_; apply ybk; (· first | (first | (refine qv_len_bstr rfl) | (apply qv_nilCheck; rfl) | (refine qv_str_to rfl rfl (by omega)) | (refine qv_convert_int' rfl hmw))); (· rfl); (· rfl)) | refine t1_ ?_ | (refine ta_ ?_; intro _) | ((fail_if_success (refine ybi rfl ?_)); refine ybj rfl ?_ ?_ <;> (intro ht; rw [ht]; first | replace ht := of_decide_eq_true ht | replace ht := of_decide_eq_false ht | skip)) | (refine ych ?_; first | (refine ybw rfl ?_ ?_ <;> intro ht) | (refine ybx rfl ?_ ?_ <;> intro ht)))
      all_goals try omega
      exact nx_ret1 rfl (rv_tmp rfl) (fun w' s' => ⟨(), rfl, s', trivial⟩)
    · rw [if_neg hX]
      have hXw : IntKind.i64.wrap X = X := wrap_i64 (by unfold I64; omega)
      repeat' (first | (refine ycf ?_; apply ybk; (· first | (first | (refine qv_len_bstr rfl) | (apply qv_nilCheck; rfl) | (refine qv_convert_int' rfl hXw) | (refine qv_convert_int' rfl hmw))); (· rfl); (· rfl)) | refine t1_ ?_ | (refine ta_ ?_; intro _) | ((fail_if_success (refine ybi rfl ?_)); refine ybj rfl ?_ ?_ <;> (intro ht; rw [ht]; first | replace ht := of_decide_eq_true ht | replace ht := of_decide_eq_false ht | skip)) | (refine ych ?_; first | (refine ybw rfl ?_ ?_ <;> intro ht) | (refine ybx rfl ?_ ?_ <;> intro ht)))
      all_goals try omega
      exact nx_ret1 rfl (rv_tmp rfl) (fun w' s' => ⟨(), rfl, s', trivial⟩)

theorem lookC_bad {l : List Int} {size : Nat} {most : Int} (hz : (lookC l size most).2 ≠ 0) : (lookC l size most).1 = 0 := by
  unfold lookC at hz ⊢
  split
  · rfl
  · rename_i h1
    rw [if_neg h1] at hz
    split
    · rfl
    · rename_i h2
      rw [if_neg h2] at hz
      exact absurd rfl hz
theorem lookC_len {l : List Int} {size : Nat} {most : Int} (hz : (lookC l size most).2 = 0) : size ≤ l.length := by
  unfold lookC at hz
  split at hz
  · cases hz
  · omega

theorem take_sp (bi : Nat) (l : List Int) (e : Int) (size : Nat) (most : Int) (hb : Bytes l) (h0 : 0 < size) (h8 : size ≤ 8) (hm : 0 ≤ most ∧ most < 9223372036854775808) (h : View) (w : World) (s : St ⟨w, h, doms [rinR bi l e]⟩ h [rinR bi l e] w) :
    Calls Try.prog 62 [.pointer (some ⟨bi, 0, none⟩), .int .i64 size, .int .i64 most].toArray w fun en w' => ∃ x : Unit, en = .returned (.int .i64 (numC (l, e) size most).1) ∧ St ⟨w, h, doms [rinR bi l e]⟩ h [rinR bi (numC (l, e) size most).2.1 (numC (l, e) size most).2.2] w' ∧ True := by
  refine calls_enter Try.func62 rfl Try.ntmps62 rfl s ?_
  unfold numC
  dsimp only
  by_cases he : e = 0
  · subst he
    rw [if_neg (by simp)]
    repeat' (first | (refine ycf ?_; apply ybk; (· first | (first | (apply qv_nilCheck; rfl))); (· rfl); (· rfl)) | refine t1_ ?_ | (refine ta_ ?_; intro _) | ((fail_if_success (refine ybi rfl ?_)); refine ybj rfl ?_ ?_ <;> (intro ht; rw [ht]; first | replace ht := of_decide_eq_true ht | replace ht := of_decide_eq_false ht | skip)) | (refine ych ?_; first | (refine ybw rfl ?_ ?_ <;> intro ht) | (refine ybx rfl ?_ ?_ <;> intro ht)))
    (refine rx_call_m (ycp Try.func76 rfl (by kernel_rfl) rfl) (perm_at (k := 0) rfl) (rnumber_sp bi l size most hb h0 h8 hm h) rfl rfl rfl ?_ ?_ ?_; (· (exact to_)); (· intro _ _ hle; (exact to_)); intro x px hle)
    by_cases hz : (lookC l size most).2 = 0
    · have hsl := lookC_len hz
      rw [if_pos hz, hz]
      repeat' (first | (refine ycf ?_; apply ybk; (· first | (first | (apply qv_nilCheck; rfl) | (refine qv_str_from rfl rfl hsl))); (· rfl); (· rfl)) | refine t1_ ?_ | (refine ta_ ?_; intro _) | ((fail_if_success (refine ybi rfl ?_)); refine ybj rfl ?_ ?_ <;> (intro ht; rw [ht]; first | replace ht := of_decide_eq_true ht | replace ht := of_decide_eq_false ht | skip)) | (refine ych ?_; first | (refine ybw rfl ?_ ?_ <;> intro ht) | (refine ybx rfl ?_ ?_ <;> intro ht)))
      all_goals try omega
      exact nx_ret1 rfl (rv_tmp rfl) (fun w' s' => ⟨(), rfl, s', trivial⟩)
    · rw [if_neg hz, lookC_bad hz]
      generalize (lookC l size most).2 = E at hz ⊢
      repeat' (first | (refine ycf ?_; apply ybk; (· first | (first | (apply qv_nilCheck; rfl) | (refine qv_str_from rfl rfl hsl))); (· rfl); (· rfl)) | refine t1_ ?_ | (refine ta_ ?_; intro _) | ((fail_if_success (refine ybi rfl ?_)); refine ybj rfl ?_ ?_ <;> (intro ht; rw [ht]; first | replace ht := of_decide_eq_true ht | replace ht := of_decide_eq_false ht | skip)) | (refine ych ?_; first | (refine ybw rfl ?_ ?_ <;> intro ht) | (refine ybx rfl ?_ ?_ <;> intro ht)))
      · omega
      exact nx_ret1 rfl (rv_tmp rfl) (fun w' s' => ⟨(), rfl, s', trivial⟩)
  · rw [if_pos he]
    repeat' (first | (refine ycf ?_; apply ybk; (· first | (first | (apply qv_nilCheck; rfl) | (refine qv_str_from rfl rfl hsl))); (· rfl); (· rfl)) | refine t1_ ?_ | (refine ta_ ?_; intro _) | ((fail_if_success (refine ybi rfl ?_)); refine ybj rfl ?_ ?_ <;> (intro ht; rw [ht]; first | replace ht := of_decide_eq_true ht | replace ht := of_decide_eq_false ht | skip)) | (refine ych ?_; first | (refine ybw rfl ?_ ?_ <;> intro ht) | (refine ybx rfl ?_ ?_ <;> intro ht)))
    all_goals try omega
    exact nx_ret1 rfl (rv_tmp rfl) (fun w' s' => ⟨(), rfl, s', trivial⟩)

theorem rNum_sp (bi : Nat) (l : List Int) (e : Int) (most : Int) (hb : Bytes l) (hm : 0 ≤ most ∧ most < 9223372036854775808) (h : View) (w : World) (s : St ⟨w, h, doms [rinR bi l e]⟩ h [rinR bi l e] w) :
    Calls Try.prog 46 [.pointer (some ⟨bi, 0, none⟩), .int .i64 most].toArray w fun en w' => ∃ x : Unit, en = .returned (.int .i64 (numC (l, e) 8 most).1) ∧ St ⟨w, h, doms [rinR bi l e]⟩ h [rinR bi (numC (l, e) 8 most).2.1 (numC (l, e) 8 most).2.2] w' ∧ True := by
  refine calls_enter Try.func46 rfl Try.ntmps46 rfl s ?_
  repeat' (first | (refine ycf ?_; apply ybk; (· first | (first | (apply qv_nilCheck; rfl) | (refine qv_str_from rfl rfl hsl))); (· rfl); (· rfl)) | refine t1_ ?_ | (refine ta_ ?_; intro _) | ((fail_if_success (refine ybi rfl ?_)); refine ybj rfl ?_ ?_ <;> (intro ht; rw [ht]; first | replace ht := of_decide_eq_true ht | replace ht := of_decide_eq_false ht | skip)) | (refine ych ?_; first | (refine ybw rfl ?_ ?_ <;> intro ht) | (refine ybx rfl ?_ ?_ <;> intro ht)))
  (refine rx_call_m (ycp Try.func62 rfl (by kernel_rfl) rfl) (perm_at (k := 0) rfl) (take_sp bi l e 8 most hb (by omega) (by omega) hm h) rfl rfl rfl ?_ ?_ ?_; (· (exact to_)); (· intro _ _ hle; (exact to_)); intro x px hle)
  repeat' (first | (refine ycf ?_; apply ybk; (· first | (first | (apply qv_nilCheck; rfl) | (refine qv_str_from rfl rfl hsl))); (· rfl); (· rfl)) | refine t1_ ?_ | (refine ta_ ?_; intro _) | ((fail_if_success (refine ybi rfl ?_)); refine ybj rfl ?_ ?_ <;> (intro ht; rw [ht]; first | replace ht := of_decide_eq_true ht | replace ht := of_decide_eq_false ht | skip)) | (refine ych ?_; first | (refine ybw rfl ?_ ?_ <;> intro ht) | (refine ybx rfl ?_ ?_ <;> intro ht)))
  exact nx_ret1 rfl (rv_tmp rfl) (fun w' s' => ⟨(), rfl, s', trivial⟩)

theorem rSmall_sp (bi : Nat) (l : List Int) (e : Int) (most : Int) (hb : Bytes l) (hm : 0 ≤ most ∧ most < 9223372036854775808) (h : View) (w : World) (s : St ⟨w, h, doms [rinR bi l e]⟩ h [rinR bi l e] w) :
    Calls Try.prog 47 [.pointer (some ⟨bi, 0, none⟩), .int .i64 most].toArray w fun en w' => ∃ x : Unit, en = .returned (.int .i64 (numC (l, e) 1 most).1) ∧ St ⟨w, h, doms [rinR bi l e]⟩ h [rinR bi (numC (l, e) 1 most).2.1 (numC (l, e) 1 most).2.2] w' ∧ True := by
  refine calls_enter Try.func47 rfl Try.ntmps47 rfl s ?_
  repeat' (first | (refine ycf ?_; apply ybk; (· first | (first | (apply qv_nilCheck; rfl) | (refine qv_str_from rfl rfl hsl))); (· rfl); (· rfl)) | refine t1_ ?_ | (refine ta_ ?_; intro _) | ((fail_if_success (refine ybi rfl ?_)); refine ybj rfl ?_ ?_ <;> (intro ht; rw [ht]; first | replace ht := of_decide_eq_true ht | replace ht := of_decide_eq_false ht | skip)) | (refine ych ?_; first | (refine ybw rfl ?_ ?_ <;> intro ht) | (refine ybx rfl ?_ ?_ <;> intro ht)))
  (refine rx_call_m (ycp Try.func62 rfl (by kernel_rfl) rfl) (perm_at (k := 0) rfl) (take_sp bi l e 1 most hb (by omega) (by omega) hm h) rfl rfl rfl ?_ ?_ ?_; (· (exact to_)); (· intro _ _ hle; (exact to_)); intro x px hle)
  repeat' (first | (refine ycf ?_; apply ybk; (· first | (first | (apply qv_nilCheck; rfl) | (refine qv_str_from rfl rfl hsl))); (· rfl); (· rfl)) | refine t1_ ?_ | (refine ta_ ?_; intro _) | ((fail_if_success (refine ybi rfl ?_)); refine ybj rfl ?_ ?_ <;> (intro ht; rw [ht]; first | replace ht := of_decide_eq_true ht | replace ht := of_decide_eq_false ht | skip)) | (refine ych ?_; first | (refine ybw rfl ?_ ?_ <;> intro ht) | (refine ybx rfl ?_ ?_ <;> intro ht)))
  exact nx_ret1 rfl (rv_tmp rfl) (fun w' s' => ⟨(), rfl, s', trivial⟩)

theorem bstr_nil {l : List Int} : ((bstr l).toList == (⟨#[]⟩ : ByteArray).toList) = decide (l.length = 0) := by
  rw [ByteArray.toList_eq, ByteArray.toList_eq]
  cases l with
  | nil => rfl
  | cons x l => simp [bstr]

theorem rEnd_sp (bi : Nat) (l : List Int) (e : Int) (h : View) (w : World) (s : St ⟨w, h, doms [rinR bi l e]⟩ h [rinR bi l e] w) :
    Calls Try.prog 48 [.pointer (some ⟨bi, 0, none⟩)].toArray w fun en w' => ∃ x : Unit, en = .returned (.int .i64 (endC (l, e))) ∧ St ⟨w, h, doms [rinR bi l e]⟩ h [rinR bi l e] w' ∧ True := by
  refine calls_enter Try.func48 rfl Try.ntmps48 rfl s ?_
  unfold endC
  dsimp only
  by_cases hl : l.length = 0
  · have hn : (!((bstr l).toList == (⟨#[]⟩ : ByteArray).toList)) = false := by rw [bstr_nil, decide_eq_true hl]; rfl
    rw [if_neg (by omega)]
    repeat' (first | (refine ycf ?_; apply ybk; (· first | (first | (apply qv_nilCheck; rfl) | (refine qv_neq_str rfl rfl hn))); (· rfl); (· rfl)) | refine t1_ ?_ | (refine ta_ ?_; intro _) | ((fail_if_success (refine ybi rfl ?_)); refine ybj rfl ?_ ?_ <;> (intro ht; rw [ht]; first | replace ht := of_decide_eq_true ht | replace ht := of_decide_eq_false ht | skip)) | (refine ych ?_; first | (refine ybw rfl ?_ ?_ <;> intro ht) | (refine ybx rfl ?_ ?_ <;> intro ht)))
    all_goals exact nx_ret1 rfl (rv_tmp rfl) (fun w' s' => ⟨(), rfl, s', trivial⟩)
  · have hn : (!((bstr l).toList == (⟨#[]⟩ : ByteArray).toList)) = true := by rw [bstr_nil, decide_eq_false hl]; rfl
    repeat' (first | (refine ycf ?_; apply ybk; (· first | (first | (apply qv_nilCheck; rfl) | (refine qv_neq_str rfl rfl hn))); (· rfl); (· rfl)) | refine t1_ ?_ | (refine ta_ ?_; intro _) | ((fail_if_success (refine ybi rfl ?_)); refine ybj rfl ?_ ?_ <;> (intro ht; rw [ht]; first | replace ht := of_decide_eq_true ht | replace ht := of_decide_eq_false ht | skip)) | (refine ych ?_; first | (refine ybw rfl ?_ ?_ <;> intro ht) | (refine ybx rfl ?_ ?_ <;> intro ht)))
    · rw [if_pos (by omega)]
      exact nx_ret1 rfl (rv_tmp rfl) (fun w' s' => ⟨(), rfl, s', trivial⟩)
    · rw [if_neg (by omega)]
      exact nx_ret1 rfl (rv_tmp rfl) (fun w' s' => ⟨(), rfl, s', trivial⟩)
end Go.Proofs.Ytbpahaciegfpfaa
