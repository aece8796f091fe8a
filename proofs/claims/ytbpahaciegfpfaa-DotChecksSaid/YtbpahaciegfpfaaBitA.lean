/-
  BitA: rows of bytes; bits.PutLow, slices.Reverse of bytes, bits.PutHigh, bits.Byte, bits.Int.
  Conditions: each theorem states its own.
-/
import Derived.Test.YtbpahaciegfpfaaCkRow
import Derived.Test.YtbpahaciegfpfaaCkConv
import Derived.Test.YtbpahaciegfpfaaCkBool
import Derived.Test.YtbpahaciegfpfaaCkTy
import Derived.Test.YtbpahaciegfpfaaCkTac
import Derived.Test.YtbpahaciegfpfaaCkTb
namespace Go.Proofs.Ytbpahaciegfpfaa
open Go Go.Ck
set_option maxRecDepth 100000
set_option maxHeartbeats 1000000
set_option linter.unusedVariables false

def bcs (l : List Int) : List Value := l.map (Value.int .u8)
abbrev Bs8 (h : View) (v : Value) (l : List Int) : Prop := Sc h 1 v l.length (bcs l)
abbrev rowB (v : Value) (l : List Int) : Res := Res.row 5 1 v l.length (bcs l)
theorem bcs_len (l : List Int) : (bcs l).length = l.length := by simp [bcs]
theorem bcs_one (l : List Int) : ∀ u ∈ bcs l, u.oneCell' = true := fun u hu => by
  obtain ⟨x, _, rfl⟩ := List.mem_map.1 hu
  rfl
theorem bcs_app (l m : List Int) : bcs (l ++ m) = bcs l ++ bcs m := by simp [bcs]

theorem qv_shr {P : Program} {n : Nat} {F : List (Nat × Value)} {h : View} {L : List Res} {dst : Option Nat} {ty : Nat} {pos : String} {af : Array Edge} {gd : Option (Nat × Bool)} {T T' : Nat} {x y : Operand} {k k' : IntKind} {i r : Int} {j : Nat} (hx : ev F x = some (.int k i)) (hy : ev F y = some (.int k' j)) (hr : i.fdiv (2 ^ j) = r) (hj : j < k.bits) :
    QV P n F h L ⟨dst, .binOp .shr T x y T', ty, pos, af, gd⟩ (.int k r) := by
  subst hr
  refine .mk fun a w f s => ?_
  have h0 : ¬ ((j : Int) < 0) := by omega
  have h1 : min j k.bits = j := by omega
  have hg : (eqGuard .shr T x y (.int k i) (.int k' j)).run P w = .ok () w := by simp [eqGuard]
  simp [execOp, f.ev hx, f.ev hy, hg, binOp, Op.shift, h0, h1]

theorem qv_minb {P : Program} {n : Nat} {F : List (Nat × Value)} {h : View} {L : List Res} {dst : Option Nat} {ty : Nat} {pos : String} {af : Array Edge} {gd : Option (Nat × Bool)} {ts : Array TypeId} {x y : Operand} {k : IntKind} {i j r : Int} (hx : ev F x = some (.int k i)) (hy : ev F y = some (.int k j)) (hr : (if j < i then j else i) = r) :
    QV P n F h L ⟨dst, .call ⟨.builtin .min, #[x, y], ts⟩, ty, pos, af, gd⟩ (.int k r) := by
  subst hr
  exact .mk fun a w f s => by simp [execOp, resolve, invoke, builtin, Builtin.min_, f.ev hx, f.ev hy, Builtin.min2]

/-- the low bytes of a word, the lowest first -/
def putLow : Nat → Int → List Int
  | 0, _ => []
  | k + 1, x => (x % 256) :: putLow k (x / 256)
theorem putLow_len : ∀ (k : Nat) (x : Int), (putLow k x).length = k
  | 0, _ => rfl
  | k + 1, x => by simp [putLow, putLow_len k]
theorem putLow_succ : ∀ (k : Nat) (x : Int), putLow (k + 1) x = putLow k x ++ [x / 256 ^ k % 256]
  | 0, x => by simp [putLow]
  | k + 1, x => by
    have := putLow_succ k (x / 256)
    rw [putLow, this, putLow]
    simp only [List.cons_append, List.cons.injEq, true_and, List.append_cancel_left_eq, List.cons.injEq, and_true]
    congr 1
    rw [Int.ediv_ediv_of_nonneg (by decide), Int.pow_succ, Int.mul_comm]

theorem divp_bd {x : Int} {k : Nat} (hx : 0 ≤ x ∧ x < 18446744073709551616) : 0 ≤ x / 256 ^ k ∧ x / 256 ^ k < 18446744073709551616 := by
  have hp : (0 : Int) < 256 ^ k := Int.pow_pos (by decide)
  refine ⟨Int.ediv_nonneg hx.1 (by omega), ?_⟩
  have := Int.ediv_le_self (256 ^ k) hx.1
  omega
theorem divp_succ (x : Int) (k : Nat) : (x / 256 ^ k).fdiv (2 ^ 8) = x / 256 ^ (k + 1) := by
  have e : (2 : Int) ^ 8 = 256 := by decide
  rw [e, Int.fdiv_eq_ediv_of_nonneg _ (by decide), Int.ediv_ediv_of_nonneg (Int.le_of_lt (Int.pow_pos (by decide))), Int.pow_succ]
theorem wrap_u8 (x : Int) : IntKind.u8.wrap x = x % 256 := by
  simp [IntKind.wrap, IntKind.bits, IntKind.signed]

theorem PutLow_sp (x : Int) (m : Nat) (hx : 0 ≤ x ∧ x < 18446744073709551616) (hm : m ≤ 64) (h : View) (w : World) (s : St ⟨w, h, []⟩ h [] w) :
    Calls Try.prog 84 [.int .u64 x, .int .i64 m].toArray w fun e w' => ∃ v, e = .returned v ∧ St ⟨w, h, []⟩ h [rowB v (putLow m x)] w' ∧ True := by
  refine calls_enter Try.func84 rfl Try.ntmps84 rfl s ?_
  have hj : (if (64 : Int) < (m : Int) then (64 : Int) else (m : Int)) = (m : Int) := by split <;> omega
  repeat' (first | (refine ycf ?_; apply ybk; (· first | (refine qv_minb rfl rfl hj)); (· rfl); (· rfl)) | refine t1_ ?_ | (refine ta_ ?_; intro _) | ((fail_if_success (refine ybi rfl ?_)); refine ybj rfl ?_ ?_ <;> (intro ht; rw [ht]; first | replace ht := of_decide_eq_true ht | replace ht := of_decide_eq_false ht | skip)) | (refine ych ?_; first | (refine ybw rfl ?_ ?_ <;> intro ht) | (refine ybx rfl ?_ ?_ <;> intro ht)))
  refine cx_row 5 1 ?_
  refine cx_loop (X := Nat × Value) (fun y => [(0, .int .u64 (x / 256 ^ y.1)), (5, y.2), (7, .int .i64 m), (8, .int .i64 y.1)]) (fun _ => h) (fun y => [Res.row 5 1 y.2 y.1 (bcs (putLow y.1 x))]) (fun y => y.1 ≤ m) (fun y => m - y.1) (0, .slice none 0 0) (Nat.zero_le _) ?_ (fun _ s => s) ?_
  · refine Sub.cons rfl ?_ ts_
    simp
  rintro ⟨k, v⟩ hk
  replace hk : k ≤ m := hk
  dsimp only
  by_cases hkm : k < m
  · have hb := divp_bd (k := k) hx
    have hs := divp_succ x k
    have hw := wrap_u8 (x / 256 ^ k)
    repeat' (first | (refine ycf ?_; apply ybk; (· first | (first | (refine qv_convert_int' rfl hw) | (refine qv_shr (j := 8) rfl rfl hs (by decide)))); (· rfl); (· rfl)) | refine t1_ ?_ | (refine ta_ ?_; intro _) | ((fail_if_success (refine ybi rfl ?_)); refine ybj rfl ?_ ?_ <;> (intro ht; rw [ht]; first | replace ht := of_decide_eq_true ht | replace ht := of_decide_eq_false ht | skip)) | (refine ych ?_; first | (refine ybw rfl ?_ ?_ <;> intro ht) | (refine ybx rfl ?_ ?_ <;> intro ht)))
    · refine rx_append (sz := 1) 1 rfl rfl rfl (yaz 0 rfl) rfl (bcs_one [x / 256 ^ k % 256]) rfl (by omega) (by unfold maxLen; omega) (by omega) rfl rfl rfl ybf (fun _ => ybf) ?_
      intro v2 _
      repeat' (first | (refine ycf ?_; apply ybk; (· first | (first | (refine qv_convert_int' rfl hw) | (refine qv_shr (j := 8) rfl rfl hs (by decide)))); (· rfl); (· rfl)) | refine t1_ ?_ | (refine ta_ ?_; intro _) | ((fail_if_success (refine ybi rfl ?_)); refine ybj rfl ?_ ?_ <;> (intro ht; rw [ht]; first | replace ht := of_decide_eq_true ht | replace ht := of_decide_eq_false ht | skip)) | (refine ych ?_; first | (refine ybw rfl ?_ ?_ <;> intro ht) | (refine ybx rfl ?_ ?_ <;> intro ht)))
      refine nx_round (k + 1, v2) (by show k + 1 ≤ m; omega) (by show m - (k + 1) < m - k; omega) ts_ (fun _ s => ?_)
      dsimp only
      rw [putLow_succ, bcs_app]
      exact s.tl
    · omega
  · have ek : k = m := by omega
    subst ek
    repeat' (first | (refine ycf ?_; apply ybk; (· first | (first | (refine qv_convert_int' rfl hw) | (refine qv_shr (j := 8) rfl rfl hs (by decide)))); (· rfl); (· rfl)) | refine t1_ ?_ | (refine ta_ ?_; intro _) | ((fail_if_success (refine ybi rfl ?_)); refine ybj rfl ?_ ?_ <;> (intro ht; rw [ht]; first | replace ht := of_decide_eq_true ht | replace ht := of_decide_eq_false ht | skip)) | (refine ych ?_; first | (refine ybw rfl ?_ ?_ <;> intro ht) | (refine ybx rfl ?_ ?_ <;> intro ht)))
    · omega
    refine nx_ret1 rfl (rv_tmp rfl) (fun w' s' => ⟨_, rfl, ?_, trivial⟩)
    unfold rowB
    rw [putLow_len]
    exact s'

theorem Byte_sp (n : Int) (h : View) (w : World) (s : St ⟨w, h, []⟩ h [] w) :
    Calls Try.prog 64 [.int .i64 n].toArray w fun e w' => ∃ b, e = .returned (.tuple #[.int .u8 b, .bool (decide (0 ≤ n ∧ n ≤ 255))]) ∧ St ⟨w, h, []⟩ h [] w' ∧ ((0 ≤ n ∧ n ≤ 255) → b = n) := by
  refine calls_enter Try.func64 rfl Try.ntmps64 rfl s ?_
  have hw := wrap_u8 n
  have hw2 : IntKind.i64.wrap (n % 256) = n % 256 := by
    rw [IntKind.wrap_i64]; omega
  repeat' (first | (refine ycf ?_; apply ybk; (· first | (first | (refine qv_convert_int' rfl hw) | (refine qv_convert_int' rfl hw2))); (· rfl); (· rfl)) | refine t1_ ?_ | (refine ta_ ?_; intro _) | ((fail_if_success (refine ybi rfl ?_)); refine ybj rfl ?_ ?_ <;> (intro ht; rw [ht]; first | replace ht := of_decide_eq_true ht | replace ht := of_decide_eq_false ht | skip)) | (refine ych ?_; first | (refine ybw rfl ?_ ?_ <;> intro ht) | (refine ybx rfl ?_ ?_ <;> intro ht)))
  · have hq := ht
    refine nx_ret2 rfl (rv_tmp rfl) (rv_tmp rfl) (fun w' s' => ⟨n % 256, ?_, s'.nil, fun _ => by omega⟩)
    rw [decide_eq_true (by omega)]
  · have hq := ht
    refine nx_ret2 rfl (rv_tmp rfl) (rv_tmp rfl) (fun w' s' => ⟨0, ?_, s'.nil, fun _ => by omega⟩)
    rw [decide_eq_false (by omega)]

theorem Int_sp (x : Int) (hx : 0 ≤ x ∧ x < 18446744073709551616) (h : View) (w : World) (s : St ⟨w, h, []⟩ h [] w) :
    Calls Try.prog 82 [.int .u64 x].toArray w fun e w' => e = .returned (.tuple #[.int .i64 (if x < 9223372036854775808 then x else 0), .bool (decide (x < 9223372036854775808))]) ∧ St ⟨w, h, []⟩ h [] w' := by
  refine calls_enter Try.func82 rfl Try.ntmps82 rfl s ?_
  obtain ⟨r, hw⟩ : ∃ r, IntKind.i64.wrap x = r := ⟨_, rfl⟩
  have hr : (x < 9223372036854775808 → r = x) ∧ (¬ x < 9223372036854775808 → r < 0) := by
    rw [← hw, IntKind.wrap_i64]
    constructor <;> intro _ <;> omega
  repeat' (first | (refine ycf ?_; apply ybk; (· first | (refine qv_convert_int' rfl hw)); (· rfl); (· rfl)) | refine t1_ ?_ | (refine ta_ ?_; intro _) | ((fail_if_success (refine ybi rfl ?_)); refine ybj rfl ?_ ?_ <;> (intro ht; rw [ht]; first | replace ht := of_decide_eq_true ht | replace ht := of_decide_eq_false ht | skip)) | (refine ych ?_; first | (refine ybw rfl ?_ ?_ <;> intro ht) | (refine ybx rfl ?_ ?_ <;> intro ht)))
  · have hq := ht
    have hx2 : x < 9223372036854775808 := Decidable.byContradiction fun hn => by have := hr.2 hn; omega
    refine nx_ret2 rfl (rv_tmp rfl) (rv_tmp rfl) (fun w' s' => ⟨?_, s'.nil⟩)
    rw [decide_eq_true hx2, if_pos hx2, hr.1 hx2]
  · have hq := ht
    have hx2 : ¬ x < 9223372036854775808 := fun hn => by have := hr.1 hn; omega
    refine nx_ret2 rfl (rv_tmp rfl) (rv_tmp rfl) (fun w' s' => ⟨?_, s'.nil⟩)
    rw [decide_eq_false hx2, if_neg hx2]

/-- the first i and the last i bytes have changed their places -/
def rvK (l : List Int) (i : Nat) : List Int := (List.range l.length).map fun t => if t < i ∨ l.length - i ≤ t then l.getD (l.length - 1 - t) 0 else l.getD t 0
theorem rvK_len (l : List Int) (i : Nat) : (rvK l i).length = l.length := by simp [rvK]
theorem rvK_at {l : List Int} {i t : Nat} (ht : t < l.length) : (rvK l i)[t]'(by rw [rvK_len]; exact ht) = if t < i ∨ l.length - i ≤ t then l.getD (l.length - 1 - t) 0 else l.getD t 0 := by
  simp [rvK]
theorem rvK_zero (l : List Int) : rvK l 0 = l := by
  refine List.ext_getElem (rvK_len l 0) fun t h1 h2 => ?_
  rw [rvK_at h2, if_neg (by omega)]
  simp [h2]
theorem rvK_end {l : List Int} {i : Nat} (hi : l.length ≤ 2 * i + 1) : rvK l i = l.reverse := by
  refine List.ext_getElem (by rw [rvK_len]; simp) fun t h1 h2 => ?_
  have ht : t < l.length := by simpa using h2
  rw [rvK_at ht, List.getElem_reverse]
  have e : l.getD (l.length - 1 - t) 0 = l[l.length - 1 - t]'(by omega) := by simp [show l.length - 1 - t < l.length by omega]
  split
  · exact e
  · rename_i hn
    have : l.length - 1 - t = t := by omega
    rw [← e, this]
theorem rvK_step {l : List Int} {i : Nat} (hi : 2 * i + 1 < l.length) : ((rvK l i).set i (l.getD (l.length - 1 - i) 0)).set (l.length - 1 - i) (l.getD i 0) = rvK l (i + 1) := by
  refine List.ext_getElem (by simp [rvK_len]) fun t h1 h2 => ?_
  have ht : t < l.length := by rw [rvK_len] at h2; exact h2
  rw [List.getElem_set, rvK_at ht]
  by_cases c1 : l.length - 1 - i = t
  · rw [if_pos c1, if_pos (by omega)]
    congr 1; omega
  · rw [if_neg c1, List.getElem_set]
    by_cases c2 : i = t
    · rw [if_pos c2, if_pos (by omega), c2]
    · rw [if_neg c2, rvK_at ht]
      by_cases c3 : t < i ∨ l.length - i ≤ t
      · rw [if_pos c3, if_pos (by omega)]
      · rw [if_neg c3, if_neg (by omega)]
theorem spl_byte {l : List Int} {o : Nat} {x : Int} (ho : o < l.length) : spl (bcs l) o (Value.int .u8 x).cells.toList = bcs (l.set o x) := by
  show (bcs l).take o ++ [Value.int .u8 x] ++ (bcs l).drop (o + 1) = bcs (l.set o x)
  unfold bcs
  rw [List.map_set, List.set_eq_take_append_cons_drop, if_pos (by simpa using ho)]
  simp
end Go.Proofs.Ytbpahaciegfpfaa
