/-
  Part 3 of a proof: BitC CkFork DotSo CkRange DotA.
  Conditions: each theorem states its own.
-/
import Derived.Laws.Pointers
import Derived.Shelf.SlSortCmp.WholeK
import Derived.Shelf.SlGeneric
import Derived.Ground.SlsfProg
import Derived.Test.YtkkjppeaaicgaaaGreatDoorChecked
import Derived.RangeFuncGives
import Derived.RangeFuncLeaves
import Derived.RangeFuncSeq
import Derived.TacticsIn
import Derived.Test.YtkkjppeaaicgaaaGreatDoorSrGPM2
section
namespace Go.Proofs.YtkkjppeaaicgaaaGreatDoor
open Go Go.Ck
set_option maxRecDepth 100000
set_option maxHeartbeats 1000000
set_option linter.unusedVariables false
theorem PutHigh_sp (x : Int) (m : Nat) (hx : 0 ≤ x ∧ x < 18446744073709551616) (h0 : 0 < m) (hm : m ≤ 64) (h : View) (w : World) (s : St ⟨w, h, []⟩ h [] w) :
    Calls Tryz.prog 59 [.int .u64 x, .int .i64 m].toArray w fun e w' => ∃ v, e = .returned v ∧ St ⟨w, h, []⟩ h [rowB v (putLow m x).reverse] w' ∧ True := by
  have hlen := putLow_len m x
  refine calls_enter Tryz.func59 rfl Tryz.ntmps59 rfl s ?_
  repeat' (first|refine tw_ ?_|(refine ta_ ?_;intro _)|((fail_if_success (refine ybi rfl ?_));refine ybj rfl ?_ ?_<;>(intro ht;rw [ht];first|replace ht := oet_ ht|replace ht := oef_ ht|skip))|(refine ych ?_;first|(refine ybw rfl ?_ ?_<;>intro ht)|(refine ybx rfl ?_ ?_<;>intro ht)))
  (refine yco (ycp Tryz.func82 rfl (by kernel_rfl) rfl) (PutLow_sp x m hx hm h) rfl rfl rfl ?_ ?_ ?_; (· (exact to_)); (· intro _ _ hle; (exact to_)); intro x px hle)
  refine rx_rowform 0 rfl (fun _ h1 _ => (by omega)) ?_
  rintro g cap rfl
  repeat' (first|refine tw_ ?_|(refine ta_ ?_;intro _)|((fail_if_success (refine ybi rfl ?_));refine ybj rfl ?_ ?_<;>(intro ht;rw [ht];first|replace ht := oet_ ht|replace ht := oef_ ht|skip))|(refine ych ?_;first|(refine ybw rfl ?_ ?_<;>intro ht)|(refine ybx rfl ?_ ?_<;>intro ht)))
  (refine rx_call_m (ycp Tryz.func83 rfl (by kernel_rfl) rfl) (perm_at (k := 0) rfl) (Reverse_sp g cap (putLow m x) (by omega) h) rfl rfl rfl ?_ ?_ ?_; (· (exact to_)); (· intro _ _ hle; (exact to_)); intro x px hle)
  repeat' (first|refine tw_ ?_|(refine ta_ ?_;intro _)|((fail_if_success (refine ybi rfl ?_));refine ybj rfl ?_ ?_<;>(intro ht;rw [ht];first|replace ht := oet_ ht|replace ht := oef_ ht|skip))|(refine ych ?_;first|(refine ybw rfl ?_ ?_<;>intro ht)|(refine ybx rfl ?_ ?_<;>intro ht)))
  exact nx_ret1 rfl (rv_tmp rfl) (fun w' s' => ⟨_, rfl, s', trivial⟩)
theorem qv_eql_pnil {P : Program} {n : Nat} {F : List (Nat × Value)} {h : View} {L : List Res} {dst : Option Nat} {ty : Nat} {pos : String} {af : Array Edge} {gd : Option (Nat × Bool)} {T T' e : Nat} {x y : Operand} {ad : Addr} [tu : TyU P T (.pointer e)] (hx : ev F x = some (.pointer (some ad))) (hy : ev F y = some (.pointer none)) :
    QV P n F h L ⟨dst, .binOp .eql T x y T', ty, pos, af, gd⟩ (.bool false) := by
  refine .mk fun a w f s => ?_
  have hp : P.underlying T = some (.pointer (P.pointee T)) := by
    have := tu.u
    simp [Program.pointee, this]
  have hg : (eqGuard .eql T x y (.pointer (some ad)) (.pointer none)).run P w = .ok () w := by simp [eqGuard]
  have he := run_equal_pointer_nil (P := P) (w := w) T (some ad) hp
  simp only [execOp, f.ev hx, f.ev hy, Sem.run_bind, hg, Result.andThen_ok, binOp, he]
  rfl
abbrev outR (bo : Nat) (v : Value) (bad : Bool) : Res := Res.blk bo (.cells #[v, .bool bad] 63 (0, 0))
theorem wrap_u64 {n : Int} (h0 : 0 ≤ n) (h1 : n < 18446744073709551616) : IntKind.u64.wrap n = n := by
  simp [IntKind.wrap, IntKind.bits, IntKind.signed]; omega
theorem put_sp (bo : Nat) (v : Value) (l : List Int) (bad : Bool) (n : Int) (size : Nat) (ok : Bool) (hn : ok = true → 0 ≤ n) (hn2 : n < 9223372036854775808) (h0 : 0 < size) (hsz : size ≤ 64) (hl : l.length ≤ 1000000) (h : View) (w : World) (s : St ⟨w, h, doms [outR bo v bad, rowB v l]⟩ h [outR bo v bad, rowB v l] w) :
    Calls Tryz.prog 54 [.pointer (some ⟨bo, 0, none⟩), .int .i64 n, .int .i64 size, .bool ok].toArray w fun e w' => ∃ x : Value, e = .returned (.pointer (some ⟨bo, 0, none⟩)) ∧
      St ⟨w, h, doms [outR bo v bad, rowB v l]⟩ h [outR bo x (bad || !ok), rowB x (if ok then l ++ (putLow size n).reverse else l)] w' ∧ True := by
  refine calls_enter Tryz.func54 rfl Tryz.ntmps54 rfl s ?_
  cases ok with
  | false =>
    repeat' (first|(refine ycf ?_;apply ybk;(·first|(first|(apply qv_eql_pnil<;>rfl)|(apply qv_nilCheck;rfl)));(·rfl);(·rfl))|refine t1_ ?_|(refine ta_ ?_;intro _)|((fail_if_success (refine ybi rfl ?_));refine ybj rfl ?_ ?_<;>(intro ht;rw [ht];first|replace ht := oet_ ht|replace ht := oef_ ht|skip))|(refine ych ?_;first|(refine ybw rfl ?_ ?_<;>intro ht)|(refine ybx rfl ?_ ?_<;>intro ht)))
    refine nx_ret1 rfl (rv_tmp rfl) (fun w' s' => ⟨v, rfl, ?_, trivial⟩)
    rw [Bool.not_false, Bool.or_true]
    exact s'
  | true =>
    have hw := wrap_u64 (hn rfl) (by omega)
    have hlen := putLow_len size n
    repeat' (first|(refine ycf ?_;apply ybk;(·first|(first|(apply qv_eql_pnil<;>rfl)|(apply qv_nilCheck;rfl)|(refine qv_convert_int' rfl hw)));(·rfl);(·rfl))|refine t1_ ?_|(refine ta_ ?_;intro _)|((fail_if_success (refine ybi rfl ?_));refine ybj rfl ?_ ?_<;>(intro ht;rw [ht];first|replace ht := oet_ ht|replace ht := oef_ ht|skip))|(refine ych ?_;first|(refine ybw rfl ?_ ?_<;>intro ht)|(refine ybx rfl ?_ ?_<;>intro ht)))
    refine cx_region_draw [outR bo v bad] rfl (by kernel_rfl) ?_
    repeat' (refine ycf ?_;(first|(first|(apply ybm;(·(first|(first|(apply qv_eql_pnil<;>rfl)|(apply qv_nilCheck;rfl)|(refine qv_convert_int' rfl hw))|exact tq_));(·rfl);(·rfl);(·(first|exact fun _ s => Hd.sub s (Le.refl h) (fun r hr => List.mem_append_left [_] hr)|exact fun _ s => Hd.sub s (Le.refl h) (fun r hr => List.mem_cons_of_mem _ (List.mem_append_left [_] hr)))))|refine ybl rfl rfl ?_|((fail_if_success (refine ybi rfl ?_));refine ybj rfl ?_ ?_<;>(intro ht;rw [ht];first|replace ht := oet_ ht|replace ht := oef_ ht|skip))|(refine tb_ ?_ ?_ ?_;(·(first|exact ybf|(refine .inl ?_;(first|exact fun _ s => Hd.sub s (Le.refl h) (fun r hr => List.mem_append_left [_] hr)|exact fun _ s => Hd.sub s (Le.refl h) (fun r hr => List.mem_cons_of_mem _ (List.mem_append_left [_] hr))))|exact to_));(·intro _;(first|exact ybf|(refine .inl ?_;(first|exact fun _ s => Hd.sub s (Le.refl h) (fun r hr => List.mem_append_left [_] hr)|exact fun _ s => Hd.sub s (Le.refl h) (fun r hr => List.mem_cons_of_mem _ (List.mem_append_left [_] hr))))|exact to_));intro _)|(first|(refine tqs_ ?_ ?_ ?_;(·(first|exact ybf|(refine .inl ?_;(first|exact fun _ s => Hd.sub s (Le.refl h) (fun r hr => List.mem_append_left [_] hr)|exact fun _ s => Hd.sub s (Le.refl h) (fun r hr => List.mem_cons_of_mem _ (List.mem_append_left [_] hr))))|exact to_));(·(first|exact ybf|(refine .inl ?_;(first|exact fun _ s => Hd.sub s (Le.refl h) (fun r hr => List.mem_append_left [_] hr)|exact fun _ s => Hd.sub s (Le.refl h) (fun r hr => List.mem_cons_of_mem _ (List.mem_append_left [_] hr))))|exact to_))))|(apply ybn;(·(first|(first|(apply qv_eql_pnil<;>rfl)|(apply qv_nilCheck;rfl)|(refine qv_convert_int' rfl hw))|exact tq_));(·rfl);(·rfl);(·rfl);(·(first|exact ybf|(refine .inl ?_;(first|exact fun _ s => Hd.sub s (Le.refl h) (fun r hr => List.mem_append_left [_] hr)|exact fun _ s => Hd.sub s (Le.refl h) (fun r hr => List.mem_cons_of_mem _ (List.mem_append_left [_] hr))))|exact to_))))|refine ycg ?_))
    (refine yco (ycp Tryz.func59 rfl (by kernel_rfl) rfl) (PutHigh_sp n size ⟨hn rfl, by omega⟩ h0 hsz h) rfl rfl rfl ?_ ?_ ?_;(·(first|exact ybf|(refine .inl ?_;(first|exact fun _ s => Hd.sub s (Le.refl h) (fun r hr => List.mem_append_left [_] hr)|exact fun _ s => Hd.sub s (Le.refl h) (fun r hr => List.mem_cons_of_mem _ (List.mem_append_left [_] hr))))|exact to_));(·intro _ _ hle;(first|exact ybf|(refine .inl ?_;(first|exact fun _ s => Hd.sub s (Le.refl h) (fun r hr => List.mem_append_left [_] hr)|exact fun _ s => Hd.sub s (Le.refl h) (fun r hr => List.mem_cons_of_mem _ (List.mem_append_left [_] hr))))|exact to_));intro x px hle)
    refine rx_rowform 0 rfl (fun _ h1 _ => (by rw [List.length_reverse] at h1; omega)) ?_
    rintro g cap rfl
    repeat' (refine ycf ?_;(first|(first|(apply ybm;(·(first|(first|(apply qv_eql_pnil<;>rfl)|(apply qv_nilCheck;rfl)|(refine qv_convert_int' rfl hw))|exact tq_));(·rfl);(·rfl);(·(first|exact fun _ s => Hd.sub s (Le.refl h) (fun r hr => List.mem_append_left [_] hr)|exact fun _ s => Hd.sub s (Le.refl h) (fun r hr => List.mem_cons_of_mem _ (List.mem_append_left [_] hr)))))|refine ybl rfl rfl ?_|((fail_if_success (refine ybi rfl ?_));refine ybj rfl ?_ ?_<;>(intro ht;rw [ht];first|replace ht := oet_ ht|replace ht := oef_ ht|skip))|(refine tb_ ?_ ?_ ?_;(·(first|exact ybf|(refine .inl ?_;(first|exact fun _ s => Hd.sub s (Le.refl h) (fun r hr => List.mem_append_left [_] hr)|exact fun _ s => Hd.sub s (Le.refl h) (fun r hr => List.mem_cons_of_mem _ (List.mem_append_left [_] hr))))|exact to_));(·intro _;(first|exact ybf|(refine .inl ?_;(first|exact fun _ s => Hd.sub s (Le.refl h) (fun r hr => List.mem_append_left [_] hr)|exact fun _ s => Hd.sub s (Le.refl h) (fun r hr => List.mem_cons_of_mem _ (List.mem_append_left [_] hr))))|exact to_));intro _)|(first|(refine tqs_ ?_ ?_ ?_;(·(first|exact ybf|(refine .inl ?_;(first|exact fun _ s => Hd.sub s (Le.refl h) (fun r hr => List.mem_append_left [_] hr)|exact fun _ s => Hd.sub s (Le.refl h) (fun r hr => List.mem_cons_of_mem _ (List.mem_append_left [_] hr))))|exact to_));(·(first|exact ybf|(refine .inl ?_;(first|exact fun _ s => Hd.sub s (Le.refl h) (fun r hr => List.mem_append_left [_] hr)|exact fun _ s => Hd.sub s (Le.refl h) (fun r hr => List.mem_cons_of_mem _ (List.mem_append_left [_] hr))))|exact to_))))|(apply ybn;(·(first|(first|(apply qv_eql_pnil<;>rfl)|(apply qv_nilCheck;rfl)|(refine qv_convert_int' rfl hw))|exact tq_));(·rfl);(·rfl);(·rfl);(·(first|exact ybf|(refine .inl ?_;(first|exact fun _ s => Hd.sub s (Le.refl h) (fun r hr => List.mem_append_left [_] hr)|exact fun _ s => Hd.sub s (Le.refl h) (fun r hr => List.mem_cons_of_mem _ (List.mem_append_left [_] hr))))|exact to_))))|refine ycg ?_))
    refine rx_append (sz := 1) 2 rfl rfl rfl (row_cells 0 rfl) (by rw [bcs_len, Nat.mul_one]) (bcs_one _) rfl (by omega) (by unfold maxLen; rw [List.length_reverse]; omega) (by rw [List.length_reverse]; omega) rfl rfl rfl ?_ ?_ ?_
    · (first|exact ybf|(refine .inl ?_;(first|exact fun _ s => Hd.sub s (Le.refl h) (fun r hr => List.mem_append_left [_] hr)|exact fun _ s => Hd.sub s (Le.refl h) (fun r hr => List.mem_cons_of_mem _ (List.mem_append_left [_] hr))))|exact to_)
    · intro v';(first|exact ybf|(refine .inl ?_;(first|exact fun _ s => Hd.sub s (Le.refl h) (fun r hr => List.mem_append_left [_] hr)|exact fun _ s => Hd.sub s (Le.refl h) (fun r hr => List.mem_cons_of_mem _ (List.mem_append_left [_] hr))))|exact to_)
    intro v2 _
    refine rx_rowform 2 rfl (fun _ h1 _ => (by rw [List.length_reverse] at h1; omega)) ?_
    rintro g2 cap2 rfl
    repeat' (refine ycf ?_;(first|(first|(apply ybm;(·(first|(first|(apply qv_eql_pnil<;>rfl)|(apply qv_nilCheck;rfl)|(refine qv_convert_int' rfl hw))|exact tq_));(·rfl);(·rfl);(·(first|exact fun _ s => Hd.sub s (Le.refl h) (fun r hr => List.mem_append_left [_] hr)|exact fun _ s => Hd.sub s (Le.refl h) (fun r hr => List.mem_cons_of_mem _ (List.mem_append_left [_] hr)))))|refine ybl rfl rfl ?_|((fail_if_success (refine ybi rfl ?_));refine ybj rfl ?_ ?_<;>(intro ht;rw [ht];first|replace ht := oet_ ht|replace ht := oef_ ht|skip))|(refine tb_ ?_ ?_ ?_;(·(first|exact ybf|(refine .inl ?_;(first|exact fun _ s => Hd.sub s (Le.refl h) (fun r hr => List.mem_append_left [_] hr)|exact fun _ s => Hd.sub s (Le.refl h) (fun r hr => List.mem_cons_of_mem _ (List.mem_append_left [_] hr))))|exact to_));(·intro _;(first|exact ybf|(refine .inl ?_;(first|exact fun _ s => Hd.sub s (Le.refl h) (fun r hr => List.mem_append_left [_] hr)|exact fun _ s => Hd.sub s (Le.refl h) (fun r hr => List.mem_cons_of_mem _ (List.mem_append_left [_] hr))))|exact to_));intro _)|(first|(refine tqs_ ?_ ?_ ?_;(·(first|exact ybf|(refine .inl ?_;(first|exact fun _ s => Hd.sub s (Le.refl h) (fun r hr => List.mem_append_left [_] hr)|exact fun _ s => Hd.sub s (Le.refl h) (fun r hr => List.mem_cons_of_mem _ (List.mem_append_left [_] hr))))|exact to_));(·(first|exact ybf|(refine .inl ?_;(first|exact fun _ s => Hd.sub s (Le.refl h) (fun r hr => List.mem_append_left [_] hr)|exact fun _ s => Hd.sub s (Le.refl h) (fun r hr => List.mem_cons_of_mem _ (List.mem_append_left [_] hr))))|exact to_))))|(apply ybn;(·(first|(first|(apply qv_eql_pnil<;>rfl)|(apply qv_nilCheck;rfl)|(refine qv_convert_int' rfl hw))|exact tq_));(·rfl);(·rfl);(·rfl);(·(first|exact ybf|(refine .inl ?_;(first|exact fun _ s => Hd.sub s (Le.refl h) (fun r hr => List.mem_append_left [_] hr)|exact fun _ s => Hd.sub s (Le.refl h) (fun r hr => List.mem_cons_of_mem _ (List.mem_append_left [_] hr))))|exact to_))))|refine ycg ?_))
    repeat' (first|(refine ycf ?_;apply ybk;(·first|(first|(apply qv_eql_pnil<;>rfl)|(apply qv_nilCheck;rfl)|(refine qv_convert_int' rfl hw)));(·rfl);(·rfl))|refine t1_ ?_|(refine ta_ ?_;intro _)|((fail_if_success (refine ybi rfl ?_));refine ybj rfl ?_ ?_<;>(intro ht;rw [ht];first|replace ht := oet_ ht|replace ht := oef_ ht|skip))|(refine ych ?_;first|(refine ybw rfl ?_ ?_<;>intro ht)|(refine ybx rfl ?_ ?_<;>intro ht)))
    refine nx_ret1 rfl (rv_tmp rfl) (fun w' s' => ⟨.slice (some ⟨g2, 0, none⟩) (l.length + (putLow size n).reverse.length) cap2, rfl, ?_, trivial⟩)
    have s2 := s'.tl
    rw [Bool.not_true, Bool.or_false, if_pos rfl]
    unfold rowB
    rw [List.length_append, bcs_app]
    exact s2
theorem OutNum_sp (bo : Nat) (v : Value) (l : List Int) (bad : Bool) (n : Int) (h0 : 0 ≤ n) (hn2 : n < 9223372036854775808) (hl : l.length ≤ 1000000) (h : View) (w : World) (s : St ⟨w, h, doms [outR bo v bad, rowB v l]⟩ h [outR bo v bad, rowB v l] w) :
    Calls Tryz.prog 24 [.pointer (some ⟨bo, 0, none⟩), .int .i64 n].toArray w fun e w' => ∃ x : Value, e = .returned (.pointer (some ⟨bo, 0, none⟩)) ∧
      St ⟨w, h, doms [outR bo v bad, rowB v l]⟩ h [outR bo x bad, rowB x (l ++ (putLow 8 n).reverse)] w' ∧ True := by
  refine calls_enter Tryz.func24 rfl Tryz.ntmps24 rfl s ?_
  have ht0 : decide (0 ≤ n) = true := decide_eq_true h0
  repeat' (first|(refine ycf ?_;apply ybk;(·first|(first|(apply qv_eql_pnil<;>rfl)|(apply qv_nilCheck;rfl)|(refine qv_convert_int' rfl hw)));(·rfl);(·rfl))|refine t1_ ?_|(refine ta_ ?_;intro _)|((fail_if_success (refine ybi rfl ?_));refine ybj rfl ?_ ?_<;>(intro ht;rw [ht];first|replace ht := oet_ ht|replace ht := oef_ ht|skip))|(refine ych ?_;first|(refine ybw rfl ?_ ?_<;>intro ht)|(refine ybx rfl ?_ ?_<;>intro ht)))
  rw [ht0]
  (refine rx_call_2 (ycp Tryz.func54 rfl (by kernel_rfl) rfl) (put_sp bo v l bad n 8 true (fun _ => h0) hn2 (by omega) (by omega) hl h) rfl rfl rfl ?_ ?_ ?_;(·(first|exact ybf|(refine .inl ?_;(first|exact fun _ s => Hd.sub s (Le.refl h) (fun r hr => List.mem_append_left [_] hr)|exact fun _ s => Hd.sub s (Le.refl h) (fun r hr => List.mem_cons_of_mem _ (List.mem_append_left [_] hr))))|exact to_));(·intro _ _ hle;(first|exact ybf|(refine .inl ?_;(first|exact fun _ s => Hd.sub s (Le.refl h) (fun r hr => List.mem_append_left [_] hr)|exact fun _ s => Hd.sub s (Le.refl h) (fun r hr => List.mem_cons_of_mem _ (List.mem_append_left [_] hr))))|exact to_));intro x px hle)
  repeat' (first|(refine ycf ?_;apply ybk;(·first|(first|(apply qv_eql_pnil<;>rfl)|(apply qv_nilCheck;rfl)|(refine qv_convert_int' rfl hw)));(·rfl);(·rfl))|refine t1_ ?_|(refine ta_ ?_;intro _)|((fail_if_success (refine ybi rfl ?_));refine ybj rfl ?_ ?_<;>(intro ht;rw [ht];first|replace ht := oet_ ht|replace ht := oef_ ht|skip))|(refine ych ?_;first|(refine ybw rfl ?_ ?_<;>intro ht)|(refine ybx rfl ?_ ?_<;>intro ht)))
  refine nx_ret1 rfl (rv_tmp rfl) (fun w' s' => ⟨x, rfl, ?_, trivial⟩)
  rw [Bool.not_true, Bool.or_false, if_pos rfl] at s'
  exact s'
theorem OutSmall_sp (bo : Nat) (v : Value) (l : List Int) (bad : Bool) (n : Int) (h0 : 0 ≤ n) (hn2 : n ≤ 255) (hl : l.length ≤ 1000000) (h : View) (w : World) (s : St ⟨w, h, doms [outR bo v bad, rowB v l]⟩ h [outR bo v bad, rowB v l] w) :
    Calls Tryz.prog 22 [.pointer (some ⟨bo, 0, none⟩), .int .i64 n].toArray w fun e w' => ∃ x : Value, e = .returned (.pointer (some ⟨bo, 0, none⟩)) ∧
      St ⟨w, h, doms [outR bo v bad, rowB v l]⟩ h [outR bo x bad, rowB x (l ++ (putLow 1 n).reverse)] w' ∧ True := by
  refine calls_enter Tryz.func22 rfl Tryz.ntmps22 rfl s ?_
  have ht0 : decide (0 ≤ n ∧ n ≤ 255) = true := decide_eq_true ⟨h0, hn2⟩
  repeat' (first|(refine ycf ?_;apply ybk;(·first|(first|(apply qv_eql_pnil<;>rfl)|(apply qv_nilCheck;rfl)|(refine qv_convert_int' rfl hw)));(·rfl);(·rfl))|refine t1_ ?_|(refine ta_ ?_;intro _)|((fail_if_success (refine ybi rfl ?_));refine ybj rfl ?_ ?_<;>(intro ht;rw [ht];first|replace ht := oet_ ht|replace ht := oef_ ht|skip))|(refine ych ?_;first|(refine ybw rfl ?_ ?_<;>intro ht)|(refine ybx rfl ?_ ?_<;>intro ht)))
  (refine yco (ycp Tryz.func53 rfl (by kernel_rfl) rfl) (Byte_sp n h) rfl rfl rfl ?_ ?_ ?_;(·(first|exact ybf|(refine .inl ?_;(first|exact fun _ s => Hd.sub s (Le.refl h) (fun r hr => List.mem_append_left [_] hr)|exact fun _ s => Hd.sub s (Le.refl h) (fun r hr => List.mem_cons_of_mem _ (List.mem_append_left [_] hr))))|exact to_));(·intro _ _ hle;(first|exact ybf|(refine .inl ?_;(first|exact fun _ s => Hd.sub s (Le.refl h) (fun r hr => List.mem_append_left [_] hr)|exact fun _ s => Hd.sub s (Le.refl h) (fun r hr => List.mem_cons_of_mem _ (List.mem_append_left [_] hr))))|exact to_));intro x px hle)
  repeat' (first|(refine ycf ?_;apply ybk;(·first|(first|(apply qv_eql_pnil<;>rfl)|(apply qv_nilCheck;rfl)|(refine qv_convert_int' rfl hw)));(·rfl);(·rfl))|refine t1_ ?_|(refine ta_ ?_;intro _)|((fail_if_success (refine ybi rfl ?_));refine ybj rfl ?_ ?_<;>(intro ht;rw [ht];first|replace ht := oet_ ht|replace ht := oef_ ht|skip))|(refine ych ?_;first|(refine ybw rfl ?_ ?_<;>intro ht)|(refine ybx rfl ?_ ?_<;>intro ht)))
  rw [ht0]
  (refine rx_call_2 (ycp Tryz.func54 rfl (by kernel_rfl) rfl) (put_sp bo v l bad n 1 true (fun _ => h0) (by omega) (by omega) (by omega) hl h) rfl rfl rfl ?_ ?_ ?_;(·(first|exact ybf|(refine .inl ?_;(first|exact fun _ s => Hd.sub s (Le.refl h) (fun r hr => List.mem_append_left [_] hr)|exact fun _ s => Hd.sub s (Le.refl h) (fun r hr => List.mem_cons_of_mem _ (List.mem_append_left [_] hr))))|exact to_));(·intro _ _ hle;(first|exact ybf|(refine .inl ?_;(first|exact fun _ s => Hd.sub s (Le.refl h) (fun r hr => List.mem_append_left [_] hr)|exact fun _ s => Hd.sub s (Le.refl h) (fun r hr => List.mem_cons_of_mem _ (List.mem_append_left [_] hr))))|exact to_));intro x px hle)
  repeat' (first|(refine ycf ?_;apply ybk;(·first|(first|(apply qv_eql_pnil<;>rfl)|(apply qv_nilCheck;rfl)|(refine qv_convert_int' rfl hw)));(·rfl);(·rfl))|refine t1_ ?_|(refine ta_ ?_;intro _)|((fail_if_success (refine ybi rfl ?_));refine ybj rfl ?_ ?_<;>(intro ht;rw [ht];first|replace ht := oet_ ht|replace ht := oef_ ht|skip))|(refine ych ?_;first|(refine ybw rfl ?_ ?_<;>intro ht)|(refine ybx rfl ?_ ?_<;>intro ht)))
  refine nx_ret1 rfl (rv_tmp rfl) (fun w' s' => ⟨x, rfl, ?_, trivial⟩)
  rw [Bool.not_true, Bool.or_false, if_pos rfl] at s'
  exact s'
theorem BClone_sp (sv : Value) (l : List Int) (h : View) (hs : Bs8 h sv l) (hl : l.length ≤ 1000000) (w : World) (s : St ⟨w, h, []⟩ h [] w) :
    Calls Tryz.prog 57 [sv].toArray w fun e w' => ∃ v, e = .returned v ∧ St ⟨w, h, []⟩ h [rowB v l] w' ∧ True := by
  obtain ⟨_, ad, cap, rfl, hcap, _⟩ := id hs
  refine calls_enter Tryz.func57 rfl Tryz.ntmps57 rfl s ?_
  repeat' (first|(refine ycf ?_;apply ybk;(·first|(first|(apply qv_eql_slnil<;>rfl)));(·rfl);(·rfl))|refine t1_ ?_|(refine ta_ ?_;intro _)|((fail_if_success (refine ybi rfl ?_));refine ybj rfl ?_ ?_<;>(intro ht;rw [ht];first|replace ht := oet_ ht|replace ht := oef_ ht|skip))|(refine ych ?_;first|(refine ybw rfl ?_ ?_<;>intro ht)|(refine ybx rfl ?_ ?_<;>intro ht)))
  · cases ad with
    | some ad => cases ht
    | none =>
      have h0 : l = [] := by
        obtain ⟨h1, ad', cap', h2, h3, h4⟩ := hs
        cases h2
        rcases h4 with h4 | ⟨b, o, cs, e, fz, q1, _⟩
        · have := congrArg List.length h4
          rw [bcs_len] at this
          exact List.eq_nil_of_length_eq_zero this
        · cases q1
      subst h0
      refine nx_ret1 rfl (rv_tmp rfl) (fun w' s' => ⟨_, rfl, ?_, trivial⟩)
      exact s'.rowNil _ _
  · refine yba ma_buildSlice0 rfl rfl rfl ybf (fun _ => ybf) ?_
    intro b
    refine rx_rowOf 1 0 0 (by omega) (by unfold maxLen; omega) rfl ?_
    repeat' (first|(refine ycf ?_;apply ybk;(·first|(first|(apply qv_eql_slnil<;>rfl)));(·rfl);(·rfl))|refine t1_ ?_|(refine ta_ ?_;intro _)|((fail_if_success (refine ybi rfl ?_));refine ybj rfl ?_ ?_<;>(intro ht;rw [ht];first|replace ht := oet_ ht|replace ht := oef_ ht|skip))|(refine ych ?_;first|(refine ybw rfl ?_ ?_<;>intro ht)|(refine ybx rfl ?_ ?_<;>intro ht)))
    refine rx_append_sc (sz := 1) 0 rfl rfl rfl hs (bcs_one l) rfl (by omega) (by unfold maxLen; omega) (by omega) rfl rfl rfl ybf (fun _ => ybf) ?_
    intro v' _
    repeat' (first|(refine ycf ?_;apply ybk;(·first|(first|(apply qv_eql_slnil<;>rfl)));(·rfl);(·rfl))|refine t1_ ?_|(refine ta_ ?_;intro _)|((fail_if_success (refine ybi rfl ?_));refine ybj rfl ?_ ?_<;>(intro ht;rw [ht];first|replace ht := oet_ ht|replace ht := oef_ ht|skip))|(refine ych ?_;first|(refine ybw rfl ?_ ?_<;>intro ht)|(refine ybx rfl ?_ ?_<;>intro ht)))
    refine nx_ret1 rfl (rv_tmp rfl) (fun w' s' => ⟨_, rfl, ?_, trivial⟩)
    simpa using s'
theorem Done_sp (bo : Nat) (v : Value) (l : List Int) (hl : l.length ≤ 1000000) (h : View) (w : World) (s : St ⟨w, h, doms [outR bo v false, rowB v l]⟩ h [outR bo v false, rowB v l] w) :
    Calls Tryz.prog 26 [.pointer (some ⟨bo, 0, none⟩)].toArray w fun e w' => ∃ x : Value, e = .returned (.tuple #[x, .int .i64 0]) ∧
      St ⟨w, h, doms [outR bo v false, rowB v l]⟩ h [rowB x l, outR bo v false, rowB v l] w' ∧ True := by
  refine calls_enter Tryz.func26 rfl Tryz.ntmps26 rfl s ?_
  repeat' (first|(refine ycf ?_;apply ybk;(·first|(first|(apply qv_eql_pnil<;>rfl)|(apply qv_nilCheck;rfl)));(·rfl);(·rfl))|refine t1_ ?_|(refine ta_ ?_;intro _)|((fail_if_success (refine ybi rfl ?_));refine ybj rfl ?_ ?_<;>(intro ht;rw [ht];first|replace ht := oet_ ht|replace ht := oef_ ht|skip))|(refine ych ?_;first|(refine ybw rfl ?_ ?_<;>intro ht)|(refine ybx rfl ?_ ?_<;>intro ht)))
  refine rx_call_lendx (u := fun x : Value => x) (LL := fun x => [rowB x l]) 1 (ycp Tryz.func57 rfl (by kernel_rfl) rfl) rfl (fun h' _ hsc w s => BClone_sp v l h' hsc hl w s) rfl rfl rfl ybf (fun _ => ybf) ?_
  intro x
  repeat' (first|(refine ycf ?_;apply ybk;(·first|(first|(apply qv_eql_pnil<;>rfl)|(apply qv_nilCheck;rfl)));(·rfl);(·rfl))|refine t1_ ?_|(refine ta_ ?_;intro _)|((fail_if_success (refine ybi rfl ?_));refine ybj rfl ?_ ?_<;>(intro ht;rw [ht];first|replace ht := oet_ ht|replace ht := oef_ ht|skip))|(refine ych ?_;first|(refine ybw rfl ?_ ?_<;>intro ht)|(refine ybx rfl ?_ ?_<;>intro ht)))
  exact nx_ret2 rfl (rv_tmp rfl) (rv_tmp rfl) (fun w' s' => ⟨x, rfl, s', trivial⟩)
end Go.Proofs.YtkkjppeaaicgaaaGreatDoor
end

section
namespace Go.Ck
open Go
set_option linter.unusedVariables false
section
variable {P : Program} {ops : Array Oper} {S : World → Prop}
structure InvR (ops : Array Oper) (rk : Nat → Nat) (listed : Array Bool) (prs : List (Nat × Oper)) : Prop where
  pr : ∀ p ∈ prs, ops[p.1]? = some p.2
  sorted : prs.Pairwise (fun p q => rk p.1 < rk q.1)
  left : ∀ i, i < ops.size → (listed.getD i true = false ↔ ∃ o, (i, o) ∈ prs)
  closed : ∀ i o, ops[i]? = some o → listed.getD i false = true → ∀ e ∈ o.after, Region.binds .any e = true → listed.getD e.on false = true
  size : listed.size = ops.size
theorem InvR.step {rk : Nat → Nat} {listed : Array Bool} {l1 l2 : List (Nat × Oper)} {i : Nat} {o : Oper} (inv : InvR ops rk listed (l1 ++ (i, o) :: l2)) (hr : i ∈ Region.ready .any ops listed) :
    InvR ops rk (listed.setIfInBounds i true) (l1 ++ l2) := by
  have hio : ops[i]? = some o := inv.pr (i, o) (by simp)
  have hlt : i < ops.size := (Array.getElem?_eq_some_iff.1 hio).1
  obtain ⟨hun, o', ho', hall⟩ := mem_ready.1 hr
  have hoo : o' = o := by rw [hio] at ho'; cases ho'; rfl
  subst hoo
  refine ⟨fun p hp => inv.pr p ?_, ?_, fun k hk => ?_, fun k ok hok hl e he hb => ?_, by simp [inv.size]⟩
  · rcases List.mem_append.1 hp with hp | hp
    · exact List.mem_append_left _ hp
    · exact List.mem_append_right _ (List.mem_cons_of_mem _ hp)
  · exact inv.sorted.sublist (List.Sublist.append_left (List.sublist_cons_self _ _) _)
  · by_cases hki : i = k
    · subst hki
      have : (listed.setIfInBounds i true).getD i true = true := by simp [inv.size, hlt]
      rw [this]
      simp only [Bool.true_eq_false, false_iff, not_exists]
      intro o2 hm
      have hs := inv.sorted
      rw [List.pairwise_append] at hs
      obtain ⟨_, s2, s3⟩ := hs
      rcases List.mem_append.1 hm with hm | hm
      · have := s3 _ hm (i, o') (List.mem_cons_self ..)
        simp at this
      · have := (List.pairwise_cons.1 s2).1 _ hm
        simp at this
    · rw [getD_set_ne true hki, inv.left k hk]
      constructor
      · rintro ⟨o2, hm⟩
        refine ⟨o2, ?_⟩
        rcases List.mem_append.1 hm with hm | hm
        · exact List.mem_append_left _ hm
        · rcases List.mem_cons.1 hm with hm | hm
          · cases hm; exact absurd rfl hki
          · exact List.mem_append_right _ hm
      · rintro ⟨o2, hm⟩
        refine ⟨o2, ?_⟩
        rcases List.mem_append.1 hm with hm | hm
        · exact List.mem_append_left _ hm
        · exact List.mem_append_right _ (List.mem_cons_of_mem _ hm)
  · by_cases hki : i = k
    · subst hki
      have : ok = o' := by rw [hio] at hok; cases hok; rfl
      subst this
      exact getD_set_true (hall e he hb)
    · rw [getD_set_ne false hki] at hl
      exact getD_set_true (inv.closed k ok hok hl e he hb)
def lexOkR (ops : Array Oper) (ms : List Nat) (lo bar : Nat → Bool) (rk : Nat → Nat) (exc : Nat → Nat → Bool) : Bool :=
  maskOk ops ms && Region.noSelect ops && (List.range ops.size).all fun i =>
    (match ops[i]? with | some o => o.after.toList.all fun e => !Region.binds .any e || decide (rk e.on < rk i) | none => true) &&
    (List.range ops.size).all fun j => !decide (rk j < rk i) || exc j i || pairOk ops ms lo bar j i
section
variable {lo bar : Nat → Bool} {ms : List Nat} {rk : Nat → Nat} {exc : Nat → Nat → Bool}
theorem lexOkR_mask (hB : lexOkR ops ms lo bar rk exc = true) : maskOk ops ms = true := by
  simp only [lexOkR, Bool.and_eq_true] at hB; exact hB.1.1
theorem lexOkR_sel (hB : lexOkR ops ms lo bar rk exc = true) : Region.noSelect ops = true := by
  simp only [lexOkR, Bool.and_eq_true] at hB; exact hB.1.2
theorem lexOkR_edge (hB : lexOkR ops ms lo bar rk exc = true) {i : Nat} {o : Oper} (hi : ops[i]? = some o) {e : Edge} (he : e ∈ o.after) (hb : Region.binds .any e = true) : rk e.on < rk i := by
  simp only [lexOkR, Bool.and_eq_true] at hB
  have hlt : i < ops.size := (Array.getElem?_eq_some_iff.1 hi).1
  have h1 := List.all_eq_true.1 hB.2 i (List.mem_range.2 hlt)
  simp only [hi, Bool.and_eq_true] at h1
  have h2 := List.all_eq_true.1 h1.1 e (Array.mem_toList_iff.2 he)
  simpa [hb] using h2
theorem lexOkR_pair (hB : lexOkR ops ms lo bar rk exc = true) {i j : Nat} (hi : i < ops.size) (hj : j < ops.size) (hr : rk j < rk i) (hx : exc j i = false) : pairOk ops ms lo bar j i = true := by
  simp only [lexOkR, Bool.and_eq_true] at hB
  have h1 := List.all_eq_true.1 hB.2 i (List.mem_range.2 hi)
  simp only [Bool.and_eq_true] at h1
  have h2 := List.all_eq_true.1 h1.2 j (List.mem_range.2 hj)
  simpa [hr, hx] using h2
theorem headR (hB : lexOkR ops ms lo bar rk exc = true) : ∀ (prs : List (Nat × Oper)) (listed : Array Bool), InvR ops rk listed prs → Region.ready .any ops listed = [] → prs = [] := by
  intro prs listed inv hr
  cases prs with
  | nil => rfl
  | cons p r =>
    obtain ⟨i, o⟩ := p
    have hio : ops[i]? = some o := inv.pr (i, o) (List.mem_cons_self ..)
    have hlt : i < ops.size := (Array.getElem?_eq_some_iff.1 hio).1
    have : i ∈ Region.ready .any ops listed := by
      refine mem_ready.2 ⟨(inv.left i hlt).2 ⟨o, List.mem_cons_self ..⟩, o, hio, fun e he hb => ?_⟩
      have hei := (maskOk_spec (lexOkR_mask hB) hio).2 e he hb
      have hrk := lexOkR_edge hB hio he hb
      have hel : e.on < ops.size := by omega
      rw [← getD_tf (by rw [inv.size]; exact hel)]
      cases hg : listed.getD e.on true with
      | true => rfl
      | false =>
        obtain ⟨o2, hm2⟩ := (inv.left _ hel).1 hg
        rcases List.mem_cons.1 hm2 with hm2 | hm2
        · cases hm2; omega
        · have h9 : rk i < rk e.on := (List.pairwise_cons.1 inv.sorted).1 _ hm2
          omega
    rw [hr] at this
    cases this
theorem passR (hB : lexOkR ops ms lo bar rk exc = true) {listed : Array Bool} {prs : List (Nat × Oper)} (inv : InvR ops rk listed prs) {i : Nat} {o : Oper} (hio : ops[i]? = some o) (hi : i ∈ Region.ready .any ops listed) {p : Nat × Oper} (hp : p ∈ prs) (hr : rk p.1 < rk i) (hx : exc p.1 i = false) :
    p.2.apart ops o = true ∧ (lo i && lo p.1) = false ∧ bar i = false ∧ bar p.1 = false ∧ (∀ cs b, o.op ≠ .select cs b) ∧ (∀ cs b, p.2.op ≠ .select cs b) := by
  obtain ⟨hun, o', ho', hall⟩ := mem_ready.1 hi
  have : o' = o := by rw [hio] at ho'; cases ho'; rfl
  subst this
  have hlt := (Array.getElem?_eq_some_iff.1 hio).1
  have hpo : ops[p.1]? = some p.2 := inv.pr p hp
  have hpl := (Array.getElem?_eq_some_iff.1 hpo).1
  have hpair' := lexOkR_pair hB hlt hpl hr hx
  unfold pairOk at hpair'
  simp only [hpo, hio, Bool.or_eq_true, Bool.and_eq_true, Bool.not_eq_true'] at hpair'
  rcases hpair' with hp1 | ⟨⟨⟨q1, q2⟩, q3⟩, q4⟩
  · exfalso
    have hlj := mask_listed (lexOkR_mask hB) inv.closed i o' hio hall p.1 hp1
    have := (inv.left p.1 hpl).2 ⟨p.2, hp⟩
    rw [getD_tf (by rw [inv.size]; exact hpl)] at this
    rw [this] at hlj
    cases hlj
  · exact ⟨q1, q2, q3, q4, fun cs b => Region.noSelect_spec (lexOkR_sel hB) i o' cs b hio, fun cs b => Region.noSelect_spec (lexOkR_sel hB) p.1 p.2 cs b hpo⟩
theorem lexR_any {Q : Exit → Act → World → Prop} (hB : lexOkR ops ms lo bar rk exc = true) :
    ∀ (fuel : Nat) (prs : List (Nat × Oper)) (listed : Array Bool) (a : Act) (w : World), prs.length ≤ fuel → InvR ops rk listed prs → (∀ p ∈ prs, ∀ q ∈ prs, exc p.1 q.1 = false) →
      wpX P ops S lo bar (Q .normal) prs a w → wpAny P .any ops Q fuel listed a w := by
  intro fuel
  induction fuel with
  | zero =>
    intro prs listed a w hl inv hx h
    have : prs = [] := List.eq_nil_of_length_eq_zero (by omega)
    subst this
    refine ⟨?_, h⟩
    cases hr : Region.ready .any ops listed with
    | nil => rfl
    | cons i r =>
      have hi : i ∈ Region.ready .any ops listed := by rw [hr]; exact List.mem_cons_self ..
      obtain ⟨hun, o, ho, _⟩ := mem_ready.1 hi
      obtain ⟨_, hm2⟩ := (inv.left i (Array.getElem?_eq_some_iff.1 ho).1).1 hun
      cases hm2
  | succ fuel ih =>
    intro prs listed a w hl inv hx h
    refine ⟨fun hr => by rw [headR hB prs listed inv hr] at h; exact h, fun i hi => ?_⟩
    obtain ⟨hun, o, ho, hall⟩ := mem_ready.1 hi
    have hlt := (Array.getElem?_eq_some_iff.1 ho).1
    obtain ⟨o', hm2⟩ := (inv.left i hlt).1 hun
    have : o' = o := by have := inv.pr _ hm2; rw [ho] at this; cases this; rfl
    subst this
    obtain ⟨l1, l2, rfl⟩ := List.append_of_mem hm2
    have hb := bring (P := P) (S := S) (lo := lo) (bar := bar) (Q := Q .normal) (i := i) (o := o') l2 l1 (fun p hp => ?_) a w h
    · refine (R1.mono (fun a' w' h' => ih (l1 ++ l2) (listed.setIfInBounds i true) a' w' (by simp at hl ⊢; omega) (inv.step hi) (fun p hp q hq => hx p ?_ q ?_) h') hb).op ho
      · rcases List.mem_append.1 hp with hp | hp
        · exact List.mem_append_left _ hp
        · exact List.mem_append_right _ (List.mem_cons_of_mem _ hp)
      · rcases List.mem_append.1 hq with hq | hq
        · exact List.mem_append_left _ hq
        · exact List.mem_append_right _ (List.mem_cons_of_mem _ hq)
    · have hs := inv.sorted
      rw [List.pairwise_append] at hs
      exact passR hB inv ho hi (List.mem_append_left _ hp) (hs.2.2 p hp (i, o') (List.mem_cons_self ..)) (hx p (List.mem_append_left _ hp) (i, o') (by simp))
theorem wpX_append {Q : Act → World → Prop} : ∀ (l1 l2 : List (Nat × Oper)) (a : Act) (w : World), wpX P ops S lo bar Q (l1 ++ l2) a w ↔ wpX P ops S lo bar (wpX P ops S lo bar Q l2) l1 a w
  | [], l2, a, w => Iff.rfl
  | (i, o) :: l1, l2, a, w => by
    have : (fun a w => wpX P ops S lo bar Q (l1 ++ l2) a w) = (fun a w => wpX P ops S lo bar (wpX P ops S lo bar Q l2) l1 a w) := by
      funext a w; exact propext (wpX_append l1 l2 a w)
    show R1 P ops S (lo i) (bar i) o (fun a w => wpX P ops S lo bar Q (l1 ++ l2) a w) a w ↔ R1 P ops S (lo i) (bar i) o (fun a w => wpX P ops S lo bar (wpX P ops S lo bar Q l2) l1 a w) a w
    rw [this]
theorem wpX_mono {Q Q' : Act → World → Prop} (hq : ∀ a w, Q a w → Q' a w) : ∀ (l : List (Nat × Oper)) (a : Act) (w : World), wpX P ops S lo bar Q l a w → wpX P ops S lo bar Q' l a w
  | [], a, w, h => hq a w h
  | (i, o) :: l, a, w, h => R1.mono (fun a w h => wpX_mono hq l a w h) h
theorem fork_any {Q : Exit → Act → World → Prop} {x y : Nat} {ox oy : Oper} {rest : List (Nat × Oper)} (hB : lexOkR ops ms lo bar rk (fun j i => j == x && i == y) = true)
    (hrest : ∀ p ∈ rest, (ms.getD p.1 0).testBit x = true) :
    ∀ (fuel : Nat) (pre : List (Nat × Oper)) (listed : Array Bool) (a : Act) (w : World), (pre ++ (x, ox) :: (y, oy) :: rest).length ≤ fuel → InvR ops rk listed (pre ++ (x, ox) :: (y, oy) :: rest) →
      wpX P ops S lo bar (fun a w => wpX P ops S lo bar (Q .normal) ((x, ox) :: (y, oy) :: rest) a w ∧ wpX P ops S lo bar (Q .normal) ((y, oy) :: (x, ox) :: rest) a w) pre a w → wpAny P .any ops Q fuel listed a w := by
  intro fuel
  induction fuel with
  | zero => intro pre listed a w hl; simp at hl
  | succ fuel ih =>
    intro pre listed a w hl inv h
    refine ⟨fun hr => ?_, fun i hi => ?_⟩
    · have := headR hB _ listed inv hr
      simp at this
    have hs := inv.sorted
    rw [List.pairwise_append] at hs
    obtain ⟨s1, s2, s3⟩ := hs
    have s2x := List.pairwise_cons.1 s2
    have s2y := List.pairwise_cons.1 s2x.2
    have hxy : rk x < rk y := s2x.1 (y, oy) (by simp)
    have nxy : x ≠ y := fun e => by rw [e] at hxy; omega
    obtain ⟨hun, o, ho, hall⟩ := mem_ready.1 hi
    have hlt := (Array.getElem?_eq_some_iff.1 ho).1
    obtain ⟨o', hm2⟩ := (inv.left i hlt).1 hun
    have : o' = o := by have := inv.pr _ hm2; rw [ho] at this; cases this; rfl
    subst this
    rcases List.mem_append.1 hm2 with hm2 | hm2
    · obtain ⟨l1, l2, rfl⟩ := List.append_of_mem hm2
      have hiy : i ≠ y := fun e => by
        have := s3 (i, o') hm2 (y, oy) (by simp)
        simp only [e] at this
        omega
      have inv' : InvR ops rk listed (l1 ++ (i, o') :: (l2 ++ (x, ox) :: (y, oy) :: rest)) := by simpa using inv
      have hss := inv'.sorted
      rw [List.pairwise_append] at hss
      have hb := bring (P := P) (S := S) (lo := lo) (bar := bar) (i := i) (o := o') l2 l1 (fun p hp => passR hB inv ho hi (by simp [hp]) (hss.2.2 p hp (i, o') (List.mem_cons_self ..)) (by simp [hiy])) a w h
      refine (R1.mono (fun a' w' h' => ih (l1 ++ l2) (listed.setIfInBounds i true) a' w' (by simp at hl ⊢; omega) ?_ h') hb).op ho
      have := inv'.step hi
      simpa using this
    · rcases List.mem_cons.1 hm2 with e | hm2
      · obtain ⟨rfl, rfl⟩ : i = x ∧ o' = ox := by cases e; exact ⟨rfl, rfl⟩
        have h1 := (wpX_append (P := P) (S := S) (lo := lo) (bar := bar) (Q := Q .normal) pre ((i, o') :: (y, oy) :: rest) a w).2 (wpX_mono (fun _ _ h => h.1) pre a w h)
        have hb := bring (P := P) (S := S) (lo := lo) (bar := bar) (i := i) (o := o') ((y, oy) :: rest) pre (fun p hp => passR hB inv ho hi (by simp [hp]) (s3 p hp (i, o') (by simp)) (by simp [nxy])) a w h1
        refine (R1.mono (fun a' w' h' => lexR_any hB fuel _ (listed.setIfInBounds i true) a' w' (by simp at hl ⊢; omega) (inv.step hi) (fun p hp q hq => ?_) h') hb).op ho
        have hpi : p.1 ≠ i := fun e => by
          rcases List.mem_append.1 hp with hp | hp
          · have := s3 p hp (i, o') (by simp); simp only [e] at this; omega
          · have := s2x.1 p hp; simp only [e] at this; omega
        simp [hpi]
      · rcases List.mem_cons.1 hm2 with e | hm2
        · obtain ⟨rfl, rfl⟩ : i = y ∧ o' = oy := by cases e; exact ⟨rfl, rfl⟩
          have h1 := (wpX_append (P := P) (S := S) (lo := lo) (bar := bar) (Q := Q .normal) pre ((i, o') :: (x, ox) :: rest) a w).2 (wpX_mono (fun _ _ h => h.2) pre a w h)
          have hb := bring (P := P) (S := S) (lo := lo) (bar := bar) (i := i) (o := o') ((x, ox) :: rest) pre (fun p hp => passR hB inv ho hi (by simp [hp]) (s3 p hp (i, o') (by simp)) ?_) a w h1
          · have inv' : InvR ops rk listed ((pre ++ [(x, ox)]) ++ (i, o') :: rest) := by simpa using inv
            have inv2 := inv'.step hi
            have inv3 : InvR ops rk (listed.setIfInBounds i true) (pre ++ (x, ox) :: rest) := by simpa using inv2
            refine (R1.mono (fun a' w' h' => lexR_any hB fuel _ (listed.setIfInBounds i true) a' w' (by simp at hl ⊢; omega) inv3 (fun p hp q hq => ?_) h') hb).op ho
            have hqi : q.1 ≠ i := fun e => by
              rcases List.mem_append.1 hq with hq | hq
              · have := s3 q hq (i, o') (by simp); simp only [e] at this; omega
              · rcases List.mem_cons.1 hq with e2 | hq
                · rw [e2] at e; exact nxy e
                · have := s2y.1 q hq; simp only [e] at this; omega
            simp [hqi]
          · have hpx : p.1 ≠ x := fun e => by
              have := s3 p hp (x, ox) (by simp); simp only [e] at this; omega
            simp [hpx]
        · exfalso
          have hbit := hrest (i, o') hm2
          have hlx := mask_listed (lexOkR_mask hB) inv.closed i o' ho hall x hbit
          have hxo : ops[x]? = some ox := inv.pr (x, ox) (by simp)
          have hxl := (Array.getElem?_eq_some_iff.1 hxo).1
          have := (inv.left x hxl).2 ⟨ox, by simp⟩
          rw [getD_tf (by rw [inv.size]; exact hxl)] at this
          rw [this] at hlx
          cases hlx
end
def nthO : List Oper → Nat → Oper
  | [], _ => default
  | o :: _, 0 => o
  | _ :: l, k + 1 => nthO l k
def pickL (ops : List Oper) : List Nat → List (Nat × Oper)
  | [] => []
  | i :: l => (i, nthO ops i) :: pickL ops l
def rkOf (ord : List Nat) (i : Nat) : Nat := ord.idxOf i
def forkOk (ops : Array Oper) (pre : List Nat) (x y : Nat) (rest : List Nat) : Bool :=
  lexOkR ops (masks ops) (loOf ops) (barOf ops) (rkOf (pre ++ x :: y :: rest)) (fun j i => j == x && i == y) && (rest.all fun i => ((masks ops).getD i 0).testBit x) &&
  ((List.range ops.size).all fun i => (pre ++ x :: y :: rest).contains i) && (pre ++ x :: y :: rest).length == ops.size && ((pre ++ x :: y :: rest).all fun i => decide (i < ops.size)) && decide ((pre ++ x :: y :: rest).Pairwise fun i j => rkOf (pre ++ x :: y :: rest) i < rkOf (pre ++ x :: y :: rest) j)
theorem nthO_ok : ∀ (l : List Oper) (i : Nat), i < l.length → l[i]? = some (nthO l i)
  | o :: l, 0, _ => rfl
  | o :: l, i + 1, h => by simpa [nthO] using nthO_ok l i (by simpa using h)
theorem pickL_mem {ops : List Oper} : ∀ {l : List Nat} {p : Nat × Oper}, p ∈ pickL ops l ↔ p.1 ∈ l ∧ p.2 = nthO ops p.1
  | [], p => by simp [pickL]
  | i :: l, p => by
    simp only [pickL, List.mem_cons, pickL_mem (l := l)]
    constructor
    · rintro (rfl | ⟨h1, h2⟩)
      · exact ⟨.inl rfl, rfl⟩
      · exact ⟨.inr h1, h2⟩
    · rintro ⟨rfl | h1, h2⟩
      · exact .inl (by cases p; simp_all)
      · exact .inr ⟨h1, h2⟩
theorem pickL_append {ops : List Oper} : ∀ (l m : List Nat), pickL ops (l ++ m) = pickL ops l ++ pickL ops m
  | [], m => rfl
  | i :: l, m => by simp [pickL, pickL_append l m]
theorem pickL_length {ops : List Oper} : ∀ (l : List Nat), (pickL ops l).length = l.length
  | [] => rfl
  | i :: l => by simp [pickL, pickL_length l]
theorem pickL_pair {ops : List Oper} {r : Nat → Nat → Prop} : ∀ {l : List Nat}, l.Pairwise r → (pickL ops l).Pairwise (fun p q => r p.1 q.1)
  | [], _ => List.Pairwise.nil
  | i :: l, h => by
    have h := List.pairwise_cons.1 h
    exact List.Pairwise.cons (fun p hp => h.1 _ (pickL_mem.1 hp).1) (pickL_pair h.2)
theorem wp_region_fork {id : Nat} {Q : Exit → Act → World → Prop} {a : Act} {w : World} (pre : List Nat) (x y : Nat) (rest : List Nat) (hm : P.follows .mixedOrders = true) (hB : forkOk ops pre x y rest = true)
    (h : wpX P ops S (loOf ops) (barOf ops) (fun a w => wpX P ops S (loOf ops) (barOf ops) (Q .normal) (pickL ops.toList (x :: y :: rest)) a w ∧ wpX P ops S (loOf ops) (barOf ops) (Q .normal) (pickL ops.toList (y :: x :: rest)) a w) (pickL ops.toList pre) a w.drew) :
    (Code.region id ops true).wp P Q a w := by
  simp only [forkOk, Bool.and_eq_true] at hB
  obtain ⟨⟨⟨⟨⟨b1, b2⟩, b3⟩, b4⟩, b5⟩, b6⟩ := hB
  have b4 : (pre ++ x :: y :: rest).length = ops.size := by simpa using b4
  have b6 := oet_ b6
  have hpk : pickL ops.toList pre ++ (x, nthO ops.toList x) :: (y, nthO ops.toList y) :: pickL ops.toList rest = pickL ops.toList (pre ++ x :: y :: rest) := by
    rw [pickL_append]; rfl
  refine wp_region_any hm (fork_any (rk := rkOf (pre ++ x :: y :: rest)) (ox := nthO ops.toList x) (oy := nthO ops.toList y) (rest := pickL ops.toList rest) b1 (fun p hp => ?_) _ (pickL ops.toList pre) _ a _ ?_ ⟨?_, ?_, ?_, ?_, ?_⟩ h)
  · exact List.all_eq_true.1 b2 _ (pickL_mem.1 hp).1
  · rw [hpk, pickL_length]; omega
  · rw [hpk]
    intro p hp
    obtain ⟨h1, h2⟩ := pickL_mem.1 hp
    have hlt : p.1 < ops.size := by simpa using List.all_eq_true.1 b5 _ h1
    have := nthO_ok ops.toList p.1 (by simpa using hlt)
    rw [h2]; simpa using this
  · rw [hpk]; exact pickL_pair b6
  · intro i hi
    rw [hpk]
    simp only [Array.getD_eq_getD_getElem?, Array.getElem?_replicate, hi, if_true, Option.getD_some, true_iff]
    have := List.all_eq_true.1 b3 i (List.mem_range.2 hi)
    exact ⟨nthO ops.toList i, (pickL_mem (p := (i, nthO ops.toList i))).2 ⟨by simpa using this, rfl⟩⟩
  · intro i o ho hl
    simp only [Array.getD_eq_getD_getElem?, Array.getElem?_replicate] at hl
    split at hl <;> simp at hl
  · simp
end
section
variable {P : Program} {n : Nat} {K : Bs} {F : List (Nat × Value)} {h : View} {L : List Res} {Q : Exit → Act → World → Prop}
def ForkQ (P : Program) (g : Rg) (Q : Exit → Act → World → Prop) (l1 l2 : List (Nat × Oper)) : Exit → Act → World → Prop := fun e a w =>
  e = .normal ∧ wpX P g.ops g.S g.lo g.bar (Q .normal) l1 a w ∧ wpX P g.ops g.S g.lo g.bar (Q .normal) l2 a w
theorem cx_region_fork {id : Nat} {ops : Array Oper} (pre : List Nat) (x y : Nat) (rest : List Nat) (hm : P.follows .mixedOrders = true) (hB : forkOk ops pre x y rest = true)
    (hx : RX P n K ⟨ops, Hd h L, loOf ops, barOf ops⟩ (pickL ops.toList pre) F h L (ForkQ P ⟨ops, Hd h L, loOf ops, barOf ops⟩ Q (pickL ops.toList (x :: y :: rest)) (pickL ops.toList (y :: x :: rest)))) : CX P n K (.region id ops true) F h L Q := by
  unfold CX
  unfold RX at hx
  exact fun a w f s => wp_region_fork pre x y rest hm hB (wpX_mono (fun a w h => h.2) _ _ _ (hx a w.drew ⟨f.size, f.dfs, f.get⟩ s.drew))
theorem nx_fork {g : Rg} {l1 l2 : List (Nat × Oper)} (h1 : RX P n K g l1 F h L Q) (h2 : RX P n K g l2 F h L Q) : NX n K .normal F h L (ForkQ P g Q l1 l2) := by
  unfold NX
  unfold RX at h1 h2
  exact fun a w f s => ⟨rfl, h1 a w f s, h2 a w f s⟩
end
end Go.Ck
end

section
namespace Go.Proofs
open Go.Shelf
def Tryz.sortDot_ren : Go.Shelf.Ren := ⟨fun | 6 => 28 | 15 => 62 | 14 => 61 | 28 => 94 | 29 => 95 | 20 => 86 | 21 => 87 | 22 => 88 | 23 => 89 | 24 => 90 | 25 => 91 | 26 => 92 | 27 => 93 | 46 => 111 | 47 => 112 | 48 => 113 | 49 => 114 | 50 => 115 | 57 => 122 | n => n, fun | 22 => 35 | 24 => 53 | 25 => 72 | 3 => 3 | 39 => 100 | 0 => 0 | 53 => 101 | 55 => 98 | 4 => 4 | 46 => 128 | 45 => 127 | 50 => 132 | 5 => 5 | 9 => 9 | 66 => 151 | 70 => 140 | 76 => 161 | 77 => 162 | n => n, fun | n => n⟩
theorem Tryz.sortDot : Go.Proofs.SlLaysF0.n6 Tryz.prog Tryz.sortDot_ren := {
  mixed := by kernel_rfl
  f6 := ⟨Tryz.f28.name, by decide, Tryz.func28.trans (congrArg some (by kernel_rfl))⟩
  f14 := ⟨Tryz.f61.name, by decide, Tryz.func61.trans (congrArg some (by kernel_rfl))⟩
  f15 := Tryz.func62.trans (congrArg some (by kernel_rfl))
  f20 := ⟨Tryz.f86.name, by decide, Tryz.func86.trans (congrArg some (by kernel_rfl))⟩
  f21 := ⟨Tryz.f87.name, by decide, Tryz.func87.trans (congrArg some (by kernel_rfl))⟩
  f22 := ⟨Tryz.f88.name, by decide, Tryz.func88.trans (congrArg some (by kernel_rfl))⟩
  f23 := ⟨Tryz.f89.name, by decide, Tryz.func89.trans (congrArg some (by kernel_rfl))⟩
  f24 := ⟨Tryz.f90.name, by decide, Tryz.func90.trans (congrArg some (by kernel_rfl))⟩
  f25 := ⟨Tryz.f91.name, by decide, Tryz.func91.trans (congrArg some (by kernel_rfl))⟩
  f26 := ⟨Tryz.f92.name, by decide, Tryz.func92.trans (congrArg some (by kernel_rfl))⟩
  f27 := ⟨Tryz.f93.name, by decide, Tryz.func93.trans (congrArg some (by kernel_rfl))⟩
  f28 := Tryz.func94.trans (congrArg some (by kernel_rfl))
  f29 := Tryz.func95.trans (congrArg some (by kernel_rfl))
  f46 := ⟨Tryz.f111.name, by decide, Tryz.func111.trans (congrArg some (by kernel_rfl))⟩
  f47 := Tryz.func112.trans (congrArg some (by kernel_rfl))
  f48 := Tryz.func113.trans (congrArg some (by kernel_rfl))
  f49 := ⟨Tryz.f114.name, by decide, Tryz.func114.trans (congrArg some (by kernel_rfl))⟩
  f50 := ⟨Tryz.f115.name, by decide, Tryz.func115.trans (congrArg some (by kernel_rfl))⟩
  f57 := ⟨Tryz.f122.name, by decide, Tryz.func122.trans (congrArg some (by kernel_rfl))⟩
  t0 := Tryz.underlying0
  a0 := Tryz.isAgg0
  z0 := Tryz.sizeOf0
  v0 := Tryz.zeroValue0
  t3 := Tryz.underlying3
  a3 := Tryz.isAgg3
  z3 := Tryz.sizeOf3
  v3 := Tryz.zeroValue3
  t4 := Tryz.underlying4
  a4 := Tryz.isAgg4
  z4 := Tryz.sizeOf4
  v4 := Tryz.zeroValue4
  t5 := Tryz.underlying5
  a5 := Tryz.isAgg5
  z5 := Tryz.sizeOf5
  v5 := Tryz.zeroValue5
  t9 := Tryz.underlying9
  a9 := Tryz.isAgg9
  z9 := Tryz.sizeOf9
  v9 := Tryz.zeroValue9
  t22 := Tryz.underlying35
  a22 := Tryz.isAgg35
  z22 := Tryz.sizeOf35
  v22 := Tryz.zeroValue35
  t25 := Tryz.underlying72
  a25 := Tryz.isAgg72
  z25 := Tryz.sizeOf72
  v25 := Tryz.zeroValue72
  t39 := Tryz.underlying100
  a39 := Tryz.isAgg100
  z39 := Tryz.sizeOf100
  v39 := Tryz.zeroValue100
  t45 := Tryz.underlying127
  a45 := Tryz.isAgg127
  z45 := Tryz.sizeOf127
  v45 := Tryz.zeroValue127
  t46 := Tryz.underlying128
  a46 := Tryz.isAgg128
  z46 := Tryz.sizeOf128
  v46 := Tryz.zeroValue128
  t50 := Tryz.underlying132
  a50 := Tryz.isAgg132
  z50 := Tryz.sizeOf132
  v50 := Tryz.zeroValue132
  t53 := Tryz.underlying101
  a53 := Tryz.isAgg101
  z53 := Tryz.sizeOf101
  v53 := Tryz.zeroValue101
  t55 := Tryz.underlying98
  a55 := Tryz.isAgg98
  z55 := Tryz.sizeOf98
  v55 := Tryz.zeroValue98
  t66 := Tryz.underlying151
  a66 := Tryz.isAgg151
  z66 := Tryz.sizeOf151
  v66 := Tryz.zeroValue151
  t70 := Tryz.underlying140
  a70 := Tryz.isAgg140
  z70 := Tryz.sizeOf140
  v70 := Tryz.zeroValue140
  t76 := Tryz.underlying161
  a76 := Tryz.isAgg161
  z76 := Tryz.sizeOf161
  v76 := Tryz.zeroValue161
  t77 := Tryz.underlying162
  a77 := Tryz.isAgg162
  z77 := Tryz.sizeOf162
  v77 := Tryz.zeroValue162 }
end Go.Proofs
end

section
namespace Go.Ck
open Go
set_option linter.unusedVariables false
section
variable {P : Program} {n : Nat} {K : Bs} {F : List (Nat × Value)} {h : View} {L : List Res} {Q : Exit → Act → World → Prop}
abbrev WF (l : Nat) : Fence := Fence.wide.inRound l
theorem wf_depth (l : Nat) (m : Nat) : (WF l).depth.isSome = true → 1 ≤ m := fun hx => by cases hx
theorem op_in {l m : Nat} {o : Oper} {a : Act} {w : World} {Kn : Act → World → Prop} {Q : Exit → Act → World → Prop} (hd : ∀ c, o.op ≠ .defer c) (hx : o.wp P a w Kn NoQ) : o.wpIn (WF l) m P a w Kn Q := by
  refine ⟨fun _ _ => trivial, ?_⟩
  rw [Oper.semAt_eq _ _ _ hd]
  unfold Oper.wp at hx
  generalize (execOp a.eval o).run P w = r at hx ⊢
  cases r with
  | ok x w' =>
    cases x with
    | value v => exact hx
    | skip => exact hx
    | defer d => exact hx
    | enter f args =>
      refine ⟨wf_depth l m, ?_⟩
      have h1 : Calls P f args w' _ := hx
      have h2 := (callsIn_wide (n := m - 1)).2 h1
      refine CallsIn.mono (F := Fence.wide) h2 ?_
      intro e w'' he
      cases e with
      | returned v => exact he
      | panicked c => exact he.elim
      | outgrown => obtain ⟨_, _, hq⟩ := he; exact hq.elim
    | row row args =>
      refine ⟨wf_depth l m, fun c cs _ => ?_⟩
      have h1 : Rows P row args w' _ := hx
      obtain ⟨v, w'', hr, hs⟩ := h1 c cs
      exact ⟨v, w'', hr, (stepsIn_wide (P := P)).2 hs⟩
    | round _ _ _ _ _ => exact hx.elim
    | recover => exact hx.elim
    | _ => exact hx.elim
  | halt hh w' =>
    cases hh with
    | panic v => exact hx.elim
    | _ => exact hx.elim
def noDefer (ops : List Oper) : Bool := ops.all fun o => match o.op with | .defer _ => false | _ => true
theorem noDefer_spec {ops : List Oper} (hx : noDefer ops = true) : ∀ o ∈ ops, ∀ c, o.op ≠ .defer c := fun o ho c hc => by
  have := List.all_eq_true.1 hx o ho
  rw [hc] at this
  cases this
theorem wpX_in {ops : Array Oper} {l m : Nat} {S : World → Prop} {lo bar : Nat → Bool} : ∀ (rs : List Oper) (k : Nat) (a : Act) (w : World), (∀ o ∈ rs, ∀ c, o.op ≠ .defer c) → wpX P ops S lo bar (Q .normal) (enumFrom k rs) a w → wpListIn (WF l) m P ops Q rs a w
  | [], k, a, w, _, hx => hx
  | o :: rs, k, a, w, hd, hx => by
    have ih : ∀ a w, wpX P ops S lo bar (Q .normal) (enumFrom (k + 1) rs) a w → wpListIn (WF l) m P ops Q rs a w := fun a w => wpX_in rs (k + 1) a w fun o ho => hd o (List.mem_cons_of_mem _ ho)
    have hdo := hd o (List.mem_cons_self ..)
    unfold wpListIn
    rcases hx with ⟨h0, h1⟩ | ⟨h0, h1, v, h2, h3⟩ | ⟨h0, h1, h2, h3⟩
    · rw [if_neg (by rw [h0]; simp)]
      exact ⟨fun _ _ => trivial, ih _ _ h1⟩
    · rw [if_pos h0]
      refine op_in hdo ?_
      unfold Oper.wp
      rw [h2 w h1]
      exact ih _ _ h3
    · rw [if_pos h0]
      exact op_in hdo (Oper.wp_mono (fun a w hk => ih _ _ hk.2) h3)
def CI (P : Program) (n : Nat) (l : Nat) (K : Bs) (c : Code) (F : List (Nat × Value)) (h : View) (L : List Res) (Q : Exit → Act → World → Prop) : Prop :=
  ∀ m a w, Fr n F a → St K h L w → c.wpIn (WF l) m P Q a w
theorem ci_region {l id : Nat} {ops : Array Oper} (hd : noDefer ops.toList = true) (hx : RX P n K ⟨ops, fun _ => True, fun _ => true, fun _ => false⟩ (enumFrom 0 ops.toList) F h L Q) : CI P n l K (.region id ops false) F h L Q := fun m a w f s => by
  unfold RX at hx
  exact wpIn_region_list (wpX_in _ 0 a w (noDefer_spec hd) (hx a w f s))
theorem ci_block {l id : Nat} {c : Code} (hx : CI P n l K c F h L (Exit.inBlock id Q)) : CI P n l K (.block id c) F h L Q := fun m a w f s => wpIn_block (hx m a w f s)
def Begins (P : Program) (l : Nat) (body : Code) (Q : Exit → Act → World → Prop) : Exit → Act → World → Prop :=
  Exit.then (fun a w => ∃ w₂, (Instr.beginRound l).run P w = .ok () w₂ ∧ ∀ m, body.wpIn (WF l) m P Q a w₂) (fun _ _ _ => False)
theorem St.put {K : Bs} {h : View} {b : Nat} {o o' : Obj} {L : List Res} {w : World} (s : St K h (Res.blk b o :: L) w) : St K h (Res.blk b o' :: L) (w.putObj b o') := by
  have hlt : b < w.heap.size := (Res.blk b o).lt w (s.hd.own _ (List.mem_cons_self ..)) b (List.mem_singleton.2 rfl)
  exact s.write rfl rfl rfl (Nat.le_refl _) (by simp) (fun k hk => World.putObj_heap_other hk) (World.putObj_heap_same hlt)
theorem nx_begins {l : Nat} {r : Loop} {body : Code} {L' : List Res} (hp : L.Perm (Res.blk l (.loop r) :: L')) (hr : r.state = .ready) (hx : CI P n l K body F h (Res.blk l (.loop { r with state := .busy }) :: L') Q) : NX n K .normal F h L (Begins P l body Q) := by
  unfold NX
  intro a w f s
  have s' := s.perm hp
  exact ⟨_, run_beginRound (s'.hd.own _ (List.mem_cons_self ..)) hr, fun m => hx m a _ f s'.put⟩
theorem nx_roundEnd {l : Nat} {r : Loop} {L' : List Res} {R : Ending → World → Prop} (hp : L.Perm (Res.blk l (.loop r) :: L')) (hx : ∀ w, St K h (Res.blk l (.loop { r with state := .ready, pending := none }) :: L') w → R (.returned (.bool true)) w) : NX n K .normal F h L (roundPost P l R) := by
  unfold NX
  intro a w f s
  have s' := s.perm hp
  exact ⟨_, _, run_endRound none (s'.hd.own _ (List.mem_cons_self ..)), hx _ s'.put⟩
theorem yieldAt_ck {m l p : Nat} {r : Loop} {x : Value} {L' : List Res} {R : Ending → World → Prop} {W : World} (hp : L.Perm (Res.blk l (.loop r) :: L')) (hps : r.params = #[p]) (hF : Fr n F ⟨r.tmps.setIfInBounds p x, []⟩)
    (s : St K h L W) (hx : CI P n l K r.assign F h L (Begins P l r.body (roundPost P l R))) : YieldAt Fence.wide m P l #[x] W R := by
  have s' := s.perm hp
  refine ⟨r.fn, _, r.assign, r.body, run_yield (s'.hd.own _ (List.mem_cons_self ..)) (by rw [hps]; rfl), roundIn_of_wpIn trivial ?_⟩
  rw [hps]
  have ez : (#[p].zip #[x]).foldl (fun tmps (t, a) => tmps.setIfInBounds t a) r.tmps = r.tmps.setIfInBounds p x := by simp
  rw [ez]
  refine wpIn_mono (hx m _ W hF s) ?_
  intro e a w he
  cases e with
  | normal => obtain ⟨w₂, h1, h2⟩ := he; exact ⟨w₂, h1, h2 m⟩
  | _ => exact he
def LI (P : Program) (n : Nat) (K : Bs) (ops : Array Oper) (rs : List Oper) (F : List (Nat × Value)) (h : View) (L : List Res) (Q : Exit → Act → World → Prop) : Prop :=
  ∀ a w, Fr n F a → St K h L w → wpListIn Fence.wide 0 P ops Q rs a w
theorem cx_regionI {id : Nat} {ops : Array Oper} (hx : LI P n K ops ops.toList F h L Q) : CX P n K (.region id ops false) F h L Q := by
  unfold CX
  exact fun a w f s => (wpIn_wide (n := 0)).1 (wpIn_region_list (hx a w f s))
theorem li_nil {ops : Array Oper} (hx : NX n K .normal F h L Q) : LI P n K ops [] F h L Q := by
  unfold NX at hx
  exact hx
theorem li_v {ops : Array Oper} {rs : List Oper} {dst : Option Nat} {op : Op} {ty : Nat} {pos : String} {af : Array Edge} {v : Value} (hq : QV P n F h L ⟨dst, op, ty, pos, af, none⟩ v) (hd : okd n dst = true)
    (hx : LI P n K ops rs (putF dst v F) h L Q) : LI P n K ops (⟨dst, op, ty, pos, af, none⟩ :: rs) F h L Q := fun a w f s => by
  unfold QV at hq
  unfold wpListIn
  have hw0 : ∀ o : Oper, o.guard = none → Region.wanted o (yielded ops a.tmps) = true := fun o ho => by unfold Region.wanted; rw [ho]
  rw [if_pos (hw0 _ rfl)]
  refine ⟨fun _ _ => trivial, ?_⟩
  rw [show Fence.wide.round = none from rfl, Oper.semAt_none]
  rw [hq a w f s.hd]
  exact hx _ _ (f.put hd v) s
theorem li_yield {ops : Array Oper} {rs : List Oper} {dst : Option Nat} {ty : Nat} {pos : String} {af : Array Edge} {x y : Operand} {ts : Array TypeId} {l : Nat} {u : Value} {X : Type} {v : X → Value} {LL : X → List Res} {p : X → Prop} {Li Lr : List Res}
    (hv : ev F x = some (.func (.yield l) #[] #[])) (hu : ev F y = some u) (hd : okd n dst = true) (hp : L.Perm (Li ++ Lr))
    (hY : ∀ w, St ⟨w, h, doms Li⟩ h Li w → YieldAt Fence.wide (0 - 1) P l #[u] w fun e w' => ∃ z, e = .returned (v z) ∧ St ⟨w, h, doms Li⟩ h (LL z) w' ∧ p z)
    (hx : ∀ z, p z → LI P n K ops rs (putF dst (v z) F) h (LL z ++ Lr) Q) : LI P n K ops (⟨dst, .call ⟨.value x, #[y], ts⟩, ty, pos, af, none⟩ :: rs) F h L Q := fun a w f s => by
  have s1 : St K h (Li ++ Lr) w := s.perm hp
  obtain ⟨fn, tmps, assign, body, hy, hR⟩ := hY w (St.enter (Li := Li) (Lr := Lr) s1)
  unfold wpListIn
  have hw0 : ∀ o : Oper, o.guard = none → Region.wanted o (yielded ops a.tmps) = true := fun o ho => by unfold Region.wanted; rw [ho]
  rw [if_pos (hw0 _ rfl)]
  refine ⟨fun _ _ => trivial, ?_⟩
  rw [show Fence.wide.round = none from rfl, Oper.semAt_none]
  have hrun : (execOp a.eval ⟨dst, .call ⟨.value x, #[y], ts⟩, ty, pos, af, none⟩).run P w = .ok (.round l fn tmps assign body) w := by
    simp only [execOp, resolve, f.ev hv, Deferred.ofValue, invoke]
    simpa [Sem.run_bind, Result.andThen, f.ev hu] using hy
  rw [hrun]
  refine ⟨fun hx => (by cases hx), RoundIn.mono hR ?_⟩
  rintro e w' ⟨z, rfl, st, pz⟩
  exact hx z pz _ _ (f.put hd _) (St.leave (Li := Li) (Lr := Lr) s1 st)
theorem calls_enter_marks {fn : FuncId} {fu : Func} {c : Code} {l : List Value} {w : World} {A : List Nat} {R : Ending → World → Prop} (hf : P.funcs[fn]? = some fu) (hb : fu.body = some c) (hn : fu.ntmps = n) (hl : Nat.ble l.length n = true)
    (s : St ⟨w, h, A⟩ h L w) (hx : CX P n ⟨w, h, A⟩ c (argsF 0 l) h L (bodyPostM Fence.wide 0 P fu R)) : Calls P fn l.toArray w R := by
  have hl : l.length ≤ n := by simpa using hl
  unfold CX at hx
  refine (callsIn_wide (n := 0)).1 (callsIn_of_wp_marks hf hb trivial ((wpIn_wide (n := 0)).2 (hx _ w ⟨?_, rfl, fun t v ht => ?_⟩ s)))
  · simp [hn]; omega
  · obtain ⟨_, h2⟩ := lk_argsF l 0 t v ht
    have hlt : t < l.length := by
      have := (List.getElem?_eq_some_iff.1 h2).1
      simpa using this
    simp only [Nat.sub_zero] at h2
    rw [Array.getElem?_append_left (by simpa using hlt)]
    simpa using h2
abbrev rec0 (tm : Array Value) (fn : FuncId) (D : Nat) (ps : Array Tmp) (assign body : Code) : Loop := { state := .ready, pending := none, fn := fn, tmps := tm, params := ps, assign := assign, body := body, defers := D }
theorem cx_rangeFunc {g : Operand} {ps : Array Tmp} {assign body : Code} {gfn : FuncId} {cap : List Value} {fu : Func} {c : Code} (hv : ev F g = some (.func (.func gfn) #[] cap.toArray)) (hf : P.funcs[gfn]? = some fu) (hb : fu.body = some c) (hnm : (fu.name == "runtime.NumGoroutine") = false)
    {X : Type} {LL : X → List Res} {p : X → Prop}
    (hcall : ∀ (tm : Array Value) (fn l D : Nat) (w : World), Fr n F ⟨tm, []⟩ → St ⟨w, h, doms (Res.blk l (.loop (rec0 tm fn D ps assign body)) :: L)⟩ h (Res.blk l (.loop (rec0 tm fn D ps assign body)) :: L) w →
      Calls P gfn (.func (.yield l) #[] #[] :: cap).toArray w fun e w' => (∃ v, e = .returned v) ∧ ∃ z, p z ∧ St ⟨w, h, doms (Res.blk l (.loop (rec0 tm fn D ps assign body)) :: L)⟩ h (Res.blk l (.loop (rec0 tm fn D ps assign body)) :: LL z) w')
    (hx : ∀ z tm D, p z → Fr n F ⟨tm, []⟩ → ∀ w, St K h (Res.blk D (.deferred (some [])) :: LL z) w → Q .normal ⟨tm, [{ target := .collected D, args := #[] }]⟩ w) : CX P n K (.rangeFunc g ps assign body) F h L Q := by
  unfold CX
  intro a w f s
  obtain ⟨tm, ds⟩ := a
  obtain rfl : ds = [] := f.dfs
  refine (wpIn_wide (n := 0)).1 (wpIn_rangeFunc ?_)
  intro fn _
  have s1 := s.alloc (.deferred (some []))
  have s2 := s1.alloc (.loop (rec0 tm fn w.heap.size ps assign body))
  rw [World.size_alloc] at s2
  have hnm' : ¬ fu.name = "runtime.NumGoroutine" := by simpa using hnm
  have hr1 : (Instr.enterLoop fn tm ps assign body none).run P w = .ok (w.heap.size + 1, [{ target := .collected w.heap.size, args := #[] }]) ((w.alloc (.deferred (some []))).alloc (.loop (rec0 tm fn w.heap.size ps assign body))) := run_enterLoop_outer _ _ _ _ _
  generalize hW : (w.alloc (.deferred (some []))).alloc (.loop (rec0 tm fn w.heap.size ps assign body)) = W1 at hr1 s2
  refine ⟨w.heap.size + 1, [{ target := .collected w.heap.size, args := #[] }], W1, { target := .fn (.func gfn) cap.toArray, args := #[.func (.yield (w.heap.size + 1)) #[] #[]] }, W1, gfn, #[.func (.yield (w.heap.size + 1)) #[] #[]] ++ cap.toArray, W1, hr1, ?_, fun _ _ => trivial, ?_, (fun hx => (by cases hx)), ?_⟩
  · have hg := f.ev hv
    simp only [resolve, hg, Deferred.ofValue]
    simp [Act.eval]
  · simp [invoke, callFunc, program, Sem.run, hf, hnm', hb]
  · have hperm : (Res.blk (w.heap.size + 1) (.loop (rec0 tm fn w.heap.size ps assign body)) :: Res.blk w.heap.size (.deferred (some [])) :: L).Perm ((Res.blk (w.heap.size + 1) (.loop (rec0 tm fn w.heap.size ps assign body)) :: L) ++ [Res.blk w.heap.size (.deferred (some []))]) := by
      refine List.Perm.cons _ ?_
      exact (List.perm_append_singleton _ _).symm
    have s3 := s2.perm hperm
    have hcl := hcall tm fn (w.heap.size + 1) w.heap.size _ f (St.enter s3)
    have harr : #[Value.func (.yield (w.heap.size + 1)) #[] #[]] ++ cap.toArray = (.func (.yield (w.heap.size + 1)) #[] #[] :: cap).toArray := by simp
    rw [harr]
    refine CallsIn.mono ((callsIn_wide (n := 0 - 1)).2 hcl) ?_
    rintro e w' ⟨⟨v, rfl⟩, z, hz, st⟩
    have s4 := St.leave s3 st
    refine ⟨none, _, run_endLoop (s4.hd.own _ (List.mem_append_left _ (List.mem_cons_self ..))) (by simp), ?_⟩
    have s5 : St K h (Res.blk (w.heap.size + 1) (.loop (rec0 tm fn w.heap.size ps assign body)) :: (LL z ++ [Res.blk w.heap.size (.deferred (some []))])) w' := s4
    have s6 := (s5.put (o' := .loop { rec0 tm fn w.heap.size ps assign body with state := .exhausted })).tl
    exact hx z tm w.heap.size hz f _ (s6.perm (List.perm_append_singleton _ _))
def LD (P : Program) (n : Nat) (K : Bs) (ds : List Deferred) (ops : Array Oper) (rs : List Oper) (F : List (Nat × Value)) (h : View) (L : List Res) (Q : Exit → Act → World → Prop) : Prop :=
  ∀ tm w, Fr n F ⟨tm, []⟩ → St K h L w → wpListIn Fence.wide 0 P ops Q rs ⟨tm, ds⟩ w
theorem ld_nil {ds : List Deferred} {ops : Array Oper} (hx : ∀ tm w, Fr n F ⟨tm, []⟩ → St K h L w → Q .normal ⟨tm, ds⟩ w) : LD P n K ds ops [] F h L Q := hx
theorem ld_v {ds : List Deferred} {ops : Array Oper} {rs : List Oper} {dst : Option Nat} {op : Op} {ty : Nat} {pos : String} {af : Array Edge} {v : Value} (hq : QV P n F h L ⟨dst, op, ty, pos, af, none⟩ v) (hd : okd n dst = true)
    (hx : LD P n K ds ops rs (putF dst v F) h L Q) : LD P n K ds ops (⟨dst, op, ty, pos, af, none⟩ :: rs) F h L Q := fun tm w f s => by
  unfold QV at hq
  unfold wpListIn
  have hw0 : ∀ o : Oper, o.guard = none → Region.wanted o (yielded ops (⟨tm, ds⟩ : Act).tmps) = true := fun o ho => by unfold Region.wanted; rw [ho]
  rw [if_pos (hw0 _ rfl)]
  refine ⟨fun _ _ => trivial, ?_⟩
  rw [show Fence.wide.round = none from rfl, Oper.semAt_none]
  have := hq ⟨tm, []⟩ w f s.hd
  have he : (⟨tm, ds⟩ : Act).eval = (⟨tm, []⟩ : Act).eval := rfl
  rw [he, this]
  have hp : (⟨tm, ds⟩ : Act).put dst v = ⟨((⟨tm, []⟩ : Act).put dst v).tmps, ds⟩ := by cases dst<;>rfl
  have hp0 : (⟨((⟨tm, []⟩ : Act).put dst v).tmps, []⟩ : Act) = (⟨tm, []⟩ : Act).put dst v := by cases dst<;>rfl
  show wpListIn Fence.wide 0 P ops Q rs ((⟨tm, ds⟩ : Act).put dst v) w
  rw [hp]
  exact hx _ _ (by rw [hp0]; exact f.put hd v) s
theorem ld_region {ds : List Deferred} {id : Nat} {ops : Array Oper} {tm : Array Value} {w : World} (hx : LD P n K ds ops ops.toList F h L Q) (f : Fr n F ⟨tm, []⟩) (s : St K h L w) : (Code.region id ops false).wp P Q ⟨tm, ds⟩ w :=
  (wpIn_wide (n := 0)).1 (wpIn_region_list (hx tm w f s))
theorem marks_ret {D : Nat} {fu : Func} {R : Ending → World → Prop} {x : ResultVar} {v : Value} {tm : Array Value} {w : World} (hr : fu.results = #[x]) (f : Fr n F ⟨tm, []⟩) (s : St K h (Res.blk D (.deferred (some [])) :: L) w) (hv : RV P F h L x v)
    (hp : ∀ w, St K h L w → R (.returned v) w) : bodyPostM Fence.wide 0 P fu R .ret ⟨tm, [{ target := .collected D, args := #[] }]⟩ w := by
  have s' := (s.put (o' := .deferred none)).tl
  refine ⟨by simp, .inl ⟨D, _, rfl, run_takeDeferred (s.hd.own _ (List.mem_cons_self ..)), ?_⟩⟩
  refine ⟨v, ?_, hp _ s'⟩
  rw [results_eq, hr]
  simp [RV.run hv f s'.hd]
end
end Go.Ck
end

section
namespace Go.Proofs.YtkkjppeaaicgaaaGreatDoor
open Go Go.Ck
set_option maxRecDepth 100000
set_option linter.unusedVariables false
abbrev Dt := Int × Int
def dcs (d : Dt) : List Value := [.int .i64 d.1, .int .i64 d.2]
def dv (d : Dt) : Value := .agg (dcs d).toArray
def rightB (d : Dt) : Bool := decide (1 ≤ d.1) && decide (d.1 ≤ 16) && decide (1 ≤ d.2) && decide (d.2 ≤ 1099511627776)
def cmpI (x y : Int) : Int := if x < y then -1 else if y < x then 1 else 0
def ordD (a b : Dt) : Int := if cmpI a.1 b.1 ≠ 0 then cmpI a.1 b.1 else cmpI a.2 b.2
theorem right_sp (d : Dt) (h : View) (w : World) (s : St ⟨w, h, []⟩ h [] w) :
    Calls Tryz.prog 64 [dv d].toArray w fun e w' => e = .returned (.bool (rightB d)) ∧ St ⟨w, h, []⟩ h [] w' := by
  refine calls_enter Tryz.func64 rfl Tryz.ntmps64 rfl s ?_
  repeat' (first|refine tw_ ?_|(refine ta_ ?_;intro _)|((fail_if_success (refine ybi rfl ?_));refine ybj rfl ?_ ?_<;>(intro ht;rw [ht];first|replace ht := oet_ ht|replace ht := oef_ ht|skip))|(refine ych ?_;first|(refine ybw rfl ?_ ?_<;>intro ht)|(refine ybx rfl ?_ ?_<;>intro ht)))
  all_goals (refine nx_ret1 rfl (rv_tmp rfl) (fun w' s' => ⟨?_, s'.nil⟩))
  all_goals (congr 2; simp [rightB, *])
theorem isNaN_sp (x : Int) (h : View) (w : World) (s : St ⟨w, h, []⟩ h [] w) :
    Calls Tryz.prog 63 [Value.int .i64 x].toArray w fun e w' => e = .returned (.bool false) ∧ St ⟨w, h, []⟩ h [] w' := by
  refine calls_enter Tryz.func63 rfl Tryz.ntmps63 rfl s ?_
  repeat' (first|refine tw_ ?_|(refine ta_ ?_;intro _)|((fail_if_success (refine ybi rfl ?_));refine ybj rfl ?_ ?_<;>(intro ht;rw [ht];first|replace ht := oet_ ht|replace ht := oef_ ht|skip))|(refine ych ?_;first|(refine ybw rfl ?_ ?_<;>intro ht)|(refine ybx rfl ?_ ?_<;>intro ht)))
  all_goals (refine nx_ret1 rfl (rv_tmp rfl) (fun w' s' => ⟨?_, s'.nil⟩))
  all_goals (congr 2; simp)
theorem compare_sp (x y : Int) (h : View) (w : World) (s : St ⟨w, h, []⟩ h [] w) :
    Calls Tryz.prog 31 [Value.int .i64 x, .int .i64 y].toArray w fun e w' => e = .returned (.int .i64 (cmpI x y)) ∧ St ⟨w, h, []⟩ h [] w' := by
  refine calls_enter Tryz.func31 rfl Tryz.ntmps31 rfl s ?_
  repeat' (first|(first|refine t1_ ?_|(refine ta_ ?_;intro _)|((fail_if_success (refine ybi rfl ?_));refine ybj rfl ?_ ?_<;>(intro ht;rw [ht];first|replace ht := oet_ ht|replace ht := oef_ ht|skip))|(refine ych ?_;first|(refine ybw rfl ?_ ?_<;>intro ht)|(refine ybx rfl ?_ ?_<;>intro ht)))|refine ycn (ycp Tryz.func63 rfl (by kernel_rfl) rfl) (isNaN_sp _ h) rfl rfl rfl ybf ?_)
  all_goals (refine nx_ret1 rfl (rv_tmp rfl) (fun w' s' => ⟨?_, s'.nil⟩))
  all_goals (congr 2;unfold cmpI;first|rw [if_pos (by assumption)]|rw [if_neg (by omega), if_pos (by omega)]|rw [if_neg (by omega), if_neg (by omega)])
end Go.Proofs.YtkkjppeaaicgaaaGreatDoor
end
