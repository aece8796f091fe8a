/-
  Part 3 of a proof: BitC CkFork CkRange DotA DotC DotD DotG DotJ DotL BitD BitE.
  Conditions: each theorem states its own.
-/
import Derived.Laws.Pointers
import Derived.RangeFuncGives
import Derived.RangeFuncLeaves
import Derived.RangeFuncSeq
import Derived.TacticsIn
import Derived.Laws.BytesString
import Derived.Test.YtndpclcbobgdlaaGreatDoorTwGPM2
set_option maxRecDepth 100000
set_option linter.unusedVariables false
set_option linter.unusedSimpArgs false
section
namespace Go.Proofs.YtndpclcbobgdlaaGreatDoor
open Go Go.Ck
set_option maxHeartbeats 1000000
theorem PutHigh_sp (x : Int) (m : Nat) (hx : 0 ≤ x ∧ x < 18446744073709551616) (h0 : 0 < m) (hm : m ≤ 64) (h : View) (w : World) (s : St ⟨w, h, []⟩ h [] w) :
    Calls Tryz.prog 54 [.int .u64 x, .int .i64 m].toArray w fun e w' => ∃ v, e = .returned v ∧ St ⟨w, h, []⟩ h [rowB v (putLow m x).reverse] w' ∧ True := by
  have hlen := putLow_len m x
  refine calls_enter Tryz.func54 rfl Tryz.ntmps54 rfl s ?_
  repeat' (first|refine tw_ ?_|(refine ta_ ?_;intro _)|((fail_if_success (refine ybi rfl ?_));refine ybj rfl ?_ ?_<;>(intro ht;rw [ht];first|replace ht := oet_ ht|replace ht := oef_ ht|skip))|(refine ych ?_;first|(refine ybw rfl ?_ ?_<;>intro ht)|(refine ybx rfl ?_ ?_<;>intro ht)))
  (refine yco (ycp Tryz.func73 rfl (by kernel_rfl) rfl) (PutLow_sp x m hx hm h) rfl rfl rfl ?_ ?_ ?_; (· (exact to_)); (· intro _ _ hle; (exact to_)); intro x px hle)
  refine rx_rowform 0 rfl (fun _ h1 _ => (by omega)) ?_
  rintro g cap rfl
  repeat' (first|refine tw_ ?_|(refine ta_ ?_;intro _)|((fail_if_success (refine ybi rfl ?_));refine ybj rfl ?_ ?_<;>(intro ht;rw [ht];first|replace ht := oet_ ht|replace ht := oef_ ht|skip))|(refine ych ?_;first|(refine ybw rfl ?_ ?_<;>intro ht)|(refine ybx rfl ?_ ?_<;>intro ht)))
  (refine rx_call_m (ycp Tryz.func74 rfl (by kernel_rfl) rfl) (perm_at (k := 0) rfl) (Reverse_sp g cap (putLow m x) (by omega) h) rfl rfl rfl ?_ ?_ ?_; (· (exact to_)); (· intro _ _ hle; (exact to_)); intro x px hle)
  repeat' (first|refine tw_ ?_|(refine ta_ ?_;intro _)|((fail_if_success (refine ybi rfl ?_));refine ybj rfl ?_ ?_<;>(intro ht;rw [ht];first|replace ht := oet_ ht|replace ht := oef_ ht|skip))|(refine ych ?_;first|(refine ybw rfl ?_ ?_<;>intro ht)|(refine ybx rfl ?_ ?_<;>intro ht)))
  exact nx_ret1 rfl (rv_tmp rfl) (fun w' s' => ⟨_, rfl, s', trivial⟩)
theorem qv_eql_pnil {P : Program} {n : Nat} {F : List (Nat × Value)} {h : View} {L : List Res} {dst : Option Nat} {ty : Nat} {pos : String} {af : Array Edge} {gd : Option (Nat × Bool)} {T T' e : Nat} {x y : Operand} {ad : Addr} [tu : TyU P T (.pointer e)] (hx : ev F x = some (.pointer (some ad))) (hy : ev F y = some (.pointer none)) :
    QV P n F h L ⟨dst, .binOp .eql T x y T', ty, pos, af, gd⟩ (.bool false) := by
  refine .mk fun a w f s => ?_
  have hp : P.underlying T = some (.pointer (P.pointee T)) := by
    have := tu.u
    simp [Program.pointee, this]
  have hg : (eqGuard .eql T x y (.pointer (some ad)) (.pointer none)).run P w = .ok () w := by simp [eqGuard]
  have he := run_equal_pointer_nil (P := P) (w := w) T (some ad) hp
  simp only [execOp, f.ev hx, f.ev hy, Sem.run_bind, hg, Result.andThen_ok, binOp, he]
  rfl
abbrev outR (bo : Nat) (v : Value) (bad : Bool) : Res := Res.blk bo (.cells #[v, .bool bad] 53 (0, 0))
theorem wrap_u64 {n : Int} (h0 : 0 ≤ n) (h1 : n < 18446744073709551616) : IntKind.u64.wrap n = n := by
  simp [IntKind.wrap, IntKind.bits, IntKind.signed]; omega
theorem put_sp (bo : Nat) (v : Value) (l : List Int) (bad : Bool) (n : Int) (size : Nat) (ok : Bool) (hn : ok = true → 0 ≤ n) (hn2 : n < 9223372036854775808) (h0 : 0 < size) (hsz : size ≤ 64) (hl : l.length ≤ 1000000) (h : View) (w : World) (s : St ⟨w, h, doms [outR bo v bad, rowB v l]⟩ h [outR bo v bad, rowB v l] w) :
    Calls Tryz.prog 35 [.pointer (some ⟨bo, 0, none⟩), .int .i64 n, .int .i64 size, .bool ok].toArray w fun e w' => ∃ x : Value, e = .returned (.pointer (some ⟨bo, 0, none⟩)) ∧
      St ⟨w, h, doms [outR bo v bad, rowB v l]⟩ h [outR bo x (bad || !ok), rowB x (if ok then l ++ (putLow size n).reverse else l)] w' ∧ True := by
  refine calls_enter Tryz.func35 rfl Tryz.ntmps35 rfl s ?_
  cases ok with
  | false =>
    repeat' (first|(refine ycf ?_;apply ybk;(·first|(first|(apply qv_eql_pnil<;>rfl)|(apply qv_nilCheck;rfl)));(·rfl);(·rfl))|refine t1_ ?_|(refine ta_ ?_;intro _)|((fail_if_success (refine ybi rfl ?_));refine ybj rfl ?_ ?_<;>(intro ht;rw [ht];first|replace ht := oet_ ht|replace ht := oef_ ht|skip))|(refine ych ?_;first|(refine ybw rfl ?_ ?_<;>intro ht)|(refine ybx rfl ?_ ?_<;>intro ht)))
    refine nx_ret1 rfl (rv_tmp rfl) (fun w' s' => ⟨v, rfl, ?_, trivial⟩)
    rw [Bool.not_false, Bool.or_true]
    exact s'
  | true =>
    have hw := wrap_u64 (hn rfl) (by omega)
    have hlen := putLow_len size n
    repeat' (first|(refine ycf ?_;apply ybk;(·first|(first|(apply qv_eql_pnil<;>rfl)|(apply qv_nilCheck;rfl)|(refine qv_convert_int' rfl hw)));(·rfl);(·rfl))|refine t1_ ?_|(refine ta_ ?_;intro _)|((fail_if_success (refine ybi rfl ?_));refine ybj rfl ?_ ?_<;>(intro ht;rw [ht];first|replace ht := oet_ ht|replace ht := oef_ ht|skip))|(refine ych ?_;first|(refine ybw rfl ?_ ?_<;>intro ht)|(refine ybx rfl ?_ ?_<;>intro ht)))
    refine cx_region_draw [outR bo v bad] rfl (by kernel_rfl) ?_
    repeat' (refine ycf ?_;(first|(first|(apply ybm;(·(first|(first|(apply qv_eql_pnil<;>rfl)|(apply qv_nilCheck;rfl)|(refine qv_convert_int' rfl hw))|exact tq_));(·rfl);(·rfl);(·(first|exact fun _ s => Hd.sub s (Le.refl h) (fun r hr => List.mem_append_left [_] hr)|exact fun _ s => Hd.sub s (Le.refl h) (fun r hr => List.mem_cons_of_mem _ (List.mem_append_left [_] hr)))))|refine ybl rfl rfl ?_|((fail_if_success (refine ybi rfl ?_));refine ybj rfl ?_ ?_<;>(intro ht;rw [ht];first|replace ht := oet_ ht|replace ht := oef_ ht|skip))|(refine tb_ ?_ ?_ ?_;(·(first|exact ybf|(refine .inl ?_;(first|exact fun _ s => Hd.sub s (Le.refl h) (fun r hr => List.mem_append_left [_] hr)|exact fun _ s => Hd.sub s (Le.refl h) (fun r hr => List.mem_cons_of_mem _ (List.mem_append_left [_] hr))))|exact to_));(·intro _;(first|exact ybf|(refine .inl ?_;(first|exact fun _ s => Hd.sub s (Le.refl h) (fun r hr => List.mem_append_left [_] hr)|exact fun _ s => Hd.sub s (Le.refl h) (fun r hr => List.mem_cons_of_mem _ (List.mem_append_left [_] hr))))|exact to_));intro _)|(first|(refine tqs_ ?_ ?_ ?_;(·(first|exact ybf|(refine .inl ?_;(first|exact fun _ s => Hd.sub s (Le.refl h) (fun r hr => List.mem_append_left [_] hr)|exact fun _ s => Hd.sub s (Le.refl h) (fun r hr => List.mem_cons_of_mem _ (List.mem_append_left [_] hr))))|exact to_));(·(first|exact ybf|(refine .inl ?_;(first|exact fun _ s => Hd.sub s (Le.refl h) (fun r hr => List.mem_append_left [_] hr)|exact fun _ s => Hd.sub s (Le.refl h) (fun r hr => List.mem_cons_of_mem _ (List.mem_append_left [_] hr))))|exact to_))))|(apply ybn;(·(first|(first|(apply qv_eql_pnil<;>rfl)|(apply qv_nilCheck;rfl)|(refine qv_convert_int' rfl hw))|exact tq_));(·rfl);(·rfl);(·rfl);(·(first|exact ybf|(refine .inl ?_;(first|exact fun _ s => Hd.sub s (Le.refl h) (fun r hr => List.mem_append_left [_] hr)|exact fun _ s => Hd.sub s (Le.refl h) (fun r hr => List.mem_cons_of_mem _ (List.mem_append_left [_] hr))))|exact to_))))|refine ycg ?_))
    (refine yco (ycp Tryz.func54 rfl (by kernel_rfl) rfl) (PutHigh_sp n size ⟨hn rfl, by omega⟩ h0 hsz h) rfl rfl rfl ?_ ?_ ?_;(·(first|exact ybf|(refine .inl ?_;(first|exact fun _ s => Hd.sub s (Le.refl h) (fun r hr => List.mem_append_left [_] hr)|exact fun _ s => Hd.sub s (Le.refl h) (fun r hr => List.mem_cons_of_mem _ (List.mem_append_left [_] hr))))|exact to_));(·intro _ _ hle;(first|exact ybf|(refine .inl ?_;(first|exact fun _ s => Hd.sub s (Le.refl h) (fun r hr => List.mem_append_left [_] hr)|exact fun _ s => Hd.sub s (Le.refl h) (fun r hr => List.mem_cons_of_mem _ (List.mem_append_left [_] hr))))|exact to_));intro x px hle)
    refine rx_rowform 0 rfl (fun _ h1 _ => (by rw [List.length_reverse] at h1; omega)) ?_
    rintro g cap rfl
    repeat' (refine ycf ?_;(first|(first|(apply ybm;(·(first|(first|(apply qv_eql_pnil<;>rfl)|(apply qv_nilCheck;rfl)|(refine qv_convert_int' rfl hw))|exact tq_));(·rfl);(·rfl);(·(first|exact fun _ s => Hd.sub s (Le.refl h) (fun r hr => List.mem_append_left [_] hr)|exact fun _ s => Hd.sub s (Le.refl h) (fun r hr => List.mem_cons_of_mem _ (List.mem_append_left [_] hr)))))|refine ybl rfl rfl ?_|((fail_if_success (refine ybi rfl ?_));refine ybj rfl ?_ ?_<;>(intro ht;rw [ht];first|replace ht := oet_ ht|replace ht := oef_ ht|skip))|(refine tb_ ?_ ?_ ?_;(·(first|exact ybf|(refine .inl ?_;(first|exact fun _ s => Hd.sub s (Le.refl h) (fun r hr => List.mem_append_left [_] hr)|exact fun _ s => Hd.sub s (Le.refl h) (fun r hr => List.mem_cons_of_mem _ (List.mem_append_left [_] hr))))|exact to_));(·intro _;(first|exact ybf|(refine .inl ?_;(first|exact fun _ s => Hd.sub s (Le.refl h) (fun r hr => List.mem_append_left [_] hr)|exact fun _ s => Hd.sub s (Le.refl h) (fun r hr => List.mem_cons_of_mem _ (List.mem_append_left [_] hr))))|exact to_));intro _)|(first|(refine tqs_ ?_ ?_ ?_;(·(first|exact ybf|(refine .inl ?_;(first|exact fun _ s => Hd.sub s (Le.refl h) (fun r hr => List.mem_append_left [_] hr)|exact fun _ s => Hd.sub s (Le.refl h) (fun r hr => List.mem_cons_of_mem _ (List.mem_append_left [_] hr))))|exact to_));(·(first|exact ybf|(refine .inl ?_;(first|exact fun _ s => Hd.sub s (Le.refl h) (fun r hr => List.mem_append_left [_] hr)|exact fun _ s => Hd.sub s (Le.refl h) (fun r hr => List.mem_cons_of_mem _ (List.mem_append_left [_] hr))))|exact to_))))|(apply ybn;(·(first|(first|(apply qv_eql_pnil<;>rfl)|(apply qv_nilCheck;rfl)|(refine qv_convert_int' rfl hw))|exact tq_));(·rfl);(·rfl);(·rfl);(·(first|exact ybf|(refine .inl ?_;(first|exact fun _ s => Hd.sub s (Le.refl h) (fun r hr => List.mem_append_left [_] hr)|exact fun _ s => Hd.sub s (Le.refl h) (fun r hr => List.mem_cons_of_mem _ (List.mem_append_left [_] hr))))|exact to_))))|refine ycg ?_))
    refine rx_append (sz := 1) 2 rfl rfl rfl (row_cells 0 rfl) (by rw [bcs_len, Nat.mul_one]) (bcs_one _) rfl (by omega) (by unfold maxLen; rw [List.length_reverse]; omega) (by rw [List.length_reverse]; omega) rfl rfl rfl ?_ ?_ ?_
    · (first|exact ybf|(refine .inl ?_;(first|exact fun _ s => Hd.sub s (Le.refl h) (fun r hr => List.mem_append_left [_] hr)|exact fun _ s => Hd.sub s (Le.refl h) (fun r hr => List.mem_cons_of_mem _ (List.mem_append_left [_] hr))))|exact to_)
    · intro v';(first|exact ybf|(refine .inl ?_;(first|exact fun _ s => Hd.sub s (Le.refl h) (fun r hr => List.mem_append_left [_] hr)|exact fun _ s => Hd.sub s (Le.refl h) (fun r hr => List.mem_cons_of_mem _ (List.mem_append_left [_] hr))))|exact to_)
    intro v2 _
    refine rx_rowform 2 rfl (fun _ h1 _ => (by rw [List.length_reverse] at h1; omega)) ?_
    rintro g2 cap2 rfl
    repeat' (refine ycf ?_;(first|(first|(apply ybm;(·(first|(first|(apply qv_eql_pnil<;>rfl)|(apply qv_nilCheck;rfl)|(refine qv_convert_int' rfl hw))|exact tq_));(·rfl);(·rfl);(·(first|exact fun _ s => Hd.sub s (Le.refl h) (fun r hr => List.mem_append_left [_] hr)|exact fun _ s => Hd.sub s (Le.refl h) (fun r hr => List.mem_cons_of_mem _ (List.mem_append_left [_] hr)))))|refine ybl rfl rfl ?_|((fail_if_success (refine ybi rfl ?_));refine ybj rfl ?_ ?_<;>(intro ht;rw [ht];first|replace ht := oet_ ht|replace ht := oef_ ht|skip))|(refine tb_ ?_ ?_ ?_;(·(first|exact ybf|(refine .inl ?_;(first|exact fun _ s => Hd.sub s (Le.refl h) (fun r hr => List.mem_append_left [_] hr)|exact fun _ s => Hd.sub s (Le.refl h) (fun r hr => List.mem_cons_of_mem _ (List.mem_append_left [_] hr))))|exact to_));(·intro _;(first|exact ybf|(refine .inl ?_;(first|exact fun _ s => Hd.sub s (Le.refl h) (fun r hr => List.mem_append_left [_] hr)|exact fun _ s => Hd.sub s (Le.refl h) (fun r hr => List.mem_cons_of_mem _ (List.mem_append_left [_] hr))))|exact to_));intro _)|(first|(refine tqs_ ?_ ?_ ?_;(·(first|exact ybf|(refine .inl ?_;(first|exact fun _ s => Hd.sub s (Le.refl h) (fun r hr => List.mem_append_left [_] hr)|exact fun _ s => Hd.sub s (Le.refl h) (fun r hr => List.mem_cons_of_mem _ (List.mem_append_left [_] hr))))|exact to_));(·(first|exact ybf|(refine .inl ?_;(first|exact fun _ s => Hd.sub s (Le.refl h) (fun r hr => List.mem_append_left [_] hr)|exact fun _ s => Hd.sub s (Le.refl h) (fun r hr => List.mem_cons_of_mem _ (List.mem_append_left [_] hr))))|exact to_))))|(apply ybn;(·(first|(first|(apply qv_eql_pnil<;>rfl)|(apply qv_nilCheck;rfl)|(refine qv_convert_int' rfl hw))|exact tq_));(·rfl);(·rfl);(·rfl);(·(first|exact ybf|(refine .inl ?_;(first|exact fun _ s => Hd.sub s (Le.refl h) (fun r hr => List.mem_append_left [_] hr)|exact fun _ s => Hd.sub s (Le.refl h) (fun r hr => List.mem_cons_of_mem _ (List.mem_append_left [_] hr))))|exact to_))))|refine ycg ?_))
    repeat' (first|(refine ycf ?_;apply ybk;(·first|(first|(apply qv_eql_pnil<;>rfl)|(apply qv_nilCheck;rfl)|(refine qv_convert_int' rfl hw)));(·rfl);(·rfl))|refine t1_ ?_|(refine ta_ ?_;intro _)|((fail_if_success (refine ybi rfl ?_));refine ybj rfl ?_ ?_<;>(intro ht;rw [ht];first|replace ht := oet_ ht|replace ht := oef_ ht|skip))|(refine ych ?_;first|(refine ybw rfl ?_ ?_<;>intro ht)|(refine ybx rfl ?_ ?_<;>intro ht)))
    refine nx_ret1 rfl (rv_tmp rfl) (fun w' s' => ⟨.slice (some ⟨g2, 0, none⟩) (l.length + (putLow size n).reverse.length) cap2, rfl, ?_, trivial⟩)
    have s2 := s'.tl
    rw [Bool.not_true, Bool.or_false, if_pos rfl]
    unfold rowB
    rw [List.length_append, bcs_app]
    exact s2
theorem OutNum_sp (bo : Nat) (v : Value) (l : List Int) (bad : Bool) (n : Int) (h0 : 0 ≤ n) (hn2 : n < 9223372036854775808) (hl : l.length ≤ 1000000) (h : View) (w : World) (s : St ⟨w, h, doms [outR bo v bad, rowB v l]⟩ h [outR bo v bad, rowB v l] w) :
    Calls Tryz.prog 19 [.pointer (some ⟨bo, 0, none⟩), .int .i64 n].toArray w fun e w' => ∃ x : Value, e = .returned (.pointer (some ⟨bo, 0, none⟩)) ∧
      St ⟨w, h, doms [outR bo v bad, rowB v l]⟩ h [outR bo x bad, rowB x (l ++ (putLow 8 n).reverse)] w' ∧ True := by
  refine calls_enter Tryz.func19 rfl Tryz.ntmps19 rfl s ?_
  have ht0 : decide (0 ≤ n) = true := decide_eq_true h0
  repeat' (first|(refine ycf ?_;apply ybk;(·first|(first|(apply qv_eql_pnil<;>rfl)|(apply qv_nilCheck;rfl)|(refine qv_convert_int' rfl hw)));(·rfl);(·rfl))|refine t1_ ?_|(refine ta_ ?_;intro _)|((fail_if_success (refine ybi rfl ?_));refine ybj rfl ?_ ?_<;>(intro ht;rw [ht];first|replace ht := oet_ ht|replace ht := oef_ ht|skip))|(refine ych ?_;first|(refine ybw rfl ?_ ?_<;>intro ht)|(refine ybx rfl ?_ ?_<;>intro ht)))
  rw [ht0]
  (refine rx_call_2 (ycp Tryz.func35 rfl (by kernel_rfl) rfl) (put_sp bo v l bad n 8 true (fun _ => h0) hn2 (by omega) (by omega) hl h) rfl rfl rfl ?_ ?_ ?_;(·(first|exact ybf|(refine .inl ?_;(first|exact fun _ s => Hd.sub s (Le.refl h) (fun r hr => List.mem_append_left [_] hr)|exact fun _ s => Hd.sub s (Le.refl h) (fun r hr => List.mem_cons_of_mem _ (List.mem_append_left [_] hr))))|exact to_));(·intro _ _ hle;(first|exact ybf|(refine .inl ?_;(first|exact fun _ s => Hd.sub s (Le.refl h) (fun r hr => List.mem_append_left [_] hr)|exact fun _ s => Hd.sub s (Le.refl h) (fun r hr => List.mem_cons_of_mem _ (List.mem_append_left [_] hr))))|exact to_));intro x px hle)
  repeat' (first|(refine ycf ?_;apply ybk;(·first|(first|(apply qv_eql_pnil<;>rfl)|(apply qv_nilCheck;rfl)|(refine qv_convert_int' rfl hw)));(·rfl);(·rfl))|refine t1_ ?_|(refine ta_ ?_;intro _)|((fail_if_success (refine ybi rfl ?_));refine ybj rfl ?_ ?_<;>(intro ht;rw [ht];first|replace ht := oet_ ht|replace ht := oef_ ht|skip))|(refine ych ?_;first|(refine ybw rfl ?_ ?_<;>intro ht)|(refine ybx rfl ?_ ?_<;>intro ht)))
  refine nx_ret1 rfl (rv_tmp rfl) (fun w' s' => ⟨x, rfl, ?_, trivial⟩)
  rw [Bool.not_true, Bool.or_false, if_pos rfl] at s'
  exact s'
theorem OutSmall_sp (bo : Nat) (v : Value) (l : List Int) (bad : Bool) (n : Int) (h0 : 0 ≤ n) (hn2 : n ≤ 255) (hl : l.length ≤ 1000000) (h : View) (w : World) (s : St ⟨w, h, doms [outR bo v bad, rowB v l]⟩ h [outR bo v bad, rowB v l] w) :
    Calls Tryz.prog 37 [.pointer (some ⟨bo, 0, none⟩), .int .i64 n].toArray w fun e w' => ∃ x : Value, e = .returned (.pointer (some ⟨bo, 0, none⟩)) ∧
      St ⟨w, h, doms [outR bo v bad, rowB v l]⟩ h [outR bo x bad, rowB x (l ++ (putLow 1 n).reverse)] w' ∧ True := by
  refine calls_enter Tryz.func37 rfl Tryz.ntmps37 rfl s ?_
  have ht0 : decide (0 ≤ n ∧ n ≤ 255) = true := decide_eq_true ⟨h0, hn2⟩
  repeat' (first|(refine ycf ?_;apply ybk;(·first|(first|(apply qv_eql_pnil<;>rfl)|(apply qv_nilCheck;rfl)|(refine qv_convert_int' rfl hw)));(·rfl);(·rfl))|refine t1_ ?_|(refine ta_ ?_;intro _)|((fail_if_success (refine ybi rfl ?_));refine ybj rfl ?_ ?_<;>(intro ht;rw [ht];first|replace ht := oet_ ht|replace ht := oef_ ht|skip))|(refine ych ?_;first|(refine ybw rfl ?_ ?_<;>intro ht)|(refine ybx rfl ?_ ?_<;>intro ht)))
  (refine yco (ycp Tryz.func55 rfl (by kernel_rfl) rfl) (Byte_sp n h) rfl rfl rfl ?_ ?_ ?_;(·(first|exact ybf|(refine .inl ?_;(first|exact fun _ s => Hd.sub s (Le.refl h) (fun r hr => List.mem_append_left [_] hr)|exact fun _ s => Hd.sub s (Le.refl h) (fun r hr => List.mem_cons_of_mem _ (List.mem_append_left [_] hr))))|exact to_));(·intro _ _ hle;(first|exact ybf|(refine .inl ?_;(first|exact fun _ s => Hd.sub s (Le.refl h) (fun r hr => List.mem_append_left [_] hr)|exact fun _ s => Hd.sub s (Le.refl h) (fun r hr => List.mem_cons_of_mem _ (List.mem_append_left [_] hr))))|exact to_));intro x px hle)
  repeat' (first|(refine ycf ?_;apply ybk;(·first|(first|(apply qv_eql_pnil<;>rfl)|(apply qv_nilCheck;rfl)|(refine qv_convert_int' rfl hw)));(·rfl);(·rfl))|refine t1_ ?_|(refine ta_ ?_;intro _)|((fail_if_success (refine ybi rfl ?_));refine ybj rfl ?_ ?_<;>(intro ht;rw [ht];first|replace ht := oet_ ht|replace ht := oef_ ht|skip))|(refine ych ?_;first|(refine ybw rfl ?_ ?_<;>intro ht)|(refine ybx rfl ?_ ?_<;>intro ht)))
  rw [ht0]
  (refine rx_call_2 (ycp Tryz.func35 rfl (by kernel_rfl) rfl) (put_sp bo v l bad n 1 true (fun _ => h0) (by omega) (by omega) (by omega) hl h) rfl rfl rfl ?_ ?_ ?_;(·(first|exact ybf|(refine .inl ?_;(first|exact fun _ s => Hd.sub s (Le.refl h) (fun r hr => List.mem_append_left [_] hr)|exact fun _ s => Hd.sub s (Le.refl h) (fun r hr => List.mem_cons_of_mem _ (List.mem_append_left [_] hr))))|exact to_));(·intro _ _ hle;(first|exact ybf|(refine .inl ?_;(first|exact fun _ s => Hd.sub s (Le.refl h) (fun r hr => List.mem_append_left [_] hr)|exact fun _ s => Hd.sub s (Le.refl h) (fun r hr => List.mem_cons_of_mem _ (List.mem_append_left [_] hr))))|exact to_));intro x px hle)
  repeat' (first|(refine ycf ?_;apply ybk;(·first|(first|(apply qv_eql_pnil<;>rfl)|(apply qv_nilCheck;rfl)|(refine qv_convert_int' rfl hw)));(·rfl);(·rfl))|refine t1_ ?_|(refine ta_ ?_;intro _)|((fail_if_success (refine ybi rfl ?_));refine ybj rfl ?_ ?_<;>(intro ht;rw [ht];first|replace ht := oet_ ht|replace ht := oef_ ht|skip))|(refine ych ?_;first|(refine ybw rfl ?_ ?_<;>intro ht)|(refine ybx rfl ?_ ?_<;>intro ht)))
  refine nx_ret1 rfl (rv_tmp rfl) (fun w' s' => ⟨x, rfl, ?_, trivial⟩)
  rw [Bool.not_true, Bool.or_false, if_pos rfl] at s'
  exact s'
theorem BClone_sp (sv : Value) (l : List Int) (h : View) (hs : Bs8 h sv l) (hl : l.length ≤ 140737488355328) (w : World) (s : St ⟨w, h, []⟩ h [] w) :
    Calls Tryz.prog 40 [sv].toArray w fun e w' => ∃ v, e = .returned v ∧ St ⟨w, h, []⟩ h [rowB v l] w' ∧ True := by
  obtain ⟨_, ad, cap, rfl, hcap, _⟩ := id hs
  refine calls_enter Tryz.func40 rfl Tryz.ntmps40 rfl s ?_
  repeat' (first|(refine ycf ?_;apply ybk;(·first|(first|(apply qv_eql_slnil<;>rfl)));(·rfl);(·rfl))|refine t1_ ?_|(refine ta_ ?_;intro _)|((fail_if_success (refine ybi rfl ?_));refine ybj rfl ?_ ?_<;>(intro ht;rw [ht];first|replace ht := oet_ ht|replace ht := oef_ ht|skip))|(refine ych ?_;first|(refine ybw rfl ?_ ?_<;>intro ht)|(refine ybx rfl ?_ ?_<;>intro ht)))
  · cases ad with
    | some ad => cases ht
    | none =>
      have h0 : l = [] := by
        obtain ⟨h1, ad', cap', h2, h3, h4⟩ := hs
        cases h2
        rcases h4 with h4 | ⟨b, o, cs, e, fz, q1, _⟩
        · have := congrArg List.length h4
          rw [bcs_len] at this
          exact List.eq_nil_of_length_eq_zero this
        · cases q1
      subst h0
      refine nx_ret1 rfl (rv_tmp rfl) (fun w' s' => ⟨_, rfl, ?_, trivial⟩)
      exact s'.rowNil _ _
  · refine yba ma_buildSlice0 rfl rfl rfl ybf (fun _ => ybf) ?_
    intro b
    refine rx_rowOf 1 0 0 (by omega) (by unfold maxLen; omega) rfl ?_
    repeat' (first|(refine ycf ?_;apply ybk;(·first|(first|(apply qv_eql_slnil<;>rfl)));(·rfl);(·rfl))|refine t1_ ?_|(refine ta_ ?_;intro _)|((fail_if_success (refine ybi rfl ?_));refine ybj rfl ?_ ?_<;>(intro ht;rw [ht];first|replace ht := oet_ ht|replace ht := oef_ ht|skip))|(refine ych ?_;first|(refine ybw rfl ?_ ?_<;>intro ht)|(refine ybx rfl ?_ ?_<;>intro ht)))
    refine rx_append_sc (sz := 1) 0 rfl rfl rfl hs (bcs_one l) rfl (by omega) (by unfold maxLen; omega) (by omega) rfl rfl rfl ybf (fun _ => ybf) ?_
    intro v' _
    repeat' (first|(refine ycf ?_;apply ybk;(·first|(first|(apply qv_eql_slnil<;>rfl)));(·rfl);(·rfl))|refine t1_ ?_|(refine ta_ ?_;intro _)|((fail_if_success (refine ybi rfl ?_));refine ybj rfl ?_ ?_<;>(intro ht;rw [ht];first|replace ht := oet_ ht|replace ht := oef_ ht|skip))|(refine ych ?_;first|(refine ybw rfl ?_ ?_<;>intro ht)|(refine ybx rfl ?_ ?_<;>intro ht)))
    refine nx_ret1 rfl (rv_tmp rfl) (fun w' s' => ⟨_, rfl, ?_, trivial⟩)
    simpa using s'
theorem Done_sp (bo : Nat) (v : Value) (l : List Int) (hl : l.length ≤ 1000000) (h : View) (w : World) (s : St ⟨w, h, doms [outR bo v false, rowB v l]⟩ h [outR bo v false, rowB v l] w) :
    Calls Tryz.prog 22 [.pointer (some ⟨bo, 0, none⟩)].toArray w fun e w' => ∃ x : Value, e = .returned (.tuple #[x, .int .i64 0]) ∧
      St ⟨w, h, doms [outR bo v false, rowB v l]⟩ h [rowB x l, outR bo v false, rowB v l] w' ∧ True := by
  refine calls_enter Tryz.func22 rfl Tryz.ntmps22 rfl s ?_
  repeat' (first|(refine ycf ?_;apply ybk;(·first|(first|(apply qv_eql_pnil<;>rfl)|(apply qv_nilCheck;rfl)));(·rfl);(·rfl))|refine t1_ ?_|(refine ta_ ?_;intro _)|((fail_if_success (refine ybi rfl ?_));refine ybj rfl ?_ ?_<;>(intro ht;rw [ht];first|replace ht := oet_ ht|replace ht := oef_ ht|skip))|(refine ych ?_;first|(refine ybw rfl ?_ ?_<;>intro ht)|(refine ybx rfl ?_ ?_<;>intro ht)))
  refine rx_call_lendx (u := fun x : Value => x) (LL := fun x => [rowB x l]) 1 (ycp Tryz.func40 rfl (by kernel_rfl) rfl) rfl (fun h' _ hsc w s => BClone_sp v l h' hsc (by omega) w s) rfl rfl rfl ybf (fun _ => ybf) ?_
  intro x
  repeat' (first|(refine ycf ?_;apply ybk;(·first|(first|(apply qv_eql_pnil<;>rfl)|(apply qv_nilCheck;rfl)));(·rfl);(·rfl))|refine t1_ ?_|(refine ta_ ?_;intro _)|((fail_if_success (refine ybi rfl ?_));refine ybj rfl ?_ ?_<;>(intro ht;rw [ht];first|replace ht := oet_ ht|replace ht := oef_ ht|skip))|(refine ych ?_;first|(refine ybw rfl ?_ ?_<;>intro ht)|(refine ybx rfl ?_ ?_<;>intro ht)))
  exact nx_ret2 rfl (rv_tmp rfl) (rv_tmp rfl) (fun w' s' => ⟨x, rfl, s', trivial⟩)
end Go.Proofs.YtndpclcbobgdlaaGreatDoor
end

section
namespace Go.Ck
open Go
section
variable {P : Program} {ops : Array Oper} {S : World → Prop}
structure InvR (ops : Array Oper) (rk : Nat → Nat) (listed : Array Bool) (prs : List (Nat × Oper)) : Prop where
  pr : ∀ p ∈ prs, ops[p.1]? = some p.2
  sorted : prs.Pairwise (fun p q => rk p.1 < rk q.1)
  left : ∀ i, i < ops.size → (listed.getD i true = false ↔ ∃ o, (i, o) ∈ prs)
  closed : ∀ i o, ops[i]? = some o → listed.getD i false = true → ∀ e ∈ o.after, Region.binds .any e = true → listed.getD e.on false = true
  size : listed.size = ops.size
theorem InvR.step {rk : Nat → Nat} {listed : Array Bool} {l1 l2 : List (Nat × Oper)} {i : Nat} {o : Oper} (inv : InvR ops rk listed (l1 ++ (i, o) :: l2)) (hr : i ∈ Region.ready .any ops listed) :
    InvR ops rk (listed.setIfInBounds i true) (l1 ++ l2) := by
  have hio : ops[i]? = some o := inv.pr (i, o) (by simp)
  have hlt : i < ops.size := (Array.getElem?_eq_some_iff.1 hio).1
  obtain ⟨hun, o', ho', hall⟩ := mem_ready.1 hr
  have hoo : o' = o := by rw [hio] at ho'; cases ho'; rfl
  subst hoo
  refine ⟨fun p hp => inv.pr p ?_, ?_, fun k hk => ?_, fun k ok hok hl e he hb => ?_, by simp [inv.size]⟩
  · rcases List.mem_append.1 hp with hp | hp
    · exact List.mem_append_left _ hp
    · exact List.mem_append_right _ (List.mem_cons_of_mem _ hp)
  · exact inv.sorted.sublist (List.Sublist.append_left (List.sublist_cons_self _ _) _)
  · by_cases hki : i = k
    · subst hki
      have : (listed.setIfInBounds i true).getD i true = true := by simp [inv.size, hlt]
      rw [this]
      simp only [Bool.true_eq_false, false_iff, not_exists]
      intro o2 hm
      have hs := inv.sorted
      rw [List.pairwise_append] at hs
      obtain ⟨_, s2, s3⟩ := hs
      rcases List.mem_append.1 hm with hm | hm
      · have := s3 _ hm (i, o') (List.mem_cons_self ..)
        simp at this
      · have := (List.pairwise_cons.1 s2).1 _ hm
        simp at this
    · rw [getD_set_ne true hki, inv.left k hk]
      constructor
      · rintro ⟨o2, hm⟩
        refine ⟨o2, ?_⟩
        rcases List.mem_append.1 hm with hm | hm
        · exact List.mem_append_left _ hm
        · rcases List.mem_cons.1 hm with hm | hm
          · cases hm; exact absurd rfl hki
          · exact List.mem_append_right _ hm
      · rintro ⟨o2, hm⟩
        refine ⟨o2, ?_⟩
        rcases List.mem_append.1 hm with hm | hm
        · exact List.mem_append_left _ hm
        · exact List.mem_append_right _ (List.mem_cons_of_mem _ hm)
  · by_cases hki : i = k
    · subst hki
      have : ok = o' := by rw [hio] at hok; cases hok; rfl
      subst this
      exact getD_set_true (hall e he hb)
    · rw [getD_set_ne false hki] at hl
      exact getD_set_true (inv.closed k ok hok hl e he hb)
section
variable {lo bar : Nat → Bool} {ms : List Nat} {rk : Nat → Nat} {exc : Nat → Nat → Bool}
end
def nthO : List Oper → Nat → Oper
  | [], _ => default
  | o :: _, 0 => o
  | _ :: l, k + 1 => nthO l k
def pickL (ops : List Oper) : List Nat → List (Nat × Oper)
  | [] => []
  | i :: l => (i, nthO ops i) :: pickL ops l
theorem pickL_mem {ops : List Oper} : ∀ {l : List Nat} {p : Nat × Oper}, p ∈ pickL ops l ↔ p.1 ∈ l ∧ p.2 = nthO ops p.1
  | [], p => by simp [pickL]
  | i :: l, p => by
    simp only [pickL, List.mem_cons, pickL_mem (l := l)]
    constructor
    · rintro (rfl | ⟨h1, h2⟩)
      · exact ⟨.inl rfl, rfl⟩
      · exact ⟨.inr h1, h2⟩
    · rintro ⟨rfl | h1, h2⟩
      · exact .inl (by cases p; simp_all)
      · exact .inr ⟨h1, h2⟩
theorem pickL_append {ops : List Oper} : ∀ (l m : List Nat), pickL ops (l ++ m) = pickL ops l ++ pickL ops m
  | [], m => rfl
  | i :: l, m => by simp [pickL, pickL_append l m]
theorem pickL_pair {ops : List Oper} {r : Nat → Nat → Prop} : ∀ {l : List Nat}, l.Pairwise r → (pickL ops l).Pairwise (fun p q => r p.1 q.1)
  | [], _ => List.Pairwise.nil
  | i :: l, h => by
    have h := List.pairwise_cons.1 h
    exact List.Pairwise.cons (fun p hp => h.1 _ (pickL_mem.1 hp).1) (pickL_pair h.2)
end
section
variable {P : Program} {n : Nat} {K : Bs} {F : List (Nat × Value)} {h : View} {L : List Res} {Q : Exit → Act → World → Prop}
end
end Go.Ck
end

section
namespace Go.Ck
open Go
section
variable {P : Program} {n : Nat} {K : Bs} {F : List (Nat × Value)} {h : View} {L : List Res} {Q : Exit → Act → World → Prop}
theorem St.put {K : Bs} {h : View} {b : Nat} {o o' : Obj} {L : List Res} {w : World} (s : St K h (Res.blk b o :: L) w) : St K h (Res.blk b o' :: L) (w.putObj b o') := by
  have hlt : b < w.heap.size := (Res.blk b o).lt w (s.hd.own _ (List.mem_cons_self ..)) b (List.mem_singleton.2 rfl)
  exact s.write rfl rfl rfl (Nat.le_refl _) (by simp) (fun k hk => World.putObj_heap_other hk) (World.putObj_heap_same hlt)
def LI (P : Program) (n : Nat) (K : Bs) (ops : Array Oper) (rs : List Oper) (F : List (Nat × Value)) (h : View) (L : List Res) (Q : Exit → Act → World → Prop) : Prop :=
  ∀ a w, Fr n F a → St K h L w → wpListIn Fence.wide 0 P ops Q rs a w
end
end Go.Ck
end

section
namespace Go.Proofs.YtndpclcbobgdlaaGreatDoor
open Go Go.Ck
abbrev Dt := Int × Int
def dcs (d : Dt) : List Value := [.int .i64 d.1, .int .i64 d.2]
def rightB (d : Dt) : Bool := decide (1 ≤ d.1) && decide (d.1 ≤ 16) && decide (1 ≤ d.2) && decide (d.2 ≤ 1099511627776)
def cmpI (x y : Int) : Int := if x < y then -1 else if y < x then 1 else 0
def ordD (a b : Dt) : Int := if cmpI a.1 b.1 ≠ 0 then cmpI a.1 b.1 else cmpI a.2 b.2
end Go.Proofs.YtndpclcbobgdlaaGreatDoor
end

section
namespace Go.Proofs.YtndpclcbobgdlaaGreatDoor
open Go Go.Ck
abbrev Ds (h : View) (v : Value) (l : List Dt) : Prop := Sc h 2 v l.length (l.flatMap dcs)
def up (u : List Int) : List Value := u.map (Value.int .i64)
def cxc (u : List Int) (mv : Value) : List Value := up u ++ [mv]
def cxv (u : List Int) (mv : Value) : Value := .agg (cxc u mv).toArray
structure Cx (h : View) (v : Value) (u : List Int) (l : List Dt) : Prop where
  len : u.length = 16
  val : ∃ mv, v = cxv u mv ∧ Ds h mv l
end Go.Proofs.YtndpclcbobgdlaaGreatDoor
end

section
namespace Go.Proofs.YtndpclcbobgdlaaGreatDoor
open Go Go.Ck
set_option maxHeartbeats 1000000
def uD (u : List Int) (d : Dt) : Int := u.getD (d.1 - 1).toNat 0
def hasC (u : List Int) (l : List Dt) (d : Dt) : Bool := decide (d.2 ≤ uD u d) || decide (d ∈ l)
end Go.Proofs.YtndpclcbobgdlaaGreatDoor
end

section
namespace Go.Proofs.YtndpclcbobgdlaaGreatDoor
open Go Go.Ck
set_option maxHeartbeats 4000000
theorem Ds.mono {h h' : View} {v : Value} {l : List Dt} (s : Ds h v l) (hl : Le h h') : Ds h' v l := Sc.mono s hl
theorem Cx.mono {h h' : View} {v : Value} {u : List Int} {l : List Dt} (c : Cx h v u l) (hl : Le h h') : Cx h' v u l := ⟨c.len, by obtain ⟨mv, h1, h2⟩ := c.val; exact ⟨mv, h1, h2.mono hl⟩⟩
end Go.Proofs.YtndpclcbobgdlaaGreatDoor
end

section
namespace Go.Proofs.YtndpclcbobgdlaaGreatDoor
open Go Go.Ck
set_option maxHeartbeats 1000000
def zeroU : List Int := List.replicate 16 0
end Go.Proofs.YtndpclcbobgdlaaGreatDoor
end

section
namespace Go.Proofs.YtndpclcbobgdlaaGreatDoor
open Go Go.Ck
set_option maxHeartbeats 1000000
theorem sc_take {h : View} {k m cap j : Nat} {ad : Option Addr} {xs : List Value} (s : Sc h k (.slice ad m cap) m xs) (hj : j ≤ m) : Sc h k (.slice ad j cap) j (xs.take (j * k)) := by
  obtain ⟨h1, ad', cap', h2, h3, h4⟩ := s
  cases h2
  refine ⟨?_, ad, cap, rfl, by omega, ?_⟩
  · rw [List.length_take, h1]
    exact Nat.min_eq_left (Nat.mul_le_mul_right k hj)
  · rcases h4 with rfl | ⟨b, o, cs, e, fz, q1, q2, q3⟩
    · exact .inl (by simp)
    · refine .inr ⟨b, o, cs, e, fz, q1, q2, fun i u hi => q3 i u ?_⟩
      rw [List.getElem?_take] at hi
      split at hi
      · exact hi
      · cases hi
end Go.Proofs.YtndpclcbobgdlaaGreatDoor
end

section
namespace Go.Proofs.YtndpclcbobgdlaaGreatDoor
open Go Go.Ck
set_option maxHeartbeats 2000000
def num8 (x : Int) : List Int := (putLow 8 x).reverse
def num1 (x : Int) : List Int := (putLow 1 x).reverse
end Go.Proofs.YtndpclcbobgdlaaGreatDoor
end

section
namespace Go.Proofs.YtndpclcbobgdlaaGreatDoor
open Go Go.Ck
set_option maxHeartbeats 2000000
def bstr (l : List Int) : ByteArray := ⟨(l.map fun n => UInt8.ofNat n.toNat).toArray⟩
theorem bstr_app (l m : List Int) : bstr l ++ bstr m = bstr (l ++ m) := by
  apply ByteArray.ext
  simp [bstr]
theorem foldl_push : ∀ (l : List Int) (r : ByteArray), l.foldl (fun r n => r.push (UInt8.ofNat n.toNat)) r = ⟨r.data ++ (l.map fun n => UInt8.ofNat n.toNat).toArray⟩
  | [], r => by simp
  | b :: l, r => by
    simp only [List.foldl_cons]
    rw [foldl_push l]
    simp [ByteArray.push]
section
variable {P : Program} {n : Nat} {F : List (Nat × Value)} {h : View} {L : List Res} {dst : Option Nat} {ty : Nat} {pos : String} {af : Array Edge} {gd : Option (Nat × Bool)}
theorem qv_str_of {S D e : Nat} {x : Operand} {ad : Addr} {cap : Nat} {l : List Int} [tS : TyU P S (.slice e)] [te : TyU P e (.int .u8)] [tD : TyU P D .string] (hx : ev F x = some (.slice (some ad) l.length cap)) (hc : Cells h L ad (bcs l)) :
    QV P n F h L ⟨dst, .convert S D x, ty, pos, af, gd⟩ (.string (bstr l)) := by
  refine .mk fun a w f s => ?_
  have hl := run_loadCells_cells (P := P) (w := w) (ad := ad) (vs := bcs l) (hc w s)
  rw [bcs_len] at hl
  have h1 := run_convert_bytes_string (P := P) w S D e (some ad) l.length cap tS.u te.u tD.u
  rw [run_bytesToString w ad l.length cap l hl, foldl_push] at h1
  have h2 : (⟨ByteArray.empty.data ++ (l.map fun n => UInt8.ofNat n.toNat).toArray⟩ : ByteArray) = bstr l := by
    have he0 : ByteArray.empty.data = #[] := rfl
    rw [he0, Array.empty_append]
    rfl
  rw [h2] at h1
  simp only [execOp, f.ev hx, Sem.run_bind, h1]
  rfl
theorem qv_str_add {T T' : Nat} {x y : Operand} {a b c : ByteArray} (hx : ev F x = some (.string a)) (hy : ev F y = some (.string b)) (hs : a ++ b = c) (hb : a.size + b.size < 1000000) :
    QV P n F h L ⟨dst, .binOp .add T x y T', ty, pos, af, gd⟩ (.string c) := by
  subst hs
  refine .mk fun ac w f s => ?_
  have hg : (eqGuard .add T x y (.string a) (.string b)).run P w = .ok () w := by simp [eqGuard]
  simp only [execOp, f.ev hx, f.ev hy, Sem.run_bind, hg, Result.andThen_ok, binOp, Op.stringOp]
  have hmax : IntKind.i64.max = 9223372036854775807 := by decide
  rw [if_neg (by rw [hmax]; omega)]
  rfl
theorem qv_quo {T T' : Nat} {x y : Operand} {k : IntKind} {i j r : Int} (hx : ev F x = some (.int k i)) (hy : ev F y = some (.int k j)) (hj : j ≠ 0) (hr : k.wrap (i.tdiv j) = r) :
    QV P n F h L ⟨dst, .binOp .quo T x y T', ty, pos, af, gd⟩ (.int k r) := by
  subst hr
  exact .mk fun a w f s => by simp [execOp, f.ev hx, f.ev hy, run_guard_int, binOp, Op.intDiv, hj]
theorem qv_rem' {T T' : Nat} {x y : Operand} {k : IntKind} {i j r : Int} (hx : ev F x = some (.int k i)) (hy : ev F y = some (.int k j)) (hj : j ≠ 0) (hr : i.tmod j = r) :
    QV P n F h L ⟨dst, .binOp .rem T x y T', ty, pos, af, gd⟩ (.int k r) := by subst hr; exact qv_rem hx hy hj
theorem qv_eql_str {T T' : Nat} {x y : Operand} {a b : ByteArray} {t : Bool} (hx : ev F x = some (.string a)) (hy : ev F y = some (.string b)) (ht : (a.toList == b.toList) = t) :
    QV P n F h L ⟨dst, .binOp .eql T x y T', ty, pos, af, gd⟩ (.bool t) := by
  subst ht
  refine .mk fun ac w f s => ?_
  have hg : (eqGuard .eql T x y (.string a) (.string b)).run P w = .ok () w := by simp [eqGuard]
  simp only [execOp, f.ev hx, f.ev hy, Sem.run_bind, hg, Result.andThen_ok, binOp, Op.stringOp]
  rfl
end
section
variable {P : Program} {n : Nat} {F : List (Nat × Value)} {h : View} {L : List Res} {dst : Option Nat} {ty : Nat} {pos : String} {af : Array Edge} {gd : Option (Nat × Bool)}
theorem qv_str_none {S D e : Nat} {x : Operand} {len cap : Nat} [tS : TyU P S (.slice e)] [te : TyU P e (.int .u8)] [tD : TyU P D .string] (hx : ev F x = some (.slice none len cap)) :
    QV P n F h L ⟨dst, .convert S D x, ty, pos, af, gd⟩ (.string (bstr [])) := by
  refine .mk fun a w f s => ?_
  have h1 := run_convert_bytes_string (P := P) w S D e none len cap tS.u te.u tD.u
  have h2 : (Conv.bytesToString (.slice none len cap)).run P w = .ok (.string (bstr [])) w := by
    unfold Conv.bytesToString
    rfl
  rw [h2] at h1
  simp only [execOp, f.ev hx, Sem.run_bind, h1]
  rfl
theorem qv_str_bs {S D e : Nat} {x : Operand} {v : Value} {l : List Int} [tS : TyU P S (.slice e)] [te : TyU P e (.int .u8)] [tD : TyU P D .string] (hx : ev F x = some v) (hs : Bs8 h v l) :
    QV P n F h L ⟨dst, .convert S D x, ty, pos, af, gd⟩ (.string (bstr l)) := by
  obtain ⟨_, ad, cap, rfl, _, _⟩ := id hs
  rcases hs.src (L := L) with ⟨hn, _⟩ | ⟨b, o, rfl, hc⟩
  · have hl : l = [] := by simpa [bcs] using hn
    subst hl
    cases ad with
    | none => exact qv_str_none hx
    | some ad => exact qv_str_of (l := []) hx (fun w _ j u hj => by simp [bcs] at hj)
  · exact qv_str_of hx hc
end
theorem bstr_size (l : List Int) : (bstr l).size = l.length := by simp [bstr, ByteArray.size]
theorem One_sp (n : Int) (h0 : 0 ≤ n) (h1 : n ≤ 255) (h : View) (w : World) (s : St ⟨w, h, []⟩ h [] w) :
    Calls Tryz.prog 34 [.int .i64 n].toArray w fun e w' => e = .returned (.string (bstr (num1 n))) ∧ St ⟨w, h, []⟩ h [] w' := by
  have hw : IntKind.u8.wrap n = n % 256 := wrap_u8 n
  have hn : num1 n = [n % 256] := rfl
  rw [hn]
  refine calls_enter Tryz.func34 rfl Tryz.ntmps34 rfl s ?_
  repeat' (first|(refine ycf ?_;apply ybk;(·first|(first|(refine qv_convert_int' rfl hw)|(refine qv_str_of (l := [n % 256]) rfl (yaz 0 rfl))));(·rfl);(·rfl))|refine t1_ ?_|(refine ta_ ?_;intro _)|((fail_if_success (refine ybi rfl ?_));refine ybj rfl ?_ ?_<;>(intro ht;rw [ht];first|replace ht := oet_ ht|replace ht := oef_ ht|skip))|(refine ych ?_;first|(refine ybw rfl ?_ ?_<;>intro ht)|(refine ybx rfl ?_ ?_<;>intro ht)))
  exact nx_ret1 rfl (rv_tmp rfl) (fun w' s' => ⟨rfl, s'.nil⟩)
theorem Put_sp (x : Int) (m : Nat) (hx : 0 ≤ x ∧ x < 18446744073709551616) (hm : m ≤ 64) (h : View) (w : World) (s : St ⟨w, h, []⟩ h [] w) :
    Calls Tryz.prog 32 [.int .u64 x, .int .i64 m, .bool true].toArray w fun e w' => e = .returned (.string (bstr (putLow m x).reverse)) ∧ St ⟨w, h, []⟩ h [] w' := by
  refine calls_enter Tryz.func32 rfl Tryz.ntmps32 rfl s ?_
  repeat' (first|(refine ycf ?_;apply ybk;(·first|(first|(refine qv_convert_int' rfl hw)|(refine qv_str_of (l := [n % 256]) rfl (yaz 0 rfl))));(·rfl);(·rfl))|refine t1_ ?_|(refine ta_ ?_;intro _)|((fail_if_success (refine ybi rfl ?_));refine ybj rfl ?_ ?_<;>(intro ht;rw [ht];first|replace ht := oet_ ht|replace ht := oef_ ht|skip))|(refine ych ?_;first|(refine ybw rfl ?_ ?_<;>intro ht)|(refine ybx rfl ?_ ?_<;>intro ht)))
  refine cx_loop (X := Nat) (fun k => [(0, .int .u64 (x / 256 ^ k)), (1, .int .i64 m), (2, .bool true), (7, .string (bstr (putLow k x).reverse)), (8, .int .i64 k)]) (fun _ => h) (fun _ => []) (fun k => k ≤ m) (fun k => m - k) 0 (Nat.zero_le _) ?_ (fun _ s => s) ?_
  · refine Sub.cons rfl ?_ ts_
    simp
  intro k hk
  by_cases hkm : k < m
  · have hb := divp_bd (k := k) hx
    have hr : (x / 256 ^ k).tmod 256 = x / 256 ^ k % 256 := Int.tmod_eq_emod_of_nonneg hb.1
    have hw : IntKind.u8.wrap (x / 256 ^ k % 256) = x / 256 ^ k % 256 := by rw [wrap_u8]; omega
    have hq : IntKind.u64.wrap ((x / 256 ^ k).tdiv 256) = x / 256 ^ (k + 1) := by
      rw [Int.tdiv_eq_ediv_of_nonneg hb.1, Int.ediv_ediv_of_nonneg (Int.le_of_lt (Int.pow_pos (by decide))), ← Int.pow_succ]
      have := divp_bd (k := k + 1) hx
      exact wrap_u64 this.1 this.2
    have hcat : bstr [x / 256 ^ k % 256] ++ bstr (putLow k x).reverse = bstr (putLow (k + 1) x).reverse := by
      rw [bstr_app, putLow_succ, List.reverse_append]
      rfl
    have hsz : (bstr [x / 256 ^ k % 256]).size + (bstr (putLow k x).reverse).size < 1000000 := by
      rw [bstr_size, bstr_size, List.length_reverse, putLow_len]
      simp; omega
    repeat' (first|(refine ycf ?_;apply ybk;(·first|(first|(refine qv_rem' rfl rfl (by decide) hr)|(refine qv_quo rfl rfl (by decide) hq)|(refine qv_convert_int' rfl hw)|(refine qv_str_of (l := [x / 256 ^ k % 256]) rfl (yaz 0 rfl))|(refine qv_str_add rfl rfl hcat hsz)));(·rfl);(·rfl))|refine t1_ ?_|(refine ta_ ?_;intro _)|((fail_if_success (refine ybi rfl ?_));refine ybj rfl ?_ ?_<;>(intro ht;rw [ht];first|replace ht := oet_ ht|replace ht := oef_ ht|skip))|(refine ych ?_;first|(refine ybw rfl ?_ ?_<;>intro ht)|(refine ybx rfl ?_ ?_<;>intro ht)))
    · refine nx_round (k + 1) (by show k + 1 ≤ m; omega) (by show m - (k + 1) < m - k; omega) ts_ (fun _ s => s.tl)
    all_goals omega
  · have ek : k = m := by omega
    subst ek
    repeat' (first|(refine ycf ?_;apply ybk;(·first|(first|(refine qv_rem' rfl rfl (by decide) hr)|(refine qv_quo rfl rfl (by decide) hq)|(refine qv_convert_int' rfl hw)|(refine qv_str_of (l := [x / 256 ^ k % 256]) rfl (yaz 0 rfl))|(refine qv_str_add rfl rfl hcat hsz)));(·rfl);(·rfl))|refine t1_ ?_|(refine ta_ ?_;intro _)|((fail_if_success (refine ybi rfl ?_));refine ybj rfl ?_ ?_<;>(intro ht;rw [ht];first|replace ht := oet_ ht|replace ht := oef_ ht|skip))|(refine ych ?_;first|(refine ybw rfl ?_ ?_<;>intro ht)|(refine ybx rfl ?_ ?_<;>intro ht)))
    all_goals try omega
    exact nx_ret1 rfl (rv_tmp rfl) (fun w' s' => ⟨rfl, s'.nil⟩)
theorem refNum_sp (n : Int) (h0 : 0 ≤ n) (h1 : n < 9223372036854775808) (h : View) (w : World) (s : St ⟨w, h, []⟩ h [] w) :
    Calls Tryz.prog 15 [.int .i64 n].toArray w fun e w' => e = .returned (.string (bstr (num8 n))) ∧ St ⟨w, h, []⟩ h [] w' := by
  have hw := wrap_u64 h0 (by omega)
  refine calls_enter Tryz.func15 rfl Tryz.ntmps15 rfl s ?_
  repeat' (first|(refine ycf ?_;apply ybk;(·first|(refine qv_convert_int' rfl hw));(·rfl);(·rfl))|refine t1_ ?_|(refine ta_ ?_;intro _)|((fail_if_success (refine ybi rfl ?_));refine ybj rfl ?_ ?_<;>(intro ht;rw [ht];first|replace ht := oet_ ht|replace ht := oef_ ht|skip))|(refine ych ?_;first|(refine ybw rfl ?_ ?_<;>intro ht)|(refine ybx rfl ?_ ?_<;>intro ht)))
  · omega
  (refine ycn (ycp Tryz.func32 rfl (by kernel_rfl) rfl) (Put_sp n 8 ⟨h0, by omega⟩ (by omega) h) rfl rfl rfl ?_ ?_; (· (exact to_)))
  repeat' (first|(refine ycf ?_;apply ybk;(·first|(refine qv_convert_int' rfl hw));(·rfl);(·rfl))|refine t1_ ?_|(refine ta_ ?_;intro _)|((fail_if_success (refine ybi rfl ?_));refine ybj rfl ?_ ?_<;>(intro ht;rw [ht];first|replace ht := oet_ ht|replace ht := oef_ ht|skip))|(refine ych ?_;first|(refine ybw rfl ?_ ?_<;>intro ht)|(refine ybx rfl ?_ ?_<;>intro ht)))
  exact nx_ret1 rfl (rv_tmp rfl) (fun w' s' => ⟨rfl, s'.nil⟩)
theorem refSmall_sp (n : Int) (h0 : 0 ≤ n) (h1 : n ≤ 255) (h : View) (w : World) (s : St ⟨w, h, []⟩ h [] w) :
    Calls Tryz.prog 17 [.int .i64 n].toArray w fun e w' => e = .returned (.string (bstr (num1 n))) ∧ St ⟨w, h, []⟩ h [] w' := by
  refine calls_enter Tryz.func17 rfl Tryz.ntmps17 rfl s ?_
  repeat' (first|(refine ycf ?_;apply ybk;(·first|(refine qv_convert_int' rfl hw));(·rfl);(·rfl))|refine t1_ ?_|(refine ta_ ?_;intro _)|((fail_if_success (refine ybi rfl ?_));refine ybj rfl ?_ ?_<;>(intro ht;rw [ht];first|replace ht := oet_ ht|replace ht := oef_ ht|skip))|(refine ych ?_;first|(refine ybw rfl ?_ ?_<;>intro ht)|(refine ybx rfl ?_ ?_<;>intro ht)))
  · omega
  · omega
  (refine ycn (ycp Tryz.func34 rfl (by kernel_rfl) rfl) (One_sp n h0 h1 h) rfl rfl rfl ?_ ?_; (· (exact to_)))
  repeat' (first|(refine ycf ?_;apply ybk;(·first|(refine qv_convert_int' rfl hw));(·rfl);(·rfl))|refine t1_ ?_|(refine ta_ ?_;intro _)|((fail_if_success (refine ybi rfl ?_));refine ybj rfl ?_ ?_<;>(intro ht;rw [ht];first|replace ht := oet_ ht|replace ht := oef_ ht|skip))|(refine ych ?_;first|(refine ybw rfl ?_ ?_<;>intro ht)|(refine ybx rfl ?_ ?_<;>intro ht)))
  exact nx_ret1 rfl (rv_tmp rfl) (fun w' s' => ⟨rfl, s'.nil⟩)
end Go.Proofs.YtndpclcbobgdlaaGreatDoor
end
