/-
  Part 4 of a proof: BitC CkFork DotA DotB DotC.
  Conditions: each theorem states its own.
-/
import Derived.Laws.Pointers
import Derived.Test.YtaofgcahmfailaaGreatDoorCmNPM3
set_option maxRecDepth 100000
set_option linter.unusedVariables false
set_option linter.unusedSimpArgs false
section
namespace Go.Proofs.YtaofgcahmfailaaGreatDoor
open Go Go.Ck
set_option maxHeartbeats 1000000
theorem PutHigh_sp (x : Int) (m : Nat) (hx : 0 ≤ x ∧ x < 18446744073709551616) (h0 : 0 < m) (hm : m ≤ 64) (h : View) (w : World) (s : St ⟨w, h, []⟩ h [] w) :
    Calls Tryz.prog 74 [.int .u64 x, .int .i64 m].toArray w fun e w' => ∃ v, e = .returned v ∧ St ⟨w, h, []⟩ h [rowB v (putLow m x).reverse] w' ∧ True := by
  have hlen := putLow_len m x
  refine calls_enter Tryz.func74 rfl Tryz.ntmps74 rfl s ?_
  repeat' (first|refine tw_ ?_|(refine ta_ ?_;intro _)|((fail_if_success (refine ybi rfl ?_));refine ybj rfl ?_ ?_<;>(intro ht;rw [ht];first|replace ht := oet_ ht|replace ht := oef_ ht|skip))|(refine ych ?_;first|(refine ybw rfl ?_ ?_<;>intro ht)|(refine ybx rfl ?_ ?_<;>intro ht)))
  (refine yco (ycp Tryz.func89 rfl (by kernel_rfl) rfl) (PutLow_sp x m hx hm h) rfl rfl rfl ?_ ?_ ?_; (· (exact to_)); (· intro _ _ hle; (exact to_)); intro x px hle)
  refine rx_rowform 0 rfl (fun _ h1 _ => (by omega)) ?_
  rintro g cap rfl
  repeat' (first|refine tw_ ?_|(refine ta_ ?_;intro _)|((fail_if_success (refine ybi rfl ?_));refine ybj rfl ?_ ?_<;>(intro ht;rw [ht];first|replace ht := oet_ ht|replace ht := oef_ ht|skip))|(refine ych ?_;first|(refine ybw rfl ?_ ?_<;>intro ht)|(refine ybx rfl ?_ ?_<;>intro ht)))
  (refine rx_call_m (ycp Tryz.func90 rfl (by kernel_rfl) rfl) (perm_at (k := 0) rfl) (Reverse_sp g cap (putLow m x) (by omega) h) rfl rfl rfl ?_ ?_ ?_; (· (exact to_)); (· intro _ _ hle; (exact to_)); intro x px hle)
  repeat' (first|refine tw_ ?_|(refine ta_ ?_;intro _)|((fail_if_success (refine ybi rfl ?_));refine ybj rfl ?_ ?_<;>(intro ht;rw [ht];first|replace ht := oet_ ht|replace ht := oef_ ht|skip))|(refine ych ?_;first|(refine ybw rfl ?_ ?_<;>intro ht)|(refine ybx rfl ?_ ?_<;>intro ht)))
  exact nx_ret1 rfl (rv_tmp rfl) (fun w' s' => ⟨_, rfl, s', trivial⟩)
theorem qv_eql_pnil {P : Program} {n : Nat} {F : List (Nat × Value)} {h : View} {L : List Res} {dst : Option Nat} {ty : Nat} {pos : String} {af : Array Edge} {gd : Option (Nat × Bool)} {T T' e : Nat} {x y : Operand} {ad : Addr} [tu : TyU P T (.pointer e)] (hx : ev F x = some (.pointer (some ad))) (hy : ev F y = some (.pointer none)) :
    QV P n F h L ⟨dst, .binOp .eql T x y T', ty, pos, af, gd⟩ (.bool false) := by
  refine .mk fun a w f s => ?_
  have hp : P.underlying T = some (.pointer (P.pointee T)) := by
    have := tu.u
    simp [Program.pointee, this]
  have hg : (eqGuard .eql T x y (.pointer (some ad)) (.pointer none)).run P w = .ok () w := by simp [eqGuard]
  have he := run_equal_pointer_nil (P := P) (w := w) T (some ad) hp
  simp only [execOp, f.ev hx, f.ev hy, Sem.run_bind, hg, Result.andThen_ok, binOp, he]
  rfl
abbrev outR (bo : Nat) (v : Value) (bad : Bool) : Res := Res.blk bo (.cells #[v, .bool bad] 129 (0, 0))
theorem wrap_u64 {n : Int} (h0 : 0 ≤ n) (h1 : n < 18446744073709551616) : IntKind.u64.wrap n = n := by
  simp [IntKind.wrap, IntKind.bits, IntKind.signed]; omega
theorem put_sp (bo : Nat) (v : Value) (l : List Int) (bad : Bool) (n : Int) (size : Nat) (ok : Bool) (hn : ok = true → 0 ≤ n) (hn2 : n < 9223372036854775808) (h0 : 0 < size) (hsz : size ≤ 64) (hl : l.length ≤ 1000000) (h : View) (w : World) (s : St ⟨w, h, doms [outR bo v bad, rowB v l]⟩ h [outR bo v bad, rowB v l] w) :
    Calls Tryz.prog 61 [.pointer (some ⟨bo, 0, none⟩), .int .i64 n, .int .i64 size, .bool ok].toArray w fun e w' => ∃ x : Value, e = .returned (.pointer (some ⟨bo, 0, none⟩)) ∧
      St ⟨w, h, doms [outR bo v bad, rowB v l]⟩ h [outR bo x (bad || !ok), rowB x (if ok then l ++ (putLow size n).reverse else l)] w' ∧ True := by
  refine calls_enter Tryz.func61 rfl Tryz.ntmps61 rfl s ?_
  cases ok with
  | false =>
    repeat' (first|(refine ycf ?_;apply ybk;(·first|(first|(apply qv_eql_pnil<;>rfl)|(apply qv_nilCheck;rfl)));(·rfl);(·rfl))|refine t1_ ?_|(refine ta_ ?_;intro _)|((fail_if_success (refine ybi rfl ?_));refine ybj rfl ?_ ?_<;>(intro ht;rw [ht];first|replace ht := oet_ ht|replace ht := oef_ ht|skip))|(refine ych ?_;first|(refine ybw rfl ?_ ?_<;>intro ht)|(refine ybx rfl ?_ ?_<;>intro ht)))
    refine nx_ret1 rfl (rv_tmp rfl) (fun w' s' => ⟨v, rfl, ?_, trivial⟩)
    rw [Bool.not_false, Bool.or_true]
    exact s'
  | true =>
    have hw := wrap_u64 (hn rfl) (by omega)
    have hlen := putLow_len size n
    repeat' (first|(refine ycf ?_;apply ybk;(·first|(first|(apply qv_eql_pnil<;>rfl)|(apply qv_nilCheck;rfl)|(refine qv_convert_int' rfl hw)));(·rfl);(·rfl))|refine t1_ ?_|(refine ta_ ?_;intro _)|((fail_if_success (refine ybi rfl ?_));refine ybj rfl ?_ ?_<;>(intro ht;rw [ht];first|replace ht := oet_ ht|replace ht := oef_ ht|skip))|(refine ych ?_;first|(refine ybw rfl ?_ ?_<;>intro ht)|(refine ybx rfl ?_ ?_<;>intro ht)))
    refine cx_region_draw [outR bo v bad] rfl (by kernel_rfl) ?_
    repeat' (refine ycf ?_;(first|(first|(apply ybm;(·(first|(first|(apply qv_eql_pnil<;>rfl)|(apply qv_nilCheck;rfl)|(refine qv_convert_int' rfl hw))|exact tq_));(·rfl);(·rfl);(·(first|exact fun _ s => Hd.sub s (Le.refl h) (fun r hr => List.mem_append_left [_] hr)|exact fun _ s => Hd.sub s (Le.refl h) (fun r hr => List.mem_cons_of_mem _ (List.mem_append_left [_] hr)))))|refine ybl rfl rfl ?_|((fail_if_success (refine ybi rfl ?_));refine ybj rfl ?_ ?_<;>(intro ht;rw [ht];first|replace ht := oet_ ht|replace ht := oef_ ht|skip))|(refine tb_ ?_ ?_ ?_;(·(first|exact ybf|(refine .inl ?_;(first|exact fun _ s => Hd.sub s (Le.refl h) (fun r hr => List.mem_append_left [_] hr)|exact fun _ s => Hd.sub s (Le.refl h) (fun r hr => List.mem_cons_of_mem _ (List.mem_append_left [_] hr))))|exact to_));(·intro _;(first|exact ybf|(refine .inl ?_;(first|exact fun _ s => Hd.sub s (Le.refl h) (fun r hr => List.mem_append_left [_] hr)|exact fun _ s => Hd.sub s (Le.refl h) (fun r hr => List.mem_cons_of_mem _ (List.mem_append_left [_] hr))))|exact to_));intro _)|(first|(refine tqs_ ?_ ?_ ?_;(·(first|exact ybf|(refine .inl ?_;(first|exact fun _ s => Hd.sub s (Le.refl h) (fun r hr => List.mem_append_left [_] hr)|exact fun _ s => Hd.sub s (Le.refl h) (fun r hr => List.mem_cons_of_mem _ (List.mem_append_left [_] hr))))|exact to_));(·(first|exact ybf|(refine .inl ?_;(first|exact fun _ s => Hd.sub s (Le.refl h) (fun r hr => List.mem_append_left [_] hr)|exact fun _ s => Hd.sub s (Le.refl h) (fun r hr => List.mem_cons_of_mem _ (List.mem_append_left [_] hr))))|exact to_))))|(apply ybn;(·(first|(first|(apply qv_eql_pnil<;>rfl)|(apply qv_nilCheck;rfl)|(refine qv_convert_int' rfl hw))|exact tq_));(·rfl);(·rfl);(·rfl);(·(first|exact ybf|(refine .inl ?_;(first|exact fun _ s => Hd.sub s (Le.refl h) (fun r hr => List.mem_append_left [_] hr)|exact fun _ s => Hd.sub s (Le.refl h) (fun r hr => List.mem_cons_of_mem _ (List.mem_append_left [_] hr))))|exact to_))))|refine ycg ?_))
    (refine yco (ycp Tryz.func74 rfl (by kernel_rfl) rfl) (PutHigh_sp n size ⟨hn rfl, by omega⟩ h0 hsz h) rfl rfl rfl ?_ ?_ ?_;(·(first|exact ybf|(refine .inl ?_;(first|exact fun _ s => Hd.sub s (Le.refl h) (fun r hr => List.mem_append_left [_] hr)|exact fun _ s => Hd.sub s (Le.refl h) (fun r hr => List.mem_cons_of_mem _ (List.mem_append_left [_] hr))))|exact to_));(·intro _ _ hle;(first|exact ybf|(refine .inl ?_;(first|exact fun _ s => Hd.sub s (Le.refl h) (fun r hr => List.mem_append_left [_] hr)|exact fun _ s => Hd.sub s (Le.refl h) (fun r hr => List.mem_cons_of_mem _ (List.mem_append_left [_] hr))))|exact to_));intro x px hle)
    refine rx_rowform 0 rfl (fun _ h1 _ => (by rw [List.length_reverse] at h1; omega)) ?_
    rintro g cap rfl
    repeat' (refine ycf ?_;(first|(first|(apply ybm;(·(first|(first|(apply qv_eql_pnil<;>rfl)|(apply qv_nilCheck;rfl)|(refine qv_convert_int' rfl hw))|exact tq_));(·rfl);(·rfl);(·(first|exact fun _ s => Hd.sub s (Le.refl h) (fun r hr => List.mem_append_left [_] hr)|exact fun _ s => Hd.sub s (Le.refl h) (fun r hr => List.mem_cons_of_mem _ (List.mem_append_left [_] hr)))))|refine ybl rfl rfl ?_|((fail_if_success (refine ybi rfl ?_));refine ybj rfl ?_ ?_<;>(intro ht;rw [ht];first|replace ht := oet_ ht|replace ht := oef_ ht|skip))|(refine tb_ ?_ ?_ ?_;(·(first|exact ybf|(refine .inl ?_;(first|exact fun _ s => Hd.sub s (Le.refl h) (fun r hr => List.mem_append_left [_] hr)|exact fun _ s => Hd.sub s (Le.refl h) (fun r hr => List.mem_cons_of_mem _ (List.mem_append_left [_] hr))))|exact to_));(·intro _;(first|exact ybf|(refine .inl ?_;(first|exact fun _ s => Hd.sub s (Le.refl h) (fun r hr => List.mem_append_left [_] hr)|exact fun _ s => Hd.sub s (Le.refl h) (fun r hr => List.mem_cons_of_mem _ (List.mem_append_left [_] hr))))|exact to_));intro _)|(first|(refine tqs_ ?_ ?_ ?_;(·(first|exact ybf|(refine .inl ?_;(first|exact fun _ s => Hd.sub s (Le.refl h) (fun r hr => List.mem_append_left [_] hr)|exact fun _ s => Hd.sub s (Le.refl h) (fun r hr => List.mem_cons_of_mem _ (List.mem_append_left [_] hr))))|exact to_));(·(first|exact ybf|(refine .inl ?_;(first|exact fun _ s => Hd.sub s (Le.refl h) (fun r hr => List.mem_append_left [_] hr)|exact fun _ s => Hd.sub s (Le.refl h) (fun r hr => List.mem_cons_of_mem _ (List.mem_append_left [_] hr))))|exact to_))))|(apply ybn;(·(first|(first|(apply qv_eql_pnil<;>rfl)|(apply qv_nilCheck;rfl)|(refine qv_convert_int' rfl hw))|exact tq_));(·rfl);(·rfl);(·rfl);(·(first|exact ybf|(refine .inl ?_;(first|exact fun _ s => Hd.sub s (Le.refl h) (fun r hr => List.mem_append_left [_] hr)|exact fun _ s => Hd.sub s (Le.refl h) (fun r hr => List.mem_cons_of_mem _ (List.mem_append_left [_] hr))))|exact to_))))|refine ycg ?_))
    refine rx_append (sz := 1) 2 rfl rfl rfl (row_cells 0 rfl) (by rw [bcs_len, Nat.mul_one]) (bcs_one _) rfl (by omega) (by unfold maxLen; rw [List.length_reverse]; omega) (by rw [List.length_reverse]; omega) rfl rfl rfl ?_ ?_ ?_
    · (first|exact ybf|(refine .inl ?_;(first|exact fun _ s => Hd.sub s (Le.refl h) (fun r hr => List.mem_append_left [_] hr)|exact fun _ s => Hd.sub s (Le.refl h) (fun r hr => List.mem_cons_of_mem _ (List.mem_append_left [_] hr))))|exact to_)
    · intro v';(first|exact ybf|(refine .inl ?_;(first|exact fun _ s => Hd.sub s (Le.refl h) (fun r hr => List.mem_append_left [_] hr)|exact fun _ s => Hd.sub s (Le.refl h) (fun r hr => List.mem_cons_of_mem _ (List.mem_append_left [_] hr))))|exact to_)
    intro v2 _
    refine rx_rowform 2 rfl (fun _ h1 _ => (by rw [List.length_reverse] at h1; omega)) ?_
    rintro g2 cap2 rfl
    repeat' (refine ycf ?_;(first|(first|(apply ybm;(·(first|(first|(apply qv_eql_pnil<;>rfl)|(apply qv_nilCheck;rfl)|(refine qv_convert_int' rfl hw))|exact tq_));(·rfl);(·rfl);(·(first|exact fun _ s => Hd.sub s (Le.refl h) (fun r hr => List.mem_append_left [_] hr)|exact fun _ s => Hd.sub s (Le.refl h) (fun r hr => List.mem_cons_of_mem _ (List.mem_append_left [_] hr)))))|refine ybl rfl rfl ?_|((fail_if_success (refine ybi rfl ?_));refine ybj rfl ?_ ?_<;>(intro ht;rw [ht];first|replace ht := oet_ ht|replace ht := oef_ ht|skip))|(refine tb_ ?_ ?_ ?_;(·(first|exact ybf|(refine .inl ?_;(first|exact fun _ s => Hd.sub s (Le.refl h) (fun r hr => List.mem_append_left [_] hr)|exact fun _ s => Hd.sub s (Le.refl h) (fun r hr => List.mem_cons_of_mem _ (List.mem_append_left [_] hr))))|exact to_));(·intro _;(first|exact ybf|(refine .inl ?_;(first|exact fun _ s => Hd.sub s (Le.refl h) (fun r hr => List.mem_append_left [_] hr)|exact fun _ s => Hd.sub s (Le.refl h) (fun r hr => List.mem_cons_of_mem _ (List.mem_append_left [_] hr))))|exact to_));intro _)|(first|(refine tqs_ ?_ ?_ ?_;(·(first|exact ybf|(refine .inl ?_;(first|exact fun _ s => Hd.sub s (Le.refl h) (fun r hr => List.mem_append_left [_] hr)|exact fun _ s => Hd.sub s (Le.refl h) (fun r hr => List.mem_cons_of_mem _ (List.mem_append_left [_] hr))))|exact to_));(·(first|exact ybf|(refine .inl ?_;(first|exact fun _ s => Hd.sub s (Le.refl h) (fun r hr => List.mem_append_left [_] hr)|exact fun _ s => Hd.sub s (Le.refl h) (fun r hr => List.mem_cons_of_mem _ (List.mem_append_left [_] hr))))|exact to_))))|(apply ybn;(·(first|(first|(apply qv_eql_pnil<;>rfl)|(apply qv_nilCheck;rfl)|(refine qv_convert_int' rfl hw))|exact tq_));(·rfl);(·rfl);(·rfl);(·(first|exact ybf|(refine .inl ?_;(first|exact fun _ s => Hd.sub s (Le.refl h) (fun r hr => List.mem_append_left [_] hr)|exact fun _ s => Hd.sub s (Le.refl h) (fun r hr => List.mem_cons_of_mem _ (List.mem_append_left [_] hr))))|exact to_))))|refine ycg ?_))
    repeat' (first|(refine ycf ?_;apply ybk;(·first|(first|(apply qv_eql_pnil<;>rfl)|(apply qv_nilCheck;rfl)|(refine qv_convert_int' rfl hw)));(·rfl);(·rfl))|refine t1_ ?_|(refine ta_ ?_;intro _)|((fail_if_success (refine ybi rfl ?_));refine ybj rfl ?_ ?_<;>(intro ht;rw [ht];first|replace ht := oet_ ht|replace ht := oef_ ht|skip))|(refine ych ?_;first|(refine ybw rfl ?_ ?_<;>intro ht)|(refine ybx rfl ?_ ?_<;>intro ht)))
    refine nx_ret1 rfl (rv_tmp rfl) (fun w' s' => ⟨.slice (some ⟨g2, 0, none⟩) (l.length + (putLow size n).reverse.length) cap2, rfl, ?_, trivial⟩)
    have s2 := s'.tl
    rw [Bool.not_true, Bool.or_false, if_pos rfl]
    unfold rowB
    rw [List.length_append, bcs_app]
    exact s2
theorem OutNum_sp (bo : Nat) (v : Value) (l : List Int) (bad : Bool) (n : Int) (h0 : 0 ≤ n) (hn2 : n < 9223372036854775808) (hl : l.length ≤ 1000000) (h : View) (w : World) (s : St ⟨w, h, doms [outR bo v bad, rowB v l]⟩ h [outR bo v bad, rowB v l] w) :
    Calls Tryz.prog 48 [.pointer (some ⟨bo, 0, none⟩), .int .i64 n].toArray w fun e w' => ∃ x : Value, e = .returned (.pointer (some ⟨bo, 0, none⟩)) ∧
      St ⟨w, h, doms [outR bo v bad, rowB v l]⟩ h [outR bo x bad, rowB x (l ++ (putLow 8 n).reverse)] w' ∧ True := by
  refine calls_enter Tryz.func48 rfl Tryz.ntmps48 rfl s ?_
  have ht0 : decide (0 ≤ n) = true := decide_eq_true h0
  repeat' (first|(refine ycf ?_;apply ybk;(·first|(first|(apply qv_eql_pnil<;>rfl)|(apply qv_nilCheck;rfl)|(refine qv_convert_int' rfl hw)));(·rfl);(·rfl))|refine t1_ ?_|(refine ta_ ?_;intro _)|((fail_if_success (refine ybi rfl ?_));refine ybj rfl ?_ ?_<;>(intro ht;rw [ht];first|replace ht := oet_ ht|replace ht := oef_ ht|skip))|(refine ych ?_;first|(refine ybw rfl ?_ ?_<;>intro ht)|(refine ybx rfl ?_ ?_<;>intro ht)))
  rw [ht0]
  (refine rx_call_2 (ycp Tryz.func61 rfl (by kernel_rfl) rfl) (put_sp bo v l bad n 8 true (fun _ => h0) hn2 (by omega) (by omega) hl h) rfl rfl rfl ?_ ?_ ?_;(·(first|exact ybf|(refine .inl ?_;(first|exact fun _ s => Hd.sub s (Le.refl h) (fun r hr => List.mem_append_left [_] hr)|exact fun _ s => Hd.sub s (Le.refl h) (fun r hr => List.mem_cons_of_mem _ (List.mem_append_left [_] hr))))|exact to_));(·intro _ _ hle;(first|exact ybf|(refine .inl ?_;(first|exact fun _ s => Hd.sub s (Le.refl h) (fun r hr => List.mem_append_left [_] hr)|exact fun _ s => Hd.sub s (Le.refl h) (fun r hr => List.mem_cons_of_mem _ (List.mem_append_left [_] hr))))|exact to_));intro x px hle)
  repeat' (first|(refine ycf ?_;apply ybk;(·first|(first|(apply qv_eql_pnil<;>rfl)|(apply qv_nilCheck;rfl)|(refine qv_convert_int' rfl hw)));(·rfl);(·rfl))|refine t1_ ?_|(refine ta_ ?_;intro _)|((fail_if_success (refine ybi rfl ?_));refine ybj rfl ?_ ?_<;>(intro ht;rw [ht];first|replace ht := oet_ ht|replace ht := oef_ ht|skip))|(refine ych ?_;first|(refine ybw rfl ?_ ?_<;>intro ht)|(refine ybx rfl ?_ ?_<;>intro ht)))
  refine nx_ret1 rfl (rv_tmp rfl) (fun w' s' => ⟨x, rfl, ?_, trivial⟩)
  rw [Bool.not_true, Bool.or_false, if_pos rfl] at s'
  exact s'
theorem OutSmall_sp (bo : Nat) (v : Value) (l : List Int) (bad : Bool) (n : Int) (h0 : 0 ≤ n) (hn2 : n ≤ 255) (hl : l.length ≤ 1000000) (h : View) (w : World) (s : St ⟨w, h, doms [outR bo v bad, rowB v l]⟩ h [outR bo v bad, rowB v l] w) :
    Calls Tryz.prog 49 [.pointer (some ⟨bo, 0, none⟩), .int .i64 n].toArray w fun e w' => ∃ x : Value, e = .returned (.pointer (some ⟨bo, 0, none⟩)) ∧
      St ⟨w, h, doms [outR bo v bad, rowB v l]⟩ h [outR bo x bad, rowB x (l ++ (putLow 1 n).reverse)] w' ∧ True := by
  refine calls_enter Tryz.func49 rfl Tryz.ntmps49 rfl s ?_
  have ht0 : decide (0 ≤ n ∧ n ≤ 255) = true := decide_eq_true ⟨h0, hn2⟩
  repeat' (first|(refine ycf ?_;apply ybk;(·first|(first|(apply qv_eql_pnil<;>rfl)|(apply qv_nilCheck;rfl)|(refine qv_convert_int' rfl hw)));(·rfl);(·rfl))|refine t1_ ?_|(refine ta_ ?_;intro _)|((fail_if_success (refine ybi rfl ?_));refine ybj rfl ?_ ?_<;>(intro ht;rw [ht];first|replace ht := oet_ ht|replace ht := oef_ ht|skip))|(refine ych ?_;first|(refine ybw rfl ?_ ?_<;>intro ht)|(refine ybx rfl ?_ ?_<;>intro ht)))
  (refine yco (ycp Tryz.func70 rfl (by kernel_rfl) rfl) (Byte_sp n h) rfl rfl rfl ?_ ?_ ?_;(·(first|exact ybf|(refine .inl ?_;(first|exact fun _ s => Hd.sub s (Le.refl h) (fun r hr => List.mem_append_left [_] hr)|exact fun _ s => Hd.sub s (Le.refl h) (fun r hr => List.mem_cons_of_mem _ (List.mem_append_left [_] hr))))|exact to_));(·intro _ _ hle;(first|exact ybf|(refine .inl ?_;(first|exact fun _ s => Hd.sub s (Le.refl h) (fun r hr => List.mem_append_left [_] hr)|exact fun _ s => Hd.sub s (Le.refl h) (fun r hr => List.mem_cons_of_mem _ (List.mem_append_left [_] hr))))|exact to_));intro x px hle)
  repeat' (first|(refine ycf ?_;apply ybk;(·first|(first|(apply qv_eql_pnil<;>rfl)|(apply qv_nilCheck;rfl)|(refine qv_convert_int' rfl hw)));(·rfl);(·rfl))|refine t1_ ?_|(refine ta_ ?_;intro _)|((fail_if_success (refine ybi rfl ?_));refine ybj rfl ?_ ?_<;>(intro ht;rw [ht];first|replace ht := oet_ ht|replace ht := oef_ ht|skip))|(refine ych ?_;first|(refine ybw rfl ?_ ?_<;>intro ht)|(refine ybx rfl ?_ ?_<;>intro ht)))
  rw [ht0]
  (refine rx_call_2 (ycp Tryz.func61 rfl (by kernel_rfl) rfl) (put_sp bo v l bad n 1 true (fun _ => h0) (by omega) (by omega) (by omega) hl h) rfl rfl rfl ?_ ?_ ?_;(·(first|exact ybf|(refine .inl ?_;(first|exact fun _ s => Hd.sub s (Le.refl h) (fun r hr => List.mem_append_left [_] hr)|exact fun _ s => Hd.sub s (Le.refl h) (fun r hr => List.mem_cons_of_mem _ (List.mem_append_left [_] hr))))|exact to_));(·intro _ _ hle;(first|exact ybf|(refine .inl ?_;(first|exact fun _ s => Hd.sub s (Le.refl h) (fun r hr => List.mem_append_left [_] hr)|exact fun _ s => Hd.sub s (Le.refl h) (fun r hr => List.mem_cons_of_mem _ (List.mem_append_left [_] hr))))|exact to_));intro x px hle)
  repeat' (first|(refine ycf ?_;apply ybk;(·first|(first|(apply qv_eql_pnil<;>rfl)|(apply qv_nilCheck;rfl)|(refine qv_convert_int' rfl hw)));(·rfl);(·rfl))|refine t1_ ?_|(refine ta_ ?_;intro _)|((fail_if_success (refine ybi rfl ?_));refine ybj rfl ?_ ?_<;>(intro ht;rw [ht];first|replace ht := oet_ ht|replace ht := oef_ ht|skip))|(refine ych ?_;first|(refine ybw rfl ?_ ?_<;>intro ht)|(refine ybx rfl ?_ ?_<;>intro ht)))
  refine nx_ret1 rfl (rv_tmp rfl) (fun w' s' => ⟨x, rfl, ?_, trivial⟩)
  rw [Bool.not_true, Bool.or_false, if_pos rfl] at s'
  exact s'
theorem BClone_sp (sv : Value) (l : List Int) (h : View) (hs : Bs8 h sv l) (hl : l.length ≤ 140737488355328) (w : World) (s : St ⟨w, h, []⟩ h [] w) :
    Calls Tryz.prog 57 [sv].toArray w fun e w' => ∃ v, e = .returned v ∧ St ⟨w, h, []⟩ h [rowB v l] w' ∧ True := by
  obtain ⟨_, ad, cap, rfl, hcap, _⟩ := id hs
  refine calls_enter Tryz.func57 rfl Tryz.ntmps57 rfl s ?_
  repeat' (first|(refine ycf ?_;apply ybk;(·first|(first|(apply qv_eql_slnil<;>rfl)));(·rfl);(·rfl))|refine t1_ ?_|(refine ta_ ?_;intro _)|((fail_if_success (refine ybi rfl ?_));refine ybj rfl ?_ ?_<;>(intro ht;rw [ht];first|replace ht := oet_ ht|replace ht := oef_ ht|skip))|(refine ych ?_;first|(refine ybw rfl ?_ ?_<;>intro ht)|(refine ybx rfl ?_ ?_<;>intro ht)))
  · cases ad with
    | some ad => cases ht
    | none =>
      have h0 : l = [] := by
        obtain ⟨h1, ad', cap', h2, h3, h4⟩ := hs
        cases h2
        rcases h4 with h4 | ⟨b, o, cs, e, fz, q1, _⟩
        · have := congrArg List.length h4
          rw [bcs_len] at this
          exact List.eq_nil_of_length_eq_zero this
        · cases q1
      subst h0
      refine nx_ret1 rfl (rv_tmp rfl) (fun w' s' => ⟨_, rfl, ?_, trivial⟩)
      exact s'.rowNil _ _
  · refine yba ma_buildSlice0 rfl rfl rfl ybf (fun _ => ybf) ?_
    intro b
    refine rx_rowOf 1 0 0 (by omega) (by unfold maxLen; omega) rfl ?_
    repeat' (first|(refine ycf ?_;apply ybk;(·first|(first|(apply qv_eql_slnil<;>rfl)));(·rfl);(·rfl))|refine t1_ ?_|(refine ta_ ?_;intro _)|((fail_if_success (refine ybi rfl ?_));refine ybj rfl ?_ ?_<;>(intro ht;rw [ht];first|replace ht := oet_ ht|replace ht := oef_ ht|skip))|(refine ych ?_;first|(refine ybw rfl ?_ ?_<;>intro ht)|(refine ybx rfl ?_ ?_<;>intro ht)))
    refine rx_append_sc (sz := 1) 0 rfl rfl rfl hs (bcs_one l) rfl (by omega) (by unfold maxLen; omega) (by omega) rfl rfl rfl ybf (fun _ => ybf) ?_
    intro v' _
    repeat' (first|(refine ycf ?_;apply ybk;(·first|(first|(apply qv_eql_slnil<;>rfl)));(·rfl);(·rfl))|refine t1_ ?_|(refine ta_ ?_;intro _)|((fail_if_success (refine ybi rfl ?_));refine ybj rfl ?_ ?_<;>(intro ht;rw [ht];first|replace ht := oet_ ht|replace ht := oef_ ht|skip))|(refine ych ?_;first|(refine ybw rfl ?_ ?_<;>intro ht)|(refine ybx rfl ?_ ?_<;>intro ht)))
    refine nx_ret1 rfl (rv_tmp rfl) (fun w' s' => ⟨_, rfl, ?_, trivial⟩)
    simpa using s'
theorem Done_sp (bo : Nat) (v : Value) (l : List Int) (hl : l.length ≤ 1000000) (h : View) (w : World) (s : St ⟨w, h, doms [outR bo v false, rowB v l]⟩ h [outR bo v false, rowB v l] w) :
    Calls Tryz.prog 40 [.pointer (some ⟨bo, 0, none⟩)].toArray w fun e w' => ∃ x : Value, e = .returned (.tuple #[x, .int .i64 0]) ∧
      St ⟨w, h, doms [outR bo v false, rowB v l]⟩ h [rowB x l, outR bo v false, rowB v l] w' ∧ True := by
  refine calls_enter Tryz.func40 rfl Tryz.ntmps40 rfl s ?_
  repeat' (first|(refine ycf ?_;apply ybk;(·first|(first|(apply qv_eql_pnil<;>rfl)|(apply qv_nilCheck;rfl)));(·rfl);(·rfl))|refine t1_ ?_|(refine ta_ ?_;intro _)|((fail_if_success (refine ybi rfl ?_));refine ybj rfl ?_ ?_<;>(intro ht;rw [ht];first|replace ht := oet_ ht|replace ht := oef_ ht|skip))|(refine ych ?_;first|(refine ybw rfl ?_ ?_<;>intro ht)|(refine ybx rfl ?_ ?_<;>intro ht)))
  refine rx_call_lendx (u := fun x : Value => x) (LL := fun x => [rowB x l]) 1 (ycp Tryz.func57 rfl (by kernel_rfl) rfl) rfl (fun h' _ hsc w s => BClone_sp v l h' hsc (by omega) w s) rfl rfl rfl ybf (fun _ => ybf) ?_
  intro x
  repeat' (first|(refine ycf ?_;apply ybk;(·first|(first|(apply qv_eql_pnil<;>rfl)|(apply qv_nilCheck;rfl)));(·rfl);(·rfl))|refine t1_ ?_|(refine ta_ ?_;intro _)|((fail_if_success (refine ybi rfl ?_));refine ybj rfl ?_ ?_<;>(intro ht;rw [ht];first|replace ht := oet_ ht|replace ht := oef_ ht|skip))|(refine ych ?_;first|(refine ybw rfl ?_ ?_<;>intro ht)|(refine ybx rfl ?_ ?_<;>intro ht)))
  exact nx_ret2 rfl (rv_tmp rfl) (rv_tmp rfl) (fun w' s' => ⟨x, rfl, s', trivial⟩)
end Go.Proofs.YtaofgcahmfailaaGreatDoor
end

section
namespace Go.Ck
open Go
section
variable {P : Program} {ops : Array Oper} {S : World → Prop}
structure InvR (ops : Array Oper) (rk : Nat → Nat) (listed : Array Bool) (prs : List (Nat × Oper)) : Prop where
  pr : ∀ p ∈ prs, ops[p.1]? = some p.2
  sorted : prs.Pairwise (fun p q => rk p.1 < rk q.1)
  left : ∀ i, i < ops.size → (listed.getD i true = false ↔ ∃ o, (i, o) ∈ prs)
  closed : ∀ i o, ops[i]? = some o → listed.getD i false = true → ∀ e ∈ o.after, Region.binds .any e = true → listed.getD e.on false = true
  size : listed.size = ops.size
theorem InvR.step {rk : Nat → Nat} {listed : Array Bool} {l1 l2 : List (Nat × Oper)} {i : Nat} {o : Oper} (inv : InvR ops rk listed (l1 ++ (i, o) :: l2)) (hr : i ∈ Region.ready .any ops listed) :
    InvR ops rk (listed.setIfInBounds i true) (l1 ++ l2) := by
  have hio : ops[i]? = some o := inv.pr (i, o) (by simp)
  have hlt : i < ops.size := (Array.getElem?_eq_some_iff.1 hio).1
  obtain ⟨hun, o', ho', hall⟩ := mem_ready.1 hr
  have hoo : o' = o := by rw [hio] at ho'; cases ho'; rfl
  subst hoo
  refine ⟨fun p hp => inv.pr p ?_, ?_, fun k hk => ?_, fun k ok hok hl e he hb => ?_, by simp [inv.size]⟩
  · rcases List.mem_append.1 hp with hp | hp
    · exact List.mem_append_left _ hp
    · exact List.mem_append_right _ (List.mem_cons_of_mem _ hp)
  · exact inv.sorted.sublist (List.Sublist.append_left (List.sublist_cons_self _ _) _)
  · by_cases hki : i = k
    · subst hki
      have : (listed.setIfInBounds i true).getD i true = true := by simp [inv.size, hlt]
      rw [this]
      simp only [Bool.true_eq_false, false_iff, not_exists]
      intro o2 hm
      have hs := inv.sorted
      rw [List.pairwise_append] at hs
      obtain ⟨_, s2, s3⟩ := hs
      rcases List.mem_append.1 hm with hm | hm
      · have := s3 _ hm (i, o') (List.mem_cons_self ..)
        simp at this
      · have := (List.pairwise_cons.1 s2).1 _ hm
        simp at this
    · rw [getD_set_ne true hki, inv.left k hk]
      constructor
      · rintro ⟨o2, hm⟩
        refine ⟨o2, ?_⟩
        rcases List.mem_append.1 hm with hm | hm
        · exact List.mem_append_left _ hm
        · rcases List.mem_cons.1 hm with hm | hm
          · cases hm; exact absurd rfl hki
          · exact List.mem_append_right _ hm
      · rintro ⟨o2, hm⟩
        refine ⟨o2, ?_⟩
        rcases List.mem_append.1 hm with hm | hm
        · exact List.mem_append_left _ hm
        · exact List.mem_append_right _ (List.mem_cons_of_mem _ hm)
  · by_cases hki : i = k
    · subst hki
      have : ok = o' := by rw [hio] at hok; cases hok; rfl
      subst this
      exact getD_set_true (hall e he hb)
    · rw [getD_set_ne false hki] at hl
      exact getD_set_true (inv.closed k ok hok hl e he hb)
def lexOkR (ops : Array Oper) (ms : List Nat) (lo bar : Nat → Bool) (rk : Nat → Nat) (exc : Nat → Nat → Bool) : Bool :=
  maskOk ops ms && Region.noSelect ops && (List.range ops.size).all fun i =>
    (match ops[i]? with | some o => o.after.toList.all fun e => !Region.binds .any e || decide (rk e.on < rk i) | none => true) &&
    (List.range ops.size).all fun j => !decide (rk j < rk i) || exc j i || pairOk ops ms lo bar j i
section
variable {lo bar : Nat → Bool} {ms : List Nat} {rk : Nat → Nat} {exc : Nat → Nat → Bool}
theorem lexOkR_mask (hB : lexOkR ops ms lo bar rk exc = true) : maskOk ops ms = true := by
  simp only [lexOkR, Bool.and_eq_true] at hB; exact hB.1.1
theorem lexOkR_sel (hB : lexOkR ops ms lo bar rk exc = true) : Region.noSelect ops = true := by
  simp only [lexOkR, Bool.and_eq_true] at hB; exact hB.1.2
theorem lexOkR_edge (hB : lexOkR ops ms lo bar rk exc = true) {i : Nat} {o : Oper} (hi : ops[i]? = some o) {e : Edge} (he : e ∈ o.after) (hb : Region.binds .any e = true) : rk e.on < rk i := by
  simp only [lexOkR, Bool.and_eq_true] at hB
  have hlt : i < ops.size := (Array.getElem?_eq_some_iff.1 hi).1
  have h1 := List.all_eq_true.1 hB.2 i (List.mem_range.2 hlt)
  simp only [hi, Bool.and_eq_true] at h1
  have h2 := List.all_eq_true.1 h1.1 e (Array.mem_toList_iff.2 he)
  simpa [hb] using h2
theorem lexOkR_pair (hB : lexOkR ops ms lo bar rk exc = true) {i j : Nat} (hi : i < ops.size) (hj : j < ops.size) (hr : rk j < rk i) (hx : exc j i = false) : pairOk ops ms lo bar j i = true := by
  simp only [lexOkR, Bool.and_eq_true] at hB
  have h1 := List.all_eq_true.1 hB.2 i (List.mem_range.2 hi)
  simp only [Bool.and_eq_true] at h1
  have h2 := List.all_eq_true.1 h1.2 j (List.mem_range.2 hj)
  simpa [hr, hx] using h2
theorem headR (hB : lexOkR ops ms lo bar rk exc = true) : ∀ (prs : List (Nat × Oper)) (listed : Array Bool), InvR ops rk listed prs → Region.ready .any ops listed = [] → prs = [] := by
  intro prs listed inv hr
  cases prs with
  | nil => rfl
  | cons p r =>
    obtain ⟨i, o⟩ := p
    have hio : ops[i]? = some o := inv.pr (i, o) (List.mem_cons_self ..)
    have hlt : i < ops.size := (Array.getElem?_eq_some_iff.1 hio).1
    have : i ∈ Region.ready .any ops listed := by
      refine mem_ready.2 ⟨(inv.left i hlt).2 ⟨o, List.mem_cons_self ..⟩, o, hio, fun e he hb => ?_⟩
      have hei := (maskOk_spec (lexOkR_mask hB) hio).2 e he hb
      have hrk := lexOkR_edge hB hio he hb
      have hel : e.on < ops.size := by omega
      rw [← getD_tf (by rw [inv.size]; exact hel)]
      cases hg : listed.getD e.on true with
      | true => rfl
      | false =>
        obtain ⟨o2, hm2⟩ := (inv.left _ hel).1 hg
        rcases List.mem_cons.1 hm2 with hm2 | hm2
        · cases hm2; omega
        · have h9 : rk i < rk e.on := (List.pairwise_cons.1 inv.sorted).1 _ hm2
          omega
    rw [hr] at this
    cases this
theorem passR (hB : lexOkR ops ms lo bar rk exc = true) {listed : Array Bool} {prs : List (Nat × Oper)} (inv : InvR ops rk listed prs) {i : Nat} {o : Oper} (hio : ops[i]? = some o) (hi : i ∈ Region.ready .any ops listed) {p : Nat × Oper} (hp : p ∈ prs) (hr : rk p.1 < rk i) (hx : exc p.1 i = false) :
    p.2.apart ops o = true ∧ (lo i && lo p.1) = false ∧ bar i = false ∧ bar p.1 = false ∧ (∀ cs b, o.op ≠ .select cs b) ∧ (∀ cs b, p.2.op ≠ .select cs b) := by
  obtain ⟨hun, o', ho', hall⟩ := mem_ready.1 hi
  have : o' = o := by rw [hio] at ho'; cases ho'; rfl
  subst this
  have hlt := (Array.getElem?_eq_some_iff.1 hio).1
  have hpo : ops[p.1]? = some p.2 := inv.pr p hp
  have hpl := (Array.getElem?_eq_some_iff.1 hpo).1
  have hpair' := lexOkR_pair hB hlt hpl hr hx
  unfold pairOk at hpair'
  simp only [hpo, hio, Bool.or_eq_true, Bool.and_eq_true, Bool.not_eq_true'] at hpair'
  rcases hpair' with hp1 | ⟨⟨⟨q1, q2⟩, q3⟩, q4⟩
  · exfalso
    have hlj := mask_listed (lexOkR_mask hB) inv.closed i o' hio hall p.1 hp1
    have := (inv.left p.1 hpl).2 ⟨p.2, hp⟩
    rw [getD_tf (by rw [inv.size]; exact hpl)] at this
    rw [this] at hlj
    cases hlj
  · exact ⟨q1, q2, q3, q4, fun cs b => Region.noSelect_spec (lexOkR_sel hB) i o' cs b hio, fun cs b => Region.noSelect_spec (lexOkR_sel hB) p.1 p.2 cs b hpo⟩
theorem wpX_mono {Q Q' : Act → World → Prop} (hq : ∀ a w, Q a w → Q' a w) : ∀ (l : List (Nat × Oper)) (a : Act) (w : World), wpX P ops S lo bar Q l a w → wpX P ops S lo bar Q' l a w
  | [], a, w, h => hq a w h
  | (i, o) :: l, a, w, h => R1.mono (fun a w h => wpX_mono hq l a w h) h
end
def nthO : List Oper → Nat → Oper
  | [], _ => default
  | o :: _, 0 => o
  | _ :: l, k + 1 => nthO l k
def pickL (ops : List Oper) : List Nat → List (Nat × Oper)
  | [] => []
  | i :: l => (i, nthO ops i) :: pickL ops l
def rkOf (ord : List Nat) (i : Nat) : Nat := ord.idxOf i
theorem nthO_ok : ∀ (l : List Oper) (i : Nat), i < l.length → l[i]? = some (nthO l i)
  | o :: l, 0, _ => rfl
  | o :: l, i + 1, h => by simpa [nthO] using nthO_ok l i (by simpa using h)
theorem pickL_mem {ops : List Oper} : ∀ {l : List Nat} {p : Nat × Oper}, p ∈ pickL ops l ↔ p.1 ∈ l ∧ p.2 = nthO ops p.1
  | [], p => by simp [pickL]
  | i :: l, p => by
    simp only [pickL, List.mem_cons, pickL_mem (l := l)]
    constructor
    · rintro (rfl | ⟨h1, h2⟩)
      · exact ⟨.inl rfl, rfl⟩
      · exact ⟨.inr h1, h2⟩
    · rintro ⟨rfl | h1, h2⟩
      · exact .inl (by cases p; simp_all)
      · exact .inr ⟨h1, h2⟩
theorem pickL_append {ops : List Oper} : ∀ (l m : List Nat), pickL ops (l ++ m) = pickL ops l ++ pickL ops m
  | [], m => rfl
  | i :: l, m => by simp [pickL, pickL_append l m]
theorem pickL_length {ops : List Oper} : ∀ (l : List Nat), (pickL ops l).length = l.length
  | [] => rfl
  | i :: l => by simp [pickL, pickL_length l]
theorem pickL_pair {ops : List Oper} {r : Nat → Nat → Prop} : ∀ {l : List Nat}, l.Pairwise r → (pickL ops l).Pairwise (fun p q => r p.1 q.1)
  | [], _ => List.Pairwise.nil
  | i :: l, h => by
    have h := List.pairwise_cons.1 h
    exact List.Pairwise.cons (fun p hp => h.1 _ (pickL_mem.1 hp).1) (pickL_pair h.2)
end
section
variable {P : Program} {n : Nat} {K : Bs} {F : List (Nat × Value)} {h : View} {L : List Res} {Q : Exit → Act → World → Prop}
end
end Go.Ck
end

section
namespace Go.Proofs.YtaofgcahmfailaaGreatDoor
open Go Go.Ck
abbrev Dt := Int × Int
def dcs (d : Dt) : List Value := [.int .i64 d.1, .int .i64 d.2]
def dv (d : Dt) : Value := .agg (dcs d).toArray
def rightB (d : Dt) : Bool := decide (1 ≤ d.1) && decide (d.1 ≤ 16) && decide (1 ≤ d.2) && decide (d.2 ≤ 1099511627776)
def cmpI (x y : Int) : Int := if x < y then -1 else if y < x then 1 else 0
def ordD (a b : Dt) : Int := if cmpI a.1 b.1 ≠ 0 then cmpI a.1 b.1 else cmpI a.2 b.2
theorem right_sp (d : Dt) (h : View) (w : World) (s : St ⟨w, h, []⟩ h [] w) :
    Calls Tryz.prog 50 [dv d].toArray w fun e w' => e = .returned (.bool (rightB d)) ∧ St ⟨w, h, []⟩ h [] w' := by
  refine calls_enter Tryz.func50 rfl Tryz.ntmps50 rfl s ?_
  repeat' (first|refine tw_ ?_|(refine ta_ ?_;intro _)|((fail_if_success (refine ybi rfl ?_));refine ybj rfl ?_ ?_<;>(intro ht;rw [ht];first|replace ht := oet_ ht|replace ht := oef_ ht|skip))|(refine ych ?_;first|(refine ybw rfl ?_ ?_<;>intro ht)|(refine ybx rfl ?_ ?_<;>intro ht)))
  all_goals (refine nx_ret1 rfl (rv_tmp rfl) (fun w' s' => ⟨?_, s'.nil⟩))
  all_goals (congr 2; simp [rightB, *])
theorem isNaN_sp (x : Int) (h : View) (w : World) (s : St ⟨w, h, []⟩ h [] w) :
    Calls Tryz.prog 111 [Value.int .i64 x].toArray w fun e w' => e = .returned (.bool false) ∧ St ⟨w, h, []⟩ h [] w' := by
  refine calls_enter Tryz.func111 rfl Tryz.ntmps111 rfl s ?_
  repeat' (first|refine tw_ ?_|(refine ta_ ?_;intro _)|((fail_if_success (refine ybi rfl ?_));refine ybj rfl ?_ ?_<;>(intro ht;rw [ht];first|replace ht := oet_ ht|replace ht := oef_ ht|skip))|(refine ych ?_;first|(refine ybw rfl ?_ ?_<;>intro ht)|(refine ybx rfl ?_ ?_<;>intro ht)))
  all_goals (refine nx_ret1 rfl (rv_tmp rfl) (fun w' s' => ⟨?_, s'.nil⟩))
  all_goals (congr 2; simp)
theorem compare_sp (x y : Int) (h : View) (w : World) (s : St ⟨w, h, []⟩ h [] w) :
    Calls Tryz.prog 98 [Value.int .i64 x, .int .i64 y].toArray w fun e w' => e = .returned (.int .i64 (cmpI x y)) ∧ St ⟨w, h, []⟩ h [] w' := by
  refine calls_enter Tryz.func98 rfl Tryz.ntmps98 rfl s ?_
  repeat' (first|(first|refine t1_ ?_|(refine ta_ ?_;intro _)|((fail_if_success (refine ybi rfl ?_));refine ybj rfl ?_ ?_<;>(intro ht;rw [ht];first|replace ht := oet_ ht|replace ht := oef_ ht|skip))|(refine ych ?_;first|(refine ybw rfl ?_ ?_<;>intro ht)|(refine ybx rfl ?_ ?_<;>intro ht)))|refine ycn (ycp Tryz.func111 rfl (by kernel_rfl) rfl) (isNaN_sp _ h) rfl rfl rfl ybf ?_)
  all_goals (refine nx_ret1 rfl (rv_tmp rfl) (fun w' s' => ⟨?_, s'.nil⟩))
  all_goals (congr 2;unfold cmpI;first|rw [if_pos (by assumption)]|rw [if_neg (by omega), if_pos (by omega)]|rw [if_neg (by omega), if_neg (by omega)])
end Go.Proofs.YtaofgcahmfailaaGreatDoor
end

section
namespace Go.Proofs.YtaofgcahmfailaaGreatDoor
open Go Go.Ck
theorem or2_sp (x y : Int) (b T : Nat) (h : View) (w : World) (s : St ⟨w, h, doms [Res.blk b (.cells #[.int .i64 x, .int .i64 y] T)]⟩ h [Res.blk b (.cells #[.int .i64 x, .int .i64 y] T)] w) :
    Calls Tryz.prog 97 [Value.slice (some ⟨b, 0, none⟩) 2 2].toArray w fun e w' => ∃ u : Unit, e = .returned (.int .i64 (if x ≠ 0 then x else y)) ∧ St ⟨w, h, doms [Res.blk b (.cells #[.int .i64 x, .int .i64 y] T)]⟩ h [Res.blk b (.cells #[.int .i64 x, .int .i64 y] T)] w' ∧ True := by
  refine calls_enter Tryz.func97 rfl Tryz.ntmps97 rfl s ?_
  repeat' (first|refine tw_ ?_|(refine ta_ ?_;intro _)|((fail_if_success (refine ybi rfl ?_));refine ybj rfl ?_ ?_<;>(intro ht;rw [ht];first|replace ht := oet_ ht|replace ht := oef_ ht|skip))|(refine ych ?_;first|(refine ybw rfl ?_ ?_<;>intro ht)|(refine ybx rfl ?_ ?_<;>intro ht)))
  refine cx_loop (X := Nat) (fun k => [(3, .int .i64 0), (6, .slice (some ⟨b, 0, none⟩) 2 2), (7, .int .i64 2), (8, .int .i64 k)]) (fun _ => h) (fun _ => _) (fun k => k ≤ 2 ∧ (0 < k → x = 0) ∧ (1 < k → y = 0)) (fun k => 2 - k) 0 (by omega) ?_ (fun _ s => s) ?_
  · exact .cons rfl rfl (.cons rfl rfl (.cons rfl rfl (.cons rfl rfl .nil)))
  rintro k ⟨hk, h1, h2⟩
  by_cases h0 : k = 0
  · subst h0
    repeat' (first|refine tw_ ?_|(refine ta_ ?_;intro _)|((fail_if_success (refine ybi rfl ?_));refine ybj rfl ?_ ?_<;>(intro ht;rw [ht];first|replace ht := oet_ ht|replace ht := oef_ ht|skip))|(refine ych ?_;first|(refine ybw rfl ?_ ?_<;>intro ht)|(refine ybx rfl ?_ ?_<;>intro ht)))
    · refine nx_ret1 rfl (rv_tmp rfl) (fun w' s' => ⟨(), ?_, s', trivial⟩)
      rw [if_pos (by assumption)]
    · refine nx_round 1 (by omega) (by omega) ?_ (fun _ s => s)
      exact .cons rfl rfl (.cons rfl rfl (.cons rfl rfl (.cons rfl rfl .nil)))
  by_cases h0 : k = 1
  · subst h0
    repeat' (first|refine tw_ ?_|(refine ta_ ?_;intro _)|((fail_if_success (refine ybi rfl ?_));refine ybj rfl ?_ ?_<;>(intro ht;rw [ht];first|replace ht := oet_ ht|replace ht := oef_ ht|skip))|(refine ych ?_;first|(refine ybw rfl ?_ ?_<;>intro ht)|(refine ybx rfl ?_ ?_<;>intro ht)))
    · refine nx_ret1 rfl (rv_tmp rfl) (fun w' s' => ⟨(), ?_, s', trivial⟩)
      rw [if_neg (by have := h1 (by omega); simp [this])]
    · refine nx_round 2 (by omega) (by omega) ?_ (fun _ s => s)
      exact .cons rfl rfl (.cons rfl rfl (.cons rfl rfl (.cons rfl rfl .nil)))
  · have : k = 2 := by omega
    subst this
    repeat' (first|refine tw_ ?_|(refine ta_ ?_;intro _)|((fail_if_success (refine ybi rfl ?_));refine ybj rfl ?_ ?_<;>(intro ht;rw [ht];first|replace ht := oet_ ht|replace ht := oef_ ht|skip))|(refine ych ?_;first|(refine ybw rfl ?_ ?_<;>intro ht)|(refine ybx rfl ?_ ?_<;>intro ht)))
    refine nx_ret1 rfl (rv_tmp rfl) (fun w' s' => ⟨(), ?_, s', trivial⟩)
    rw [if_neg (by have := h1 (by omega); simp [this]), h2 (by omega)]
theorem order_sp (a b : Dt) (h : View) (w : World) (s : St ⟨w, h, []⟩ h [] w) :
    Calls Tryz.prog 85 [dv a, dv b].toArray w fun e w' => e = .returned (.int .i64 (ordD a b)) ∧ St ⟨w, h, []⟩ h [] w' := by
  refine calls_enter Tryz.func85 rfl Tryz.ntmps85 rfl s ?_
  repeat' (first|refine tw_ ?_|(refine ta_ ?_;intro _)|((fail_if_success (refine ybi rfl ?_));refine ybj rfl ?_ ?_<;>(intro ht;rw [ht];first|replace ht := oet_ ht|replace ht := oef_ ht|skip))|(refine ych ?_;first|(refine ybw rfl ?_ ?_<;>intro ht)|(refine ybx rfl ?_ ?_<;>intro ht)))
  refine cx_region_draw' rfl (by kernel_rfl) ?_
  repeat' (refine ycf ?_;(first|refine tz_ ?_|((fail_if_success (refine ybi rfl ?_));refine ybj rfl ?_ ?_<;>(intro ht;rw [ht];first|replace ht := oet_ ht|replace ht := oef_ ht|skip))|(refine tb_ ?_ ?_ ?_;(·exact to_);(·intro _;exact to_);intro _)|refine ycg ?_))
  (refine ycn (ycp Tryz.func98 rfl (by kernel_rfl) rfl) (compare_sp _ _ h) rfl rfl rfl ?_ ?_; (· (exact to_)))
  repeat' (refine ycf ?_;(first|refine tz_ ?_|((fail_if_success (refine ybi rfl ?_));refine ybj rfl ?_ ?_<;>(intro ht;rw [ht];first|replace ht := oet_ ht|replace ht := oef_ ht|skip))|(refine tb_ ?_ ?_ ?_;(·exact to_);(·intro _;exact to_);intro _)|refine ycg ?_))
  (refine ycn (ycp Tryz.func98 rfl (by kernel_rfl) rfl) (compare_sp _ _ h) rfl rfl rfl ?_ ?_; (· (exact to_)))
  repeat' (refine ycf ?_;(first|refine tz_ ?_|((fail_if_success (refine ybi rfl ?_));refine ybj rfl ?_ ?_<;>(intro ht;rw [ht];first|replace ht := oet_ ht|replace ht := oef_ ht|skip))|(refine tb_ ?_ ?_ ?_;(·exact to_);(·intro _;exact to_);intro _)|refine ycg ?_))
  (refine rx_call_m (ycp Tryz.func97 rfl (by kernel_rfl) rfl) (perm_at (k := 0) rfl) (or2_sp _ _ _ _ h) rfl rfl rfl ?_ ?_ ?_; (· (exact to_)); (· intro _ _ hle; (exact to_)); intro x px hle)
  repeat' (refine ycf ?_;(first|refine tz_ ?_|((fail_if_success (refine ybi rfl ?_));refine ybj rfl ?_ ?_<;>(intro ht;rw [ht];first|replace ht := oet_ ht|replace ht := oef_ ht|skip))|(refine tb_ ?_ ?_ ?_;(·exact to_);(·intro _;exact to_);intro _)|refine ycg ?_))
  repeat' (first|refine tw_ ?_|(refine ta_ ?_;intro _)|((fail_if_success (refine ybi rfl ?_));refine ybj rfl ?_ ?_<;>(intro ht;rw [ht];first|replace ht := oet_ ht|replace ht := oef_ ht|skip))|(refine ych ?_;first|(refine ybw rfl ?_ ?_<;>intro ht)|(refine ybx rfl ?_ ?_<;>intro ht)))
  exact nx_ret1 rfl (rv_tmp rfl) (fun w' s' => ⟨rfl, s'.nil⟩)
end Go.Proofs.YtaofgcahmfailaaGreatDoor
end

section
namespace Go.Proofs.YtaofgcahmfailaaGreatDoor
open Go Go.Ck
theorem dcs_len (d : Dt) : (dcs d).length = 2 := rfl
abbrev Ds (h : View) (v : Value) (l : List Dt) : Prop := Sc h 2 v l.length (l.flatMap dcs)
def up (u : List Int) : List Value := u.map (Value.int .i64)
def cxc (u : List Int) (mv : Value) : List Value := up u ++ [mv]
def cxv (u : List Int) (mv : Value) : Value := .agg (cxc u mv).toArray
structure Cx (h : View) (v : Value) (u : List Int) (l : List Dt) : Prop where
  len : u.length = 16
  val : ∃ mv, v = cxv u mv ∧ Ds h mv l
theorem up_len (u : List Int) : (up u).length = u.length := by simp [up]
theorem cxc_up {u : List Int} {mv : Value} {i : Nat} (hi : i < u.length) : (cxc u mv)[i]? = some (.int .i64 (u.getD i 0)) := by
  simp [cxc, up, List.getElem?_append, hi]
theorem cxc_more {u : List Int} {mv : Value} (hu : u.length = 16) : (cxc u mv)[16]? = some mv := by
  simp [cxc, up, hu]
theorem ycl {h : View} {L : List Res} {b o : Nat} {u : List Int} {mv : Value} (c : Cells h L ⟨b, 0, none⟩ (cxc u mv)) (i : Nat) (ho : o = 0 + i) (hi : i < u.length) : CellAt h L b o (.int .i64 (u.getD i 0)) := by
  subst ho; exact c.cell (cxc_up hi)
theorem yck {h : View} {L : List Res} {b o : Nat} {u : List Int} {mv : Value} (c : Cells h L ⟨b, 0, none⟩ (cxc u mv)) (hu : u.length = 16) (ho : o = 0 + 16) : CellAt h L b o mv := by
  subst ho; exact c.cell (cxc_more hu)
theorem ycm {h : View} {L : List Res} {b : Nat} {u : List Int} {mv : Value} (c : Cells h L ⟨b, 0, none⟩ (cxc u mv)) : Cells h L ⟨b, 0, none⟩ (up u) := by
  have := c.take (up u).length
  simpa [cxc] using this
theorem ycj {u : List Int} {mv : Value} (hu : u.length = 16) : (cxc u mv).length = 17 := by simp [cxc, up, hu]
theorem dot_eq (a b : Dt) (w : World) : (Op.equal 45 (.agg (dcs a).toArray) (.agg (dcs b).toArray)).run Tryz.prog w = .ok (decide (a = b)) w := by
  unfold Op.equal Op.maxDepth
  rw [run_equalIn_struct w 9999 45 _ _ Tryz.underlying45 Tryz.stoodInHeld45]
  have h1 : ∀ i j : Int, (Op.equalIn 9999 3 (.int .i64 i) (.int .i64 j)).run Tryz.prog w = .ok (i == j) w := fun i j => run_equalIn_int w 9998 3 .i64 .i64 i j Tryz.underlying3
  simp only [Program.fieldsOf, Tryz.underlying45, Op.eqFields]
  simp [part, Tryz.isAgg3, dcs, h1]
  by_cases e1 : a.1 = b.1
  · by_cases e2 : a.2 = b.2
    · simp [e1, e2, Prod.ext_iff]
    · simp [e1, e2, Prod.ext_iff]
  · simp [e1, Prod.ext_iff]
theorem index_sp (sv : Value) (l : List Dt) (d : Dt) (h : View) (hs : Ds h sv l) (hl : l.length ≤ 4611686018427387904) (w : World) (s : St ⟨w, h, []⟩ h [] w) :
    Calls Tryz.prog 86 [sv, dv d].toArray w fun e w' => ∃ r : Int, e = .returned (.int .i64 r) ∧ St ⟨w, h, []⟩ h [] w' ∧ (0 ≤ r ↔ d ∈ l) := by
  obtain ⟨_, ad, cap, rfl, hcap, _⟩ := id hs
  refine calls_enter Tryz.func86 rfl Tryz.ntmps86 rfl s ?_
  repeat' (first|refine tw_ ?_|(refine ta_ ?_;intro _)|((fail_if_success (refine ybi rfl ?_));refine ybj rfl ?_ ?_<;>(intro ht;rw [ht];first|replace ht := oet_ ht|replace ht := oef_ ht|skip))|(refine ych ?_;first|(refine ybw rfl ?_ ?_<;>intro ht)|(refine ybx rfl ?_ ?_<;>intro ht)))
  rename_i b
  refine cx_loop (X := Nat) (fun k => [(0, .slice ad l.length cap), (3, .pointer (some ⟨b, 0, none⟩)), (7, .int .i64 l.length), (8, .int .i64 k)]) (fun _ => h) (fun _ => _) (fun k => k ≤ l.length ∧ ∀ j (hj : j < l.length), j < k → l[j] ≠ d) (fun k => l.length - k) 0 ⟨by omega, by omega⟩ ?_ (fun _ s => s) ?_
  · exact .cons rfl rfl (.cons rfl rfl (.cons rfl rfl (.cons rfl rfl .nil)))
  rintro k ⟨hk, hno⟩
  by_cases hkl : k < l.length
  · obtain ⟨bs, o, rfl⟩ := hs.ad (by omega) (by omega)
    have hel : ∀ L, Cells h L ⟨bs, o + k * 2, none⟩ (dcs l[k]) := fun L => hs.elem dcs_len k hkl
    repeat' (first|refine tw_ ?_|(refine ta_ ?_;intro _)|((fail_if_success (refine ybi rfl ?_));refine ybj rfl ?_ ?_<;>(intro ht;rw [ht];first|replace ht := oet_ ht|replace ht := oef_ ht|skip))|(refine ych ?_;first|(refine ybw rfl ?_ ?_<;>intro ht)|(refine ybx rfl ?_ ?_<;>intro ht)))
    · refine cx_region_draw' rfl (by kernel_rfl) ?_
      repeat' (refine ycf ?_;(first|(first|(apply ybm;(·(first|(first|(refine yad rfl (hel _) ?_;rfl)|exact qv_eql_agg rfl rfl (fun w => dot_eq _ _ w))|exact tq_));(·rfl);(·rfl);(·(exact th_)))|refine ybl rfl rfl ?_|((fail_if_success (refine ybi rfl ?_));refine ybj rfl ?_ ?_<;>(intro ht;rw [ht];first|replace ht := oet_ ht|replace ht := oef_ ht|skip))|(refine tb_ ?_ ?_ ?_;(·(exact to_));(·intro _;(exact to_));intro _)|(first|(refine tqs_ ?_ ?_ ?_;(·(exact to_));(·(exact to_))))|(apply ybn;(·(first|(first|(refine yad rfl (hel _) ?_;rfl)|exact qv_eql_agg rfl rfl (fun w => dot_eq _ _ w))|exact tq_));(·rfl);(·rfl);(·rfl);(·(exact to_))))|refine ycg ?_))
      repeat' (first|(refine ycf ?_;apply ybk;(·first|(first|(refine yad rfl (hel _) ?_;rfl)|exact qv_eql_agg rfl rfl (fun w => dot_eq _ _ w)));(·rfl);(·rfl))|refine t1_ ?_|(refine ta_ ?_;intro _)|((fail_if_success (refine ybi rfl ?_));refine ybj rfl ?_ ?_<;>(intro ht;rw [ht];first|replace ht := oet_ ht|replace ht := oef_ ht|skip))|(refine ych ?_;first|(refine ybw rfl ?_ ?_<;>intro ht)|(refine ybx rfl ?_ ?_<;>intro ht)))
      · refine nx_ret1 rfl (rv_tmp rfl) (fun w' s' => ⟨_, rfl, s'.nil, ?_⟩)
        subst ht
        simp
      · refine nx_round (k + 1) ⟨by omega, fun j hj hjk => ?_⟩ (by omega) ?_ (fun _ s => s)
        · by_cases hjk' : j = k
          · subst hjk'; exact fun e => ht e.symm
          · exact hno j hj (by omega)
        exact .cons rfl rfl (.cons rfl rfl (.cons rfl rfl (.cons rfl rfl .nil)))
    · omega
  · repeat' (first|(refine ycf ?_;apply ybk;(·first|(first|(refine yad rfl (hel _) ?_;rfl)|exact qv_eql_agg rfl rfl (fun w => dot_eq _ _ w)));(·rfl);(·rfl))|refine t1_ ?_|(refine ta_ ?_;intro _)|((fail_if_success (refine ybi rfl ?_));refine ybj rfl ?_ ?_<;>(intro ht;rw [ht];first|replace ht := oet_ ht|replace ht := oef_ ht|skip))|(refine ych ?_;first|(refine ybw rfl ?_ ?_<;>intro ht)|(refine ybx rfl ?_ ?_<;>intro ht)))
    · omega
    · refine nx_ret1 rfl (rv_tmp rfl) (fun w' s' => ⟨_, rfl, s'.nil, ?_⟩)
      constructor
      · intro hx; omega
      · intro hm
        obtain ⟨j, hj, rfl⟩ := List.getElem_of_mem hm
        exact absurd rfl (hno j hj (by omega))
theorem contains_sp (sv : Value) (l : List Dt) (d : Dt) (h : View) (hs : Ds h sv l) (hl : l.length ≤ 4611686018427387904) (w : World) (s : St ⟨w, h, []⟩ h [] w) :
    Calls Tryz.prog 71 [sv, dv d].toArray w fun e w' => e = .returned (.bool (decide (d ∈ l))) ∧ St ⟨w, h, []⟩ h [] w' := by
  refine calls_enter Tryz.func71 rfl Tryz.ntmps71 rfl s ?_
  repeat' (first|(refine ycf ?_;apply ybk;(·first|(first|(refine yad rfl (hel _) ?_;rfl)|exact qv_eql_agg rfl rfl (fun w => dot_eq _ _ w)));(·rfl);(·rfl))|refine t1_ ?_|(refine ta_ ?_;intro _)|((fail_if_success (refine ybi rfl ?_));refine ybj rfl ?_ ?_<;>(intro ht;rw [ht];first|replace ht := oet_ ht|replace ht := oef_ ht|skip))|(refine ych ?_;first|(refine ybw rfl ?_ ?_<;>intro ht)|(refine ybx rfl ?_ ?_<;>intro ht)))
  (refine yco (ycp Tryz.func86 rfl (by kernel_rfl) rfl) (index_sp _ l d h hs hl) rfl rfl rfl ?_ ?_ ?_; (· (exact to_)); (· intro _ _ hle; (exact to_)); intro x px hle)
  repeat' (first|(refine ycf ?_;apply ybk;(·first|(first|(refine yad rfl (hel _) ?_;rfl)|exact qv_eql_agg rfl rfl (fun w => dot_eq _ _ w)));(·rfl);(·rfl))|refine t1_ ?_|(refine ta_ ?_;intro _)|((fail_if_success (refine ybi rfl ?_));refine ybj rfl ?_ ?_<;>(intro ht;rw [ht];first|replace ht := oet_ ht|replace ht := oef_ ht|skip))|(refine ych ?_;first|(refine ybw rfl ?_ ?_<;>intro ht)|(refine ybx rfl ?_ ?_<;>intro ht)))
  refine nx_ret1 rfl (rv_tmp rfl) (fun w' s' => ⟨?_, s'.nil⟩)
  congr 2; rw [decide_eq_decide]; exact px
end Go.Proofs.YtaofgcahmfailaaGreatDoor
end
