/-
  BitC: bits.PutHigh; codec.Out: put, Num, Small, Done; bytes.Clone.
  Conditions: each theorem states its own.
-/
import Derived.Test.YtbpahaciegfpfaaBitB
import Derived.Test.YtbpahaciegfpfaaCkLend
import Derived.Laws.Pointers
namespace Go.Proofs.Ytbpahaciegfpfaa
open Go Go.Ck
set_option maxRecDepth 100000
set_option maxHeartbeats 1000000
set_option linter.unusedVariables false

theorem PutHigh_sp (x : Int) (m : Nat) (hx : 0 ≤ x ∧ x < 18446744073709551616) (h0 : 0 < m) (hm : m ≤ 64) (h : View) (w : World) (s : St ⟨w, h, []⟩ h [] w) :
    Calls Try.prog 77 [.int .u64 x, .int .i64 m].toArray w fun e w' => ∃ v, e = .returned v ∧ St ⟨w, h, []⟩ h [rowB v (putLow m x).reverse] w' ∧ True := by
  have hlen := putLow_len m x
  refine calls_enter Try.func77 rfl Try.ntmps77 rfl s ?_
  repeat' (first | refine tw_ ?_ | (refine ta_ ?_; intro _) | ((fail_if_success (refine ybi rfl ?_)); refine ybj rfl ?_ ?_ <;> (intro ht; rw [ht]; first | replace ht := of_decide_eq_true ht | replace ht := of_decide_eq_false ht | skip)) | (refine ych ?_; first | (refine ybw rfl ?_ ?_ <;> intro ht) | (refine ybx rfl ?_ ?_ <;> intro ht)))
  (refine yco (ycp Try.func84 rfl (by kernel_rfl) rfl) (PutLow_sp x m hx hm h) rfl rfl rfl ?_ ?_ ?_; (· (exact to_)); (· intro _ _ hle; (exact to_)); intro x px hle)
  refine rx_rowform 0 rfl (fun _ h1 _ => (by omega)) ?_
  rintro g cap rfl
  repeat' (first | refine tw_ ?_ | (refine ta_ ?_; intro _) | ((fail_if_success (refine ybi rfl ?_)); refine ybj rfl ?_ ?_ <;> (intro ht; rw [ht]; first | replace ht := of_decide_eq_true ht | replace ht := of_decide_eq_false ht | skip)) | (refine ych ?_; first | (refine ybw rfl ?_ ?_ <;> intro ht) | (refine ybx rfl ?_ ?_ <;> intro ht)))
  (refine rx_call_m (ycp Try.func85 rfl (by kernel_rfl) rfl) (perm_at (k := 0) rfl) (Reverse_sp g cap (putLow m x) (by omega) h) rfl rfl rfl ?_ ?_ ?_; (· (exact to_)); (· intro _ _ hle; (exact to_)); intro x px hle)
  repeat' (first | refine tw_ ?_ | (refine ta_ ?_; intro _) | ((fail_if_success (refine ybi rfl ?_)); refine ybj rfl ?_ ?_ <;> (intro ht; rw [ht]; first | replace ht := of_decide_eq_true ht | replace ht := of_decide_eq_false ht | skip)) | (refine ych ?_; first | (refine ybw rfl ?_ ?_ <;> intro ht) | (refine ybx rfl ?_ ?_ <;> intro ht)))
  exact nx_ret1 rfl (rv_tmp rfl) (fun w' s' => ⟨_, rfl, s', trivial⟩)

theorem qv_eql_pnil {P : Program} {n : Nat} {F : List (Nat × Value)} {h : View} {L : List Res} {dst : Option Nat} {ty : Nat} {pos : String} {af : Array Edge} {gd : Option (Nat × Bool)} {T T' e : Nat} {x y : Operand} {ad : Addr} [tu : TyU P T (.pointer e)] (hx : ev F x = some (.pointer (some ad))) (hy : ev F y = some (.pointer none)) :
    QV P n F h L ⟨dst, .binOp .eql T x y T', ty, pos, af, gd⟩ (.bool false) := by
  refine .mk fun a w f s => ?_
  have hp : P.underlying T = some (.pointer (P.pointee T)) := by
    have := tu.u
    simp [Program.pointee, this]
  have hg : (eqGuard .eql T x y (.pointer (some ad)) (.pointer none)).run P w = .ok () w := by simp [eqGuard]
  have he := run_equal_pointer_nil (P := P) (w := w) T (some ad) hp
  simp only [execOp, f.ev hx, f.ev hy, Sem.run_bind, hg, Result.andThen_ok, binOp, he]
  rfl

abbrev outR (bo : Nat) (v : Value) (bad : Bool) : Res := Res.blk bo (.cells #[v, .bool bad] 80 (0, 0))
theorem wrap_u64 {n : Int} (h0 : 0 ≤ n) (h1 : n < 18446744073709551616) : IntKind.u64.wrap n = n := by
  simp [IntKind.wrap, IntKind.bits, IntKind.signed]; omega

theorem put_sp (bo : Nat) (v : Value) (l : List Int) (bad : Bool) (n : Int) (size : Nat) (ok : Bool) (hn : ok = true → 0 ≤ n) (hn2 : n < 9223372036854775808) (h0 : 0 < size) (hsz : size ≤ 64) (hl : l.length ≤ 1000000) (h : View) (w : World) (s : St ⟨w, h, doms [outR bo v bad, rowB v l]⟩ h [outR bo v bad, rowB v l] w) :
    Calls Try.prog 63 [.pointer (some ⟨bo, 0, none⟩), .int .i64 n, .int .i64 size, .bool ok].toArray w fun e w' => ∃ x : Value, e = .returned (.pointer (some ⟨bo, 0, none⟩)) ∧
      St ⟨w, h, doms [outR bo v bad, rowB v l]⟩ h [outR bo x (bad || !ok), rowB x (if ok then l ++ (putLow size n).reverse else l)] w' ∧ True := by
  refine calls_enter Try.func63 rfl Try.ntmps63 rfl s ?_
  cases ok with
  | false =>
    repeat' (first | (refine ycf ?_; apply ybk; (· first | (first | (apply qv_eql_pnil <;> rfl) | (apply qv_nilCheck; rfl))); (· rfl); (· rfl)) | refine t1_ ?_ | (refine ta_ ?_; intro _) | ((fail_if_success (refine ybi rfl ?_)); refine ybj rfl ?_ ?_ <;> (intro ht; rw [ht]; first | replace ht := of_decide_eq_true ht | replace ht := of_decide_eq_false ht | skip)) | (refine ych ?_; first | (refine ybw rfl ?_ ?_ <;> intro ht) | (refine ybx rfl ?_ ?_ <;> intro ht)))
    refine nx_ret1 rfl (rv_tmp rfl) (fun w' s' => ⟨v, rfl, ?_, trivial⟩)
    rw [Bool.not_false, Bool.or_true]
    exact s'
  | true =>
    have hw := wrap_u64 (hn rfl) (by omega)
    have hlen := putLow_len size n
    repeat' (first | (refine ycf ?_; apply ybk; (· first | (first | (apply qv_eql_pnil <;> rfl) | (apply qv_nilCheck; rfl) | (refine qv_convert_int' rfl hw))); (· rfl); (· rfl)) | refine t1_ ?_ | (refine ta_ ?_; intro _) | ((fail_if_success (refine ybi rfl ?_)); refine ybj rfl ?_ ?_ <;> (intro ht; rw [ht]; first | replace ht := of_decide_eq_true ht | replace ht := of_decide_eq_false ht | skip)) | (refine ych ?_; first | (refine ybw rfl ?_ ?_ <;> intro ht) | (refine ybx rfl ?_ ?_ <;> intro ht)))
    refine cx_region_draw [outR bo v bad] rfl (by kernel_rfl) ?_
    repeat' (refine ycf ?_;(first|(first|(apply ybm;(·(first|(first|(apply qv_eql_pnil<;>rfl)|(apply qv_nilCheck;rfl)|(refine qv_convert_int' rfl hw))|exact tq_));(·rfl);(·rfl);(·(first|exact fun _ s => Hd.sub s (Le.refl h) (fun r hr => List.mem_append_left [_] hr)|exact fun _ s => Hd.sub s (Le.refl h) (fun r hr => List.mem_cons_of_mem _ (List.mem_append_left [_] hr)))))|refine ybl rfl rfl ?_|((fail_if_success (refine ybi rfl ?_));refine ybj rfl ?_ ?_<;>(intro ht;rw [ht];first|replace ht := of_decide_eq_true ht|replace ht := of_decide_eq_false ht|skip))|(refine tb_ ?_ ?_ ?_;(·(first|exact ybf|(refine .inl ?_;(first|exact fun _ s => Hd.sub s (Le.refl h) (fun r hr => List.mem_append_left [_] hr)|exact fun _ s => Hd.sub s (Le.refl h) (fun r hr => List.mem_cons_of_mem _ (List.mem_append_left [_] hr))))|exact to_));(·intro _;(first|exact ybf|(refine .inl ?_;(first|exact fun _ s => Hd.sub s (Le.refl h) (fun r hr => List.mem_append_left [_] hr)|exact fun _ s => Hd.sub s (Le.refl h) (fun r hr => List.mem_cons_of_mem _ (List.mem_append_left [_] hr))))|exact to_));intro _)|(first|(refine tqs_ ?_ ?_ ?_;(·(first|exact ybf|(refine .inl ?_;(first|exact fun _ s => Hd.sub s (Le.refl h) (fun r hr => List.mem_append_left [_] hr)|exact fun _ s => Hd.sub s (Le.refl h) (fun r hr => List.mem_cons_of_mem _ (List.mem_append_left [_] hr))))|exact to_));(·(first|exact ybf|(refine .inl ?_;(first|exact fun _ s => Hd.sub s (Le.refl h) (fun r hr => List.mem_append_left [_] hr)|exact fun _ s => Hd.sub s (Le.refl h) (fun r hr => List.mem_cons_of_mem _ (List.mem_append_left [_] hr))))|exact to_))))|(apply ybn;(·(first|(first|(apply qv_eql_pnil<;>rfl)|(apply qv_nilCheck;rfl)|(refine qv_convert_int' rfl hw))|exact tq_));(·rfl);(·rfl);(·rfl);(·(first|exact ybf|(refine .inl ?_;(first|exact fun _ s => Hd.sub s (Le.refl h) (fun r hr => List.mem_append_left [_] hr)|exact fun _ s => Hd.sub s (Le.refl h) (fun r hr => List.mem_cons_of_mem _ (List.mem_append_left [_] hr))))|exact to_))))|refine ycg ?_))
    (refine yco (ycp Try.func77 rfl (by kernel_rfl) rfl) (PutHigh_sp n size ⟨hn rfl, by omega⟩ h0 hsz h) rfl rfl rfl ?_ ?_ ?_; (· (first | exact ybf | (refine .inl ?_; (first | exact fun _ s => Hd.sub s (Le.refl h) (fun r hr => List.mem_append_left [_] hr) | exact fun _ s => Hd.sub s (Le.refl h) (fun r hr => List.mem_cons_of_mem _ (List.mem_append_left [_] hr)))) | exact to_)); (· intro _ _ hle; (first | exact ybf | (refine .inl ?_; (first | exact fun _ s => Hd.sub s (Le.refl h) (fun r hr => List.mem_append_left [_] hr) | exact fun _ s => Hd.sub s (Le.refl h) (fun r hr => List.mem_cons_of_mem _ (List.mem_append_left [_] hr)))) | exact to_)); intro x px hle)
    refine rx_rowform 0 rfl (fun _ h1 _ => (by rw [List.length_reverse] at h1; omega)) ?_
    rintro g cap rfl
    repeat' (refine ycf ?_;(first|(first|(apply ybm;(·(first|(first|(apply qv_eql_pnil<;>rfl)|(apply qv_nilCheck;rfl)|(refine qv_convert_int' rfl hw))|exact tq_));(·rfl);(·rfl);(·(first|exact fun _ s => Hd.sub s (Le.refl h) (fun r hr => List.mem_append_left [_] hr)|exact fun _ s => Hd.sub s (Le.refl h) (fun r hr => List.mem_cons_of_mem _ (List.mem_append_left [_] hr)))))|refine ybl rfl rfl ?_|((fail_if_success (refine ybi rfl ?_));refine ybj rfl ?_ ?_<;>(intro ht;rw [ht];first|replace ht := of_decide_eq_true ht|replace ht := of_decide_eq_false ht|skip))|(refine tb_ ?_ ?_ ?_;(·(first|exact ybf|(refine .inl ?_;(first|exact fun _ s => Hd.sub s (Le.refl h) (fun r hr => List.mem_append_left [_] hr)|exact fun _ s => Hd.sub s (Le.refl h) (fun r hr => List.mem_cons_of_mem _ (List.mem_append_left [_] hr))))|exact to_));(·intro _;(first|exact ybf|(refine .inl ?_;(first|exact fun _ s => Hd.sub s (Le.refl h) (fun r hr => List.mem_append_left [_] hr)|exact fun _ s => Hd.sub s (Le.refl h) (fun r hr => List.mem_cons_of_mem _ (List.mem_append_left [_] hr))))|exact to_));intro _)|(first|(refine tqs_ ?_ ?_ ?_;(·(first|exact ybf|(refine .inl ?_;(first|exact fun _ s => Hd.sub s (Le.refl h) (fun r hr => List.mem_append_left [_] hr)|exact fun _ s => Hd.sub s (Le.refl h) (fun r hr => List.mem_cons_of_mem _ (List.mem_append_left [_] hr))))|exact to_));(·(first|exact ybf|(refine .inl ?_;(first|exact fun _ s => Hd.sub s (Le.refl h) (fun r hr => List.mem_append_left [_] hr)|exact fun _ s => Hd.sub s (Le.refl h) (fun r hr => List.mem_cons_of_mem _ (List.mem_append_left [_] hr))))|exact to_))))|(apply ybn;(·(first|(first|(apply qv_eql_pnil<;>rfl)|(apply qv_nilCheck;rfl)|(refine qv_convert_int' rfl hw))|exact tq_));(·rfl);(·rfl);(·rfl);(·(first|exact ybf|(refine .inl ?_;(first|exact fun _ s => Hd.sub s (Le.refl h) (fun r hr => List.mem_append_left [_] hr)|exact fun _ s => Hd.sub s (Le.refl h) (fun r hr => List.mem_cons_of_mem _ (List.mem_append_left [_] hr))))|exact to_))))|refine ycg ?_))
    refine rx_append (sz := 1) 2 rfl rfl rfl (row_cells 0 rfl) (by rw [bcs_len, Nat.mul_one]) (bcs_one _) rfl (by omega) (by unfold maxLen; rw [List.length_reverse]; omega) (by rw [List.length_reverse]; omega) rfl rfl rfl ?_ ?_ ?_
    · (first | exact ybf | (refine .inl ?_; (first | exact fun _ s => Hd.sub s (Le.refl h) (fun r hr => List.mem_append_left [_] hr) | exact fun _ s => Hd.sub s (Le.refl h) (fun r hr => List.mem_cons_of_mem _ (List.mem_append_left [_] hr)))) | exact to_)
    · intro v'; (first | exact ybf | (refine .inl ?_; (first | exact fun _ s => Hd.sub s (Le.refl h) (fun r hr => List.mem_append_left [_] hr) | exact fun _ s => Hd.sub s (Le.refl h) (fun r hr => List.mem_cons_of_mem _ (List.mem_append_left [_] hr)))) | exact to_)
    intro v2 _
    refine rx_rowform 2 rfl (fun _ h1 _ => (by rw [List.length_reverse] at h1; omega)) ?_
    rintro g2 cap2 rfl
    repeat' (refine ycf ?_;(first|(first|(apply ybm;(·(first|(first|(apply qv_eql_pnil<;>rfl)|(apply qv_nilCheck;rfl)|(refine qv_convert_int' rfl hw))|exact tq_));(·rfl);(·rfl);(·(first|exact fun _ s => Hd.sub s (Le.refl h) (fun r hr => List.mem_append_left [_] hr)|exact fun _ s => Hd.sub s (Le.refl h) (fun r hr => List.mem_cons_of_mem _ (List.mem_append_left [_] hr)))))|refine ybl rfl rfl ?_|((fail_if_success (refine ybi rfl ?_));refine ybj rfl ?_ ?_<;>(intro ht;rw [ht];first|replace ht := of_decide_eq_true ht|replace ht := of_decide_eq_false ht|skip))|(refine tb_ ?_ ?_ ?_;(·(first|exact ybf|(refine .inl ?_;(first|exact fun _ s => Hd.sub s (Le.refl h) (fun r hr => List.mem_append_left [_] hr)|exact fun _ s => Hd.sub s (Le.refl h) (fun r hr => List.mem_cons_of_mem _ (List.mem_append_left [_] hr))))|exact to_));(·intro _;(first|exact ybf|(refine .inl ?_;(first|exact fun _ s => Hd.sub s (Le.refl h) (fun r hr => List.mem_append_left [_] hr)|exact fun _ s => Hd.sub s (Le.refl h) (fun r hr => List.mem_cons_of_mem _ (List.mem_append_left [_] hr))))|exact to_));intro _)|(first|(refine tqs_ ?_ ?_ ?_;(·(first|exact ybf|(refine .inl ?_;(first|exact fun _ s => Hd.sub s (Le.refl h) (fun r hr => List.mem_append_left [_] hr)|exact fun _ s => Hd.sub s (Le.refl h) (fun r hr => List.mem_cons_of_mem _ (List.mem_append_left [_] hr))))|exact to_));(·(first|exact ybf|(refine .inl ?_;(first|exact fun _ s => Hd.sub s (Le.refl h) (fun r hr => List.mem_append_left [_] hr)|exact fun _ s => Hd.sub s (Le.refl h) (fun r hr => List.mem_cons_of_mem _ (List.mem_append_left [_] hr))))|exact to_))))|(apply ybn;(·(first|(first|(apply qv_eql_pnil<;>rfl)|(apply qv_nilCheck;rfl)|(refine qv_convert_int' rfl hw))|exact tq_));(·rfl);(·rfl);(·rfl);(·(first|exact ybf|(refine .inl ?_;(first|exact fun _ s => Hd.sub s (Le.refl h) (fun r hr => List.mem_append_left [_] hr)|exact fun _ s => Hd.sub s (Le.refl h) (fun r hr => List.mem_cons_of_mem _ (List.mem_append_left [_] hr))))|exact to_))))|refine ycg ?_))
    repeat' (first | (refine ycf ?_; apply ybk; (· first | (first | (apply qv_eql_pnil <;> rfl) | (apply qv_nilCheck; rfl) | (refine qv_convert_int' rfl hw))); (· rfl); (· rfl)) | refine t1_ ?_ | (refine ta_ ?_; intro _) | ((fail_if_success (refine ybi rfl ?_)); refine ybj rfl ?_ ?_ <;> (intro ht; rw [ht]; first | replace ht := of_decide_eq_true ht | replace ht := of_decide_eq_false ht | skip)) | (refine ych ?_; first | (refine ybw rfl ?_ ?_ <;> intro ht) | (refine ybx rfl ?_ ?_ <;> intro ht)))
    refine nx_ret1 rfl (rv_tmp rfl) (fun w' s' => ⟨.slice (some ⟨g2, 0, none⟩) (l.length + (putLow size n).reverse.length) cap2, rfl, ?_, trivial⟩)
    have s2 := s'.tl
    rw [Bool.not_true, Bool.or_false, if_pos rfl]
    unfold rowB
    rw [List.length_append, bcs_app]
    exact s2

theorem OutNum_sp (bo : Nat) (v : Value) (l : List Int) (bad : Bool) (n : Int) (h0 : 0 ≤ n) (hn2 : n < 9223372036854775808) (hl : l.length ≤ 1000000) (h : View) (w : World) (s : St ⟨w, h, doms [outR bo v bad, rowB v l]⟩ h [outR bo v bad, rowB v l] w) :
    Calls Try.prog 49 [.pointer (some ⟨bo, 0, none⟩), .int .i64 n].toArray w fun e w' => ∃ x : Value, e = .returned (.pointer (some ⟨bo, 0, none⟩)) ∧
      St ⟨w, h, doms [outR bo v bad, rowB v l]⟩ h [outR bo x bad, rowB x (l ++ (putLow 8 n).reverse)] w' ∧ True := by
  refine calls_enter Try.func49 rfl Try.ntmps49 rfl s ?_
  have ht0 : decide (0 ≤ n) = true := decide_eq_true h0
  repeat' (first | (refine ycf ?_; apply ybk; (· first | (first | (apply qv_eql_pnil <;> rfl) | (apply qv_nilCheck; rfl) | (refine qv_convert_int' rfl hw))); (· rfl); (· rfl)) | refine t1_ ?_ | (refine ta_ ?_; intro _) | ((fail_if_success (refine ybi rfl ?_)); refine ybj rfl ?_ ?_ <;> (intro ht; rw [ht]; first | replace ht := of_decide_eq_true ht | replace ht := of_decide_eq_false ht | skip)) | (refine ych ?_; first | (refine ybw rfl ?_ ?_ <;> intro ht) | (refine ybx rfl ?_ ?_ <;> intro ht)))
  rw [ht0]
  (refine rx_call_2 (ycp Try.func63 rfl (by kernel_rfl) rfl) (put_sp bo v l bad n 8 true (fun _ => h0) hn2 (by omega) (by omega) hl h) rfl rfl rfl ?_ ?_ ?_; (· (first | exact ybf | (refine .inl ?_; (first | exact fun _ s => Hd.sub s (Le.refl h) (fun r hr => List.mem_append_left [_] hr) | exact fun _ s => Hd.sub s (Le.refl h) (fun r hr => List.mem_cons_of_mem _ (List.mem_append_left [_] hr)))) | exact to_)); (· intro _ _ hle; (first | exact ybf | (refine .inl ?_; (first | exact fun _ s => Hd.sub s (Le.refl h) (fun r hr => List.mem_append_left [_] hr) | exact fun _ s => Hd.sub s (Le.refl h) (fun r hr => List.mem_cons_of_mem _ (List.mem_append_left [_] hr)))) | exact to_)); intro x px hle)
  repeat' (first | (refine ycf ?_; apply ybk; (· first | (first | (apply qv_eql_pnil <;> rfl) | (apply qv_nilCheck; rfl) | (refine qv_convert_int' rfl hw))); (· rfl); (· rfl)) | refine t1_ ?_ | (refine ta_ ?_; intro _) | ((fail_if_success (refine ybi rfl ?_)); refine ybj rfl ?_ ?_ <;> (intro ht; rw [ht]; first | replace ht := of_decide_eq_true ht | replace ht := of_decide_eq_false ht | skip)) | (refine ych ?_; first | (refine ybw rfl ?_ ?_ <;> intro ht) | (refine ybx rfl ?_ ?_ <;> intro ht)))
  refine nx_ret1 rfl (rv_tmp rfl) (fun w' s' => ⟨x, rfl, ?_, trivial⟩)
  rw [Bool.not_true, Bool.or_false, if_pos rfl] at s'
  exact s'

theorem OutSmall_sp (bo : Nat) (v : Value) (l : List Int) (bad : Bool) (n : Int) (h0 : 0 ≤ n) (hn2 : n ≤ 255) (hl : l.length ≤ 1000000) (h : View) (w : World) (s : St ⟨w, h, doms [outR bo v bad, rowB v l]⟩ h [outR bo v bad, rowB v l] w) :
    Calls Try.prog 50 [.pointer (some ⟨bo, 0, none⟩), .int .i64 n].toArray w fun e w' => ∃ x : Value, e = .returned (.pointer (some ⟨bo, 0, none⟩)) ∧
      St ⟨w, h, doms [outR bo v bad, rowB v l]⟩ h [outR bo x bad, rowB x (l ++ (putLow 1 n).reverse)] w' ∧ True := by
  refine calls_enter Try.func50 rfl Try.ntmps50 rfl s ?_
  have ht0 : decide (0 ≤ n ∧ n ≤ 255) = true := decide_eq_true ⟨h0, hn2⟩
  repeat' (first | (refine ycf ?_; apply ybk; (· first | (first | (apply qv_eql_pnil <;> rfl) | (apply qv_nilCheck; rfl) | (refine qv_convert_int' rfl hw))); (· rfl); (· rfl)) | refine t1_ ?_ | (refine ta_ ?_; intro _) | ((fail_if_success (refine ybi rfl ?_)); refine ybj rfl ?_ ?_ <;> (intro ht; rw [ht]; first | replace ht := of_decide_eq_true ht | replace ht := of_decide_eq_false ht | skip)) | (refine ych ?_; first | (refine ybw rfl ?_ ?_ <;> intro ht) | (refine ybx rfl ?_ ?_ <;> intro ht)))
  (refine yco (ycp Try.func64 rfl (by kernel_rfl) rfl) (Byte_sp n h) rfl rfl rfl ?_ ?_ ?_; (· (first | exact ybf | (refine .inl ?_; (first | exact fun _ s => Hd.sub s (Le.refl h) (fun r hr => List.mem_append_left [_] hr) | exact fun _ s => Hd.sub s (Le.refl h) (fun r hr => List.mem_cons_of_mem _ (List.mem_append_left [_] hr)))) | exact to_)); (· intro _ _ hle; (first | exact ybf | (refine .inl ?_; (first | exact fun _ s => Hd.sub s (Le.refl h) (fun r hr => List.mem_append_left [_] hr) | exact fun _ s => Hd.sub s (Le.refl h) (fun r hr => List.mem_cons_of_mem _ (List.mem_append_left [_] hr)))) | exact to_)); intro x px hle)
  repeat' (first | (refine ycf ?_; apply ybk; (· first | (first | (apply qv_eql_pnil <;> rfl) | (apply qv_nilCheck; rfl) | (refine qv_convert_int' rfl hw))); (· rfl); (· rfl)) | refine t1_ ?_ | (refine ta_ ?_; intro _) | ((fail_if_success (refine ybi rfl ?_)); refine ybj rfl ?_ ?_ <;> (intro ht; rw [ht]; first | replace ht := of_decide_eq_true ht | replace ht := of_decide_eq_false ht | skip)) | (refine ych ?_; first | (refine ybw rfl ?_ ?_ <;> intro ht) | (refine ybx rfl ?_ ?_ <;> intro ht)))
  rw [ht0]
  (refine rx_call_2 (ycp Try.func63 rfl (by kernel_rfl) rfl) (put_sp bo v l bad n 1 true (fun _ => h0) (by omega) (by omega) (by omega) hl h) rfl rfl rfl ?_ ?_ ?_;(·(first|exact ybf|(refine .inl ?_;(first|exact fun _ s => Hd.sub s (Le.refl h) (fun r hr => List.mem_append_left [_] hr)|exact fun _ s => Hd.sub s (Le.refl h) (fun r hr => List.mem_cons_of_mem _ (List.mem_append_left [_] hr))))|exact to_));(·intro _ _ hle;(first|exact ybf|(refine .inl ?_;(first|exact fun _ s => Hd.sub s (Le.refl h) (fun r hr => List.mem_append_left [_] hr)|exact fun _ s => Hd.sub s (Le.refl h) (fun r hr => List.mem_cons_of_mem _ (List.mem_append_left [_] hr))))|exact to_));intro x px hle)
  repeat' (first | (refine ycf ?_; apply ybk; (· first | (first | (apply qv_eql_pnil <;> rfl) | (apply qv_nilCheck; rfl) | (refine qv_convert_int' rfl hw))); (· rfl); (· rfl)) | refine t1_ ?_ | (refine ta_ ?_; intro _) | ((fail_if_success (refine ybi rfl ?_)); refine ybj rfl ?_ ?_ <;> (intro ht; rw [ht]; first | replace ht := of_decide_eq_true ht | replace ht := of_decide_eq_false ht | skip)) | (refine ych ?_; first | (refine ybw rfl ?_ ?_ <;> intro ht) | (refine ybx rfl ?_ ?_ <;> intro ht)))
  refine nx_ret1 rfl (rv_tmp rfl) (fun w' s' => ⟨x, rfl, ?_, trivial⟩)
  rw [Bool.not_true, Bool.or_false, if_pos rfl] at s'
  exact s'

theorem BClone_sp (sv : Value) (l : List Int) (h : View) (hs : Bs8 h sv l) (hl : l.length ≤ 1000000) (w : World) (s : St ⟨w, h, []⟩ h [] w) :
    Calls Try.prog 60 [sv].toArray w fun e w' => ∃ v, e = .returned v ∧ St ⟨w, h, []⟩ h [rowB v l] w' ∧ True := by
  obtain ⟨_, ad, cap, rfl, hcap, _⟩ := id hs
  refine calls_enter Try.func60 rfl Try.ntmps60 rfl s ?_
  repeat' (first | (refine ycf ?_; apply ybk; (· first | (first | (apply qv_eql_slnil <;> rfl))); (· rfl); (· rfl)) | refine t1_ ?_ | (refine ta_ ?_; intro _) | ((fail_if_success (refine ybi rfl ?_)); refine ybj rfl ?_ ?_ <;> (intro ht; rw [ht]; first | replace ht := of_decide_eq_true ht | replace ht := of_decide_eq_false ht | skip)) | (refine ych ?_; first | (refine ybw rfl ?_ ?_ <;> intro ht) | (refine ybx rfl ?_ ?_ <;> intro ht)))
  · cases ad with
    | some ad => cases ht
    | none =>
      have h0 : l = [] := by
        obtain ⟨h1, ad', cap', h2, h3, h4⟩ := hs
        cases h2
        rcases h4 with h4 | ⟨b, o, cs, e, fz, q1, _⟩
        · have := congrArg List.length h4
          rw [bcs_len] at this
          exact List.eq_nil_of_length_eq_zero this
        · cases q1
      subst h0
      refine nx_ret1 rfl (rv_tmp rfl) (fun w' s' => ⟨_, rfl, ?_, trivial⟩)
      exact s'.rowNil _ _
  · refine yba ma_buildSlice0 rfl rfl rfl ybf (fun _ => ybf) ?_
    intro b
    refine rx_rowOf 1 0 0 (by omega) (by unfold maxLen; omega) rfl ?_
    repeat' (first | (refine ycf ?_; apply ybk; (· first | (first | (apply qv_eql_slnil <;> rfl))); (· rfl); (· rfl)) | refine t1_ ?_ | (refine ta_ ?_; intro _) | ((fail_if_success (refine ybi rfl ?_)); refine ybj rfl ?_ ?_ <;> (intro ht; rw [ht]; first | replace ht := of_decide_eq_true ht | replace ht := of_decide_eq_false ht | skip)) | (refine ych ?_; first | (refine ybw rfl ?_ ?_ <;> intro ht) | (refine ybx rfl ?_ ?_ <;> intro ht)))
    refine rx_append_sc (sz := 1) 0 rfl rfl rfl hs (bcs_one l) rfl (by omega) (by unfold maxLen; omega) (by omega) rfl rfl rfl ybf (fun _ => ybf) ?_
    intro v' _
    repeat' (first | (refine ycf ?_; apply ybk; (· first | (first | (apply qv_eql_slnil <;> rfl))); (· rfl); (· rfl)) | refine t1_ ?_ | (refine ta_ ?_; intro _) | ((fail_if_success (refine ybi rfl ?_)); refine ybj rfl ?_ ?_ <;> (intro ht; rw [ht]; first | replace ht := of_decide_eq_true ht | replace ht := of_decide_eq_false ht | skip)) | (refine ych ?_; first | (refine ybw rfl ?_ ?_ <;> intro ht) | (refine ybx rfl ?_ ?_ <;> intro ht)))
    refine nx_ret1 rfl (rv_tmp rfl) (fun w' s' => ⟨_, rfl, ?_, trivial⟩)
    simpa using s'

theorem Done_sp (bo : Nat) (v : Value) (l : List Int) (hl : l.length ≤ 1000000) (h : View) (w : World) (s : St ⟨w, h, doms [outR bo v false, rowB v l]⟩ h [outR bo v false, rowB v l] w) :
    Calls Try.prog 51 [.pointer (some ⟨bo, 0, none⟩)].toArray w fun e w' => ∃ x : Value, e = .returned (.tuple #[x, .int .i64 0]) ∧
      St ⟨w, h, doms [outR bo v false, rowB v l]⟩ h [rowB x l, outR bo v false, rowB v l] w' ∧ True := by
  refine calls_enter Try.func51 rfl Try.ntmps51 rfl s ?_
  repeat' (first | (refine ycf ?_; apply ybk; (· first | (first | (apply qv_eql_pnil <;> rfl) | (apply qv_nilCheck; rfl))); (· rfl); (· rfl)) | refine t1_ ?_ | (refine ta_ ?_; intro _) | ((fail_if_success (refine ybi rfl ?_)); refine ybj rfl ?_ ?_ <;> (intro ht; rw [ht]; first | replace ht := of_decide_eq_true ht | replace ht := of_decide_eq_false ht | skip)) | (refine ych ?_; first | (refine ybw rfl ?_ ?_ <;> intro ht) | (refine ybx rfl ?_ ?_ <;> intro ht)))
  refine rx_call_lendx (u := fun x : Value => x) (LL := fun x => [rowB x l]) 1 (ycp Try.func60 rfl (by kernel_rfl) rfl) rfl (fun h' _ hsc w s => BClone_sp v l h' hsc hl w s) rfl rfl rfl ybf (fun _ => ybf) ?_
  intro x
  repeat' (first | (refine ycf ?_; apply ybk; (· first | (first | (apply qv_eql_pnil <;> rfl) | (apply qv_nilCheck; rfl))); (· rfl); (· rfl)) | refine t1_ ?_ | (refine ta_ ?_; intro _) | ((fail_if_success (refine ybi rfl ?_)); refine ybj rfl ?_ ?_ <;> (intro ht; rw [ht]; first | replace ht := of_decide_eq_true ht | replace ht := of_decide_eq_false ht | skip)) | (refine ych ?_; first | (refine ybw rfl ?_ ?_ <;> intro ht) | (refine ybx rfl ?_ ?_ <;> intro ht)))
  exact nx_ret2 rfl (rv_tmp rfl) (rv_tmp rfl) (fun w' s' => ⟨x, rfl, s', trivial⟩)
end Go.Proofs.Ytbpahaciegfpfaa
