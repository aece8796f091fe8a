/-
  Part 6 of a proof: BitG BitH BitI DotV1 BitK CkPer BitP ShB ShC.
  Conditions: each theorem states its own.
-/
import Derived.Test.YtaofgcahmfailaaGreatDoorCmNPM5
set_option maxRecDepth 100000
set_option linter.unusedVariables false
set_option linter.unusedSimpArgs false
section
namespace Go.Ck
open Go
section
variable {P : Program} {n : Nat} {F : List (Nat × Value)} {h : View} {L : List Res} {dst : Option Nat} {ty : Nat} {pos : String} {af : Array Edge} {gd : Option (Nat × Bool)}
def cutF (ad : Option Addr) (cap i k : Nat) : Option Addr := if cap = i then ad else ad.map (·.add (i * k))
theorem qv_slice_from {T e k : Nat} {x y : Operand} {ad : Option Addr} {len cap i : Nat} {ki : IntKind} [tu : TyU P T (.slice e)] [ts : TyS P e k] (hx : ev F x = some (.slice ad len cap)) (hy : ev F y = some (.int ki i)) (h1 : i ≤ len) :
    QV P n F h L ⟨dst, .slice T x (some y) none none, ty, pos, af, gd⟩ (.slice (cutF ad cap i k) (len - i) (cap - i)) := .mk fun a w f s => by
  have h2 : (0 : Int) ≤ (i : Int) ∧ (i : Int) ≤ (len : Int) := by omega
  simp [execOp, f.ev hx, f.ev hy, Instr.sliceAt, Instr.slice, Instr.sliceBounds, Instr.sliceBound, asIntOf, run_underlying tu.u, h2, ts.s, cutF]
  try omega
theorem sc_drop {k m cap j : Nat} {ad : Option Addr} {xs : List Value} (s : Sc h k (.slice ad m cap) m xs) (hk : 0 < k) (hj : j ≤ m) : Sc h k (.slice (cutF ad cap j k) (m - j) (cap - j)) (m - j) (xs.drop (j * k)) := by
  obtain ⟨q1, ad', cap', q2, q3, q4⟩ := s
  cases q2
  refine ⟨by rw [List.length_drop, q1, Nat.sub_mul], _, _, rfl, by omega, ?_⟩
  by_cases hm : j = m
  · exact .inl (List.drop_eq_nil_of_le (by rw [q1, hm]; omega))
  · rcases q4 with q4 | ⟨b, o, cs, e, fz, rfl, q6, q7⟩
    · exact .inl (by rw [q4]; simp)
    · refine .inr ⟨b, o + j * k, cs, e, fz, ?_, q6, fun t u ht => ?_⟩
      · unfold cutF
        rw [if_neg (by omega)]
        show some ((⟨b, o, none⟩ : Addr).add (j * k)) = _
        rw [Addr.add_off]
      · rw [List.getElem?_drop] at ht
        have := q7 _ _ ht
        rwa [← Nat.add_assoc] at this
theorem qv_shl {T T' : Nat} {x y : Operand} {k k' : IntKind} {i r : Int} {j : Nat} (hx : ev F x = some (.int k i)) (hy : ev F y = some (.int k' j)) (hj : j < k.bits) (hr : k.wrap (i * 2 ^ j) = r) :
    QV P n F h L ⟨dst, .binOp .shl T x y T', ty, pos, af, gd⟩ (.int k r) := by
  subst hr
  refine .mk fun a w f s => ?_
  have h0 : ¬ ((j : Int) < 0) := by omega
  have h1 : min j k.bits = j := by omega
  have hg : (eqGuard .shl T x y (.int k i) (.int k' j)).run P w = .ok () w := by simp [eqGuard]
  simp [execOp, f.ev hx, f.ev hy, hg, binOp, Op.shift, h0, h1]
theorem or_add {x c : Int} (hx : 0 ≤ x) (hxb : x * 256 < 18446744073709551616) (hc : 0 ≤ c ∧ c < 256) : IntKind.u64.wrap (((BitVec.ofInt 64 (x * 256)) ||| (BitVec.ofInt 64 c)).toNat : Int) = x * 256 + c := by
  obtain ⟨a, rfl⟩ := Int.eq_ofNat_of_zero_le hx
  obtain ⟨b, rfl⟩ := Int.eq_ofNat_of_zero_le hc.1
  have e1 : BitVec.ofInt 64 ((a : Int) * 256) = BitVec.ofNat 64 (a * 256) := by
    rw [show (a : Int) * 256 = ((a * 256 : Nat) : Int) by omega]; exact BitVec.ofInt_natCast 64 _
  have e2 : BitVec.ofInt 64 (b : Int) = BitVec.ofNat 64 b := BitVec.ofInt_natCast 64 _
  have hor : a * 256 ||| b = a * 256 + b := by
    have := Nat.two_pow_add_eq_or_of_lt (i := 8) (b := b) (by omega) a
    have e8 : (2 : Nat) ^ 8 = 256 := by decide
    rw [e8] at this
    rw [Nat.mul_comm a 256, ← this]
  rw [e1, e2, BitVec.toNat_or, BitVec.toNat_ofNat, BitVec.toNat_ofNat, Nat.mod_eq_of_lt (by omega), Nat.mod_eq_of_lt (by omega), hor]
  simp [IntKind.wrap, IntKind.bits, IntKind.signed]
  omega
theorem qv_or {T T' : Nat} {x y : Operand} {i j c r : Int} (hx : ev F x = some (.int .u64 i)) (hy : ev F y = some (.int .u64 c)) (hi : i = j * 256) (h0 : 0 ≤ j) (h1 : j * 256 < 18446744073709551616) (hc : 0 ≤ c ∧ c < 256) (hr : j * 256 + c = r) :
    QV P n F h L ⟨dst, .binOp .or T x y T', ty, pos, af, gd⟩ (.int .u64 r) := by
  subst hr
  subst hi
  have := or_add h0 h1 hc
  refine .mk fun a w f s => ?_
  simp only [execOp, f.ev hx, f.ev hy, Sem.run_bind, run_guard_int, Result.andThen_ok, binOp, Op.intBits]
  simp only [IntKind.bits] at this ⊢
  simp
  exact this
end
end Go.Ck
namespace Go.Proofs.YtaofgcahmfailaaGreatDoor
open Go Go.Ck
set_option maxHeartbeats 2000000
abbrev inR (bi : Nat) (v : Value) (e : Int) : Res := Res.blk bi (.cells #[v, .int .i64 e] 170 (0, 0))
def valB (l : List Int) : Int := l.foldl (fun x c => x * 256 + c) 0
def lookC (l : List Int) (size : Nat) (most : Int) : Int × Int := if l.length < size then (0, 3) else if most < valB (l.take size) then (0, 5) else (valB (l.take size), 0)
def numC (s : List Int × Int) (size : Nat) (most : Int) : Int × (List Int × Int) :=
  if s.2 ≠ 0 then (0, s) else if (lookC s.1 size most).2 = 0 then ((lookC s.1 size most).1, (s.1.drop size, 0)) else (0, (s.1, (lookC s.1 size most).2))
def Bytes (l : List Int) : Prop := ∀ b ∈ l, 0 ≤ b ∧ b < 256
theorem valB_succ {l : List Int} {k : Nat} (hk : k < l.length) : valB (l.take (k + 1)) = valB (l.take k) * 256 + l[k] := by
  unfold valB
  rw [List.take_succ_eq_append_getElem hk, List.foldl_append]
  rfl
theorem valB_bd {l : List Int} (hb : Bytes l) : ∀ k, k ≤ l.length → 0 ≤ valB (l.take k) ∧ valB (l.take k) < 256 ^ k := by
  intro k
  induction k with
  | zero => intro _; simp [valB]
  | succ k ih =>
    intro hk
    obtain ⟨h1, h2⟩ := ih (by omega)
    have h3 := hb l[k] (List.getElem_mem _)
    rw [valB_succ (by omega), Int.pow_succ]
    omega
theorem dead_sp (bi : Nat) (v : Value) (e : Int) (h : View) (w : World) (s : St ⟨w, h, doms [inR bi v e]⟩ h [inR bi v e] w) :
    Calls Tryz.prog 79 [.pointer (some ⟨bi, 0, none⟩)].toArray w fun en w' => ∃ x : Unit, en = .returned (.bool (decide (e ≠ 0))) ∧ St ⟨w, h, doms [inR bi v e]⟩ h [inR bi v e] w' ∧ True := by
  refine calls_enter Tryz.func79 rfl Tryz.ntmps79 rfl s ?_
  repeat' (first|(refine ycf ?_;apply ybk;(·first|(first|(apply qv_eql_pnil<;>rfl)|(apply qv_nilCheck;rfl)));(·rfl);(·rfl))|refine t1_ ?_|(refine ta_ ?_;intro _)|((fail_if_success (refine ybi rfl ?_));refine ybj rfl ?_ ?_<;>(intro ht;rw [ht];first|replace ht := oet_ ht|replace ht := oef_ ht|skip))|(refine ych ?_;first|(refine ybw rfl ?_ ?_<;>intro ht)|(refine ybx rfl ?_ ?_<;>intro ht)))
  exact nx_ret1 rfl (rv_tmp rfl) (fun w' s' => ⟨(), rfl, s', trivial⟩)
theorem p256 {k m : Nat} (h : k ≤ m) : (256 : Int) ^ k ≤ 256 ^ m := by exact_mod_cast Nat.pow_le_pow_right (by decide) h
theorem look_sp (bi : Nat) (v : Value) (l : List Int) (size : Nat) (most : Int) (hb : Bytes l) (h0 : 0 < size) (h8 : size ≤ 8) (hm : 0 ≤ most ∧ most < 9223372036854775808) (hl : l.length ≤ 140737488355328) (h : View) (hv : Bs8 h v l) (w : World) (s : St ⟨w, h, doms [inR bi v 0]⟩ h [inR bi v 0] w) :
    Calls Tryz.prog 82 [.pointer (some ⟨bi, 0, none⟩), .int .i64 size, .int .i64 most].toArray w fun en w' => ∃ x : Unit, en = .returned (.int .i64 (lookC l size most).1) ∧ St ⟨w, h, doms [inR bi v 0]⟩ h [inR bi v (lookC l size most).2] w' ∧ True := by
  obtain ⟨_, ad, cap, rfl, hcap, _⟩ := id hv
  refine calls_enter Tryz.func82 rfl Tryz.ntmps82 rfl s ?_
  unfold lookC
  by_cases hsz : l.length < size
  · rw [if_pos hsz]
    repeat' (first|(refine ycf ?_;apply ybk;(·first|(first|(apply qv_nilCheck;rfl)|(apply qv_slice_to;(·rfl);(·rfl);(·omega);(·omega))));(·rfl);(·rfl))|refine t1_ ?_|(refine ta_ ?_;intro _)|((fail_if_success (refine ybi rfl ?_));refine ybj rfl ?_ ?_<;>(intro ht;rw [ht];first|replace ht := oet_ ht|replace ht := oef_ ht|skip))|(refine ych ?_;first|(refine ybw rfl ?_ ?_<;>intro ht)|(refine ybx rfl ?_ ?_<;>intro ht)))
    · exact nx_ret1 rfl (rv_tmp rfl) (fun w' s' => ⟨(), rfl, s', trivial⟩)
    · omega
  · rw [if_neg hsz]
    obtain ⟨bs, o, rfl⟩ := hv.ad (by omega) (by omega)
    repeat' (first|(refine ycf ?_;apply ybk;(·first|(first|(apply qv_nilCheck;rfl)|(apply qv_slice_to;(·rfl);(·rfl);(·omega);(·omega))));(·rfl);(·rfl))|refine t1_ ?_|(refine ta_ ?_;intro _)|((fail_if_success (refine ybi rfl ?_));refine ybj rfl ?_ ?_<;>(intro ht;rw [ht];first|replace ht := oet_ ht|replace ht := oef_ ht|skip))|(refine ych ?_;first|(refine ybw rfl ?_ ?_<;>intro ht)|(refine ybx rfl ?_ ?_<;>intro ht)))
    · omega
    refine cx_loop (X := Nat) (fun k => [(0, .pointer (some ⟨bi, 0, none⟩)), (1, .int .i64 size), (2, .int .i64 most), (7, .int .u64 (valB (l.take k))), (27, .slice (some ⟨bs, o, none⟩) size cap), (28, .int .i64 size), (29, .int .i64 k)]) (fun _ => h) (fun _ => _) (fun k => k ≤ size) (fun k => size - k) 0 (Nat.zero_le _) ts_ (fun _ s => s) ?_
    intro k hk
    by_cases hks : k < size
    · have hkl : k < l.length := by omega
      have hbd := valB_bd hb k (by omega)
      have hp : (256 : Int) ^ k ≤ 256 ^ 7 := p256 (by omega)
      have e7 : (256 : Int) ^ 7 = 72057594037927936 := by decide
      rw [e7] at hp
      have hc := hb l[k] (List.getElem_mem _)
      have hel : ∀ L, CellAt h L bs (o + k * 1) (.int .u8 l[k]) := fun L => (hv.cells (L := L)).cell (by simp [bcs, hkl])
      have hsh : IntKind.u64.wrap (valB (l.take k) * 2 ^ 8) = valB (l.take k) * 256 := by
        have e : (2 : Int) ^ 8 = 256 := by decide
        rw [e]
        exact wrap_u64 (by omega) (by omega)
      have hcw : IntKind.u64.wrap l[k] = l[k] := wrap_u64 hc.1 (by omega)
      have hnext := (valB_succ hkl).symm
      repeat' (first|(refine ycf ?_;apply ybk;(·first|(first|(refine qv_shl (j := 8) rfl rfl (by decide) hsh)|(refine qv_convert_int' rfl hcw)|(refine qv_or (j := valB (l.take k)) rfl rfl rfl hbd.1 (by omega) hc hnext))|(apply yae;(·rfl);(·exact hel _)));(·rfl);(·rfl))|refine t1_ ?_|(refine ta_ ?_;intro _)|((fail_if_success (refine ybi rfl ?_));refine ybj rfl ?_ ?_<;>(intro ht;rw [ht];first|replace ht := oet_ ht|replace ht := oef_ ht|skip))|(refine ych ?_;first|(refine ybw rfl ?_ ?_<;>intro ht)|(refine ybx rfl ?_ ?_<;>intro ht)))
      · exact nx_round (k + 1) (by show k + 1 ≤ size; omega) (by show size - (k + 1) < size - k; omega) ts_ (fun _ s => s)
      all_goals omega
    · have ek : k = size := by omega
      subst ek
      have hbd := valB_bd hb k (by omega)
      have hp : (256 : Int) ^ k ≤ 256 ^ 8 := p256 h8
      have e8 : (256 : Int) ^ 8 = 18446744073709551616 := by decide
      rw [e8] at hp
      generalize valB (l.take k) = X at hbd ⊢
      have hI := Int_sp X ⟨hbd.1, by omega⟩ h
      by_cases hX : X < 9223372036854775808
      · rw [decide_eq_true hX, if_pos hX] at hI
        repeat' (first|(refine ycf ?_;apply ybk;(·first|(first|(refine qv_shl (j := 8) rfl rfl (by decide) hsh)|(refine qv_convert_int' rfl hcw)|(refine qv_or (j := valB (l.take k)) rfl rfl rfl hbd.1 (by omega) hc hnext))|(apply yae;(·rfl);(·exact hel _)));(·rfl);(·rfl))|refine t1_ ?_|(refine ta_ ?_;intro _)|((fail_if_success (refine ybi rfl ?_));refine ybj rfl ?_ ?_<;>(intro ht;rw [ht];first|replace ht := oet_ ht|replace ht := oef_ ht|skip))|(refine ych ?_;first|(refine ybw rfl ?_ ?_<;>intro ht)|(refine ybx rfl ?_ ?_<;>intro ht)))
        · omega
        (refine ycn (ycp Tryz.func95 rfl (by kernel_rfl) rfl) (hI) rfl rfl rfl ?_ ?_; (· (exact to_)))
        repeat' (first|(refine ycf ?_;apply ybk;(·first|(first|(apply qv_nilCheck;rfl))|(apply yae;(·rfl);(·exact hel _)));(·rfl);(·rfl))|refine t1_ ?_|(refine ta_ ?_;intro _)|((fail_if_success (refine ybi rfl ?_));refine ybj rfl ?_ ?_<;>(intro ht;rw [ht];first|replace ht := oet_ ht|replace ht := oef_ ht|skip))|(refine ych ?_;first|(refine ybw rfl ?_ ?_<;>intro ht)|(refine ybx rfl ?_ ?_<;>intro ht)))
        · have hq := ht
          refine nx_ret1 rfl (rv_tmp rfl) (fun w' s' => ⟨(), ?_, ?_, trivial⟩)
          · rw [if_pos (by omega)]
          · rw [if_pos (by omega)]; exact s'
        · have hq := ht
          refine nx_ret1 rfl (rv_tmp rfl) (fun w' s' => ⟨(), ?_, ?_, trivial⟩)
          · rw [if_neg (by omega)]; rfl
          · rw [if_neg (by omega)]; exact s'
      · rw [decide_eq_false hX, if_neg hX] at hI
        repeat' (first|(refine ycf ?_;apply ybk;(·first|(first|(apply qv_nilCheck;rfl))|(apply yae;(·rfl);(·exact hel _)));(·rfl);(·rfl))|refine t1_ ?_|(refine ta_ ?_;intro _)|((fail_if_success (refine ybi rfl ?_));refine ybj rfl ?_ ?_<;>(intro ht;rw [ht];first|replace ht := oet_ ht|replace ht := oef_ ht|skip))|(refine ych ?_;first|(refine ybw rfl ?_ ?_<;>intro ht)|(refine ybx rfl ?_ ?_<;>intro ht)))
        · omega
        (refine ycn (ycp Tryz.func95 rfl (by kernel_rfl) rfl) (hI) rfl rfl rfl ?_ ?_; (· (exact to_)))
        repeat' (first|(refine ycf ?_;apply ybk;(·first|(first|(apply qv_nilCheck;rfl))|(apply yae;(·rfl);(·exact hel _)));(·rfl);(·rfl))|refine t1_ ?_|(refine ta_ ?_;intro _)|((fail_if_success (refine ybi rfl ?_));refine ybj rfl ?_ ?_<;>(intro ht;rw [ht];first|replace ht := oet_ ht|replace ht := oef_ ht|skip))|(refine ych ?_;first|(refine ybw rfl ?_ ?_<;>intro ht)|(refine ybx rfl ?_ ?_<;>intro ht)))
        refine nx_ret1 rfl (rv_tmp rfl) (fun w' s' => ⟨(), ?_, ?_, trivial⟩)
        · rw [if_pos (by omega)]
        · rw [if_pos (by omega)]; exact s'
theorem skip_sp (bi : Nat) (v : Value) (l : List Int) (e : Int) (size : Nat) (hsz : size ≤ l.length) (hl : l.length ≤ 140737488355328) (h : View) (hv : Bs8 h v l) (w : World) (s : St ⟨w, h, doms [inR bi v e]⟩ h [inR bi v e] w) :
    Calls Tryz.prog 80 [.pointer (some ⟨bi, 0, none⟩), .int .i64 size].toArray w fun en w' => ∃ x : Value × Value, en = .returned x.1 ∧ St ⟨w, h, doms [inR bi v e]⟩ h [inR bi x.2 e] w' ∧ Bs8 h x.2 (l.drop size) := by
  obtain ⟨_, ad, cap, rfl, hcap, _⟩ := id hv
  have ht1 : Bs8 h (.slice ad size cap) (l.take size) := by
    have := sc_take hv hsz
    unfold Bs8
    rw [List.length_take, Nat.min_eq_left hsz]
    have e : bcs (l.take size) = (bcs l).take (size * 1) := by simp [bcs]
    rw [e]; exact this
  have hd1 : Bs8 h (.slice (cutF ad cap size 1) (l.length - size) (cap - size)) (l.drop size) := by
    have := sc_drop hv (by decide) hsz
    unfold Bs8
    rw [List.length_drop]
    have e : bcs (l.drop size) = (bcs l).drop (size * 1) := by simp [bcs]
    rw [e]; exact this
  refine calls_enter Tryz.func80 rfl Tryz.ntmps80 rfl s ?_
  repeat' (first|(refine ycf ?_;apply ybk;(·first|(first|(apply qv_nilCheck;rfl)|(apply qv_slice_to;(·rfl);(·rfl);(·omega);(·omega))|(apply qv_slice_from;(·rfl);(·rfl);(·omega)))|(apply yae;(·rfl);(·exact hel _)));(·rfl);(·rfl))|refine t1_ ?_|(refine ta_ ?_;intro _)|((fail_if_success (refine ybi rfl ?_));refine ybj rfl ?_ ?_<;>(intro ht;rw [ht];first|replace ht := oet_ ht|replace ht := oef_ ht|skip))|(refine ych ?_;first|(refine ybw rfl ?_ ?_<;>intro ht)|(refine ybx rfl ?_ ?_<;>intro ht)))
  (refine yco (ycp Tryz.func57 rfl (by kernel_rfl) rfl) (BClone_sp (.slice ad size cap) (l.take size) h ht1 (by simp; omega)) rfl rfl rfl ?_ ?_ ?_; (· (exact to_)); (· intro _ _ hle; (exact to_)); intro x px hle)
  repeat' (first|(refine ycf ?_;apply ybk;(·first|(first|(apply qv_nilCheck;rfl)|(apply qv_slice_to;(·rfl);(·rfl);(·omega);(·omega))|(apply qv_slice_from;(·rfl);(·rfl);(·omega)))|(apply yae;(·rfl);(·exact hel _)));(·rfl);(·rfl))|refine t1_ ?_|(refine ta_ ?_;intro _)|((fail_if_success (refine ybi rfl ?_));refine ybj rfl ?_ ?_<;>(intro ht;rw [ht];first|replace ht := oet_ ht|replace ht := oef_ ht|skip))|(refine ych ?_;first|(refine ybw rfl ?_ ?_<;>intro ht)|(refine ybx rfl ?_ ?_<;>intro ht)))
  exact nx_ret1 rfl (rv_tmp rfl) (fun w' s' => ⟨(x, .slice (cutF ad cap size 1) (l.length - size) (cap - size)), rfl, s'.tl, hd1⟩)
theorem number_sp (bi : Nat) (v : Value) (l : List Int) (e : Int) (size : Nat) (most : Int) (hb : Bytes l) (h0 : 0 < size) (h8 : size ≤ 8) (hm : 0 ≤ most ∧ most < 9223372036854775808) (hl : l.length ≤ 140737488355328) (h : View) (hv : Bs8 h v l) (w : World) (s : St ⟨w, h, doms [inR bi v e]⟩ h [inR bi v e] w) :
    Calls Tryz.prog 81 [.pointer (some ⟨bi, 0, none⟩), .int .i64 size, .int .i64 most].toArray w fun en w' => ∃ x : Value, en = .returned (.int .i64 (numC (l, e) size most).1) ∧ St ⟨w, h, doms [inR bi v e]⟩ h [inR bi x (numC (l, e) size most).2.2] w' ∧ Bs8 h x (numC (l, e) size most).2.1 := by
  refine calls_enter Tryz.func81 rfl Tryz.ntmps81 rfl s ?_
  unfold numC
  by_cases he : e = 0
  · subst he
    rw [if_neg (by simp)]
    have hdead := dead_sp bi v 0 h
    rw [show decide ((0 : Int) ≠ 0) = false by decide] at hdead
    repeat' (first|(refine ycf ?_;apply ybk;(·first|(first|(apply qv_nilCheck;rfl)|(apply qv_slice_to;(·rfl);(·rfl);(·omega);(·omega))|(apply qv_slice_from;(·rfl);(·rfl);(·omega)))|(apply yae;(·rfl);(·exact hel _)));(·rfl);(·rfl))|refine t1_ ?_|(refine ta_ ?_;intro _)|((fail_if_success (refine ybi rfl ?_));refine ybj rfl ?_ ?_<;>(intro ht;rw [ht];first|replace ht := oet_ ht|replace ht := oef_ ht|skip))|(refine ych ?_;first|(refine ybw rfl ?_ ?_<;>intro ht)|(refine ybx rfl ?_ ?_<;>intro ht)))
    (refine rx_call_m (ycp Tryz.func79 rfl (by kernel_rfl) rfl) (perm_at (k := 0) rfl) (hdead) rfl rfl rfl ?_ ?_ ?_; (· (exact to_)); (· intro _ _ hle; (exact to_)); intro x px hle)
    repeat' (first|(refine ycf ?_;apply ybk;(·first|(first|(apply qv_nilCheck;rfl)|(apply qv_slice_to;(·rfl);(·rfl);(·omega);(·omega))|(apply qv_slice_from;(·rfl);(·rfl);(·omega)))|(apply yae;(·rfl);(·exact hel _)));(·rfl);(·rfl))|refine t1_ ?_|(refine ta_ ?_;intro _)|((fail_if_success (refine ybi rfl ?_));refine ybj rfl ?_ ?_<;>(intro ht;rw [ht];first|replace ht := oet_ ht|replace ht := oef_ ht|skip))|(refine ych ?_;first|(refine ybw rfl ?_ ?_<;>intro ht)|(refine ybx rfl ?_ ?_<;>intro ht)))
    (refine rx_call_m (ycp Tryz.func82 rfl (by kernel_rfl) rfl) (perm_at (k := 0) rfl) (look_sp bi v l size most hb h0 h8 hm hl h hv) rfl rfl rfl ?_ ?_ ?_; (· (exact to_)); (· intro _ _ hle; (exact to_)); intro x px hle)
    by_cases hz : (lookC l size most).2 = 0
    · have hsl : size ≤ l.length := by
        unfold lookC at hz
        split at hz
        · cases hz
        · omega
      rw [if_pos hz, hz]
      repeat' (first|(refine ycf ?_;apply ybk;(·first|(first|(apply qv_nilCheck;rfl)|(apply qv_slice_to;(·rfl);(·rfl);(·omega);(·omega))|(apply qv_slice_from;(·rfl);(·rfl);(·omega)))|(apply yae;(·rfl);(·exact hel _)));(·rfl);(·rfl))|refine t1_ ?_|(refine ta_ ?_;intro _)|((fail_if_success (refine ybi rfl ?_));refine ybj rfl ?_ ?_<;>(intro ht;rw [ht];first|replace ht := oet_ ht|replace ht := oef_ ht|skip))|(refine ych ?_;first|(refine ybw rfl ?_ ?_<;>intro ht)|(refine ybx rfl ?_ ?_<;>intro ht)))
      (refine rx_call_m (ycp Tryz.func80 rfl (by kernel_rfl) rfl) (perm_at (k := 0) rfl) (skip_sp bi v l 0 size hsl hl h hv) rfl rfl rfl ?_ ?_ ?_; (· (exact to_)); (· intro _ _ hle; (exact to_)); intro x px hle)
      repeat' (first|(refine ycf ?_;apply ybk;(·first|(first|(apply qv_nilCheck;rfl)|(apply qv_slice_to;(·rfl);(·rfl);(·omega);(·omega))|(apply qv_slice_from;(·rfl);(·rfl);(·omega)))|(apply yae;(·rfl);(·exact hel _)));(·rfl);(·rfl))|refine t1_ ?_|(refine ta_ ?_;intro _)|((fail_if_success (refine ybi rfl ?_));refine ybj rfl ?_ ?_<;>(intro ht;rw [ht];first|replace ht := oet_ ht|replace ht := oef_ ht|skip))|(refine ych ?_;first|(refine ybw rfl ?_ ?_<;>intro ht)|(refine ybx rfl ?_ ?_<;>intro ht)))
      exact nx_ret1 rfl (rv_tmp rfl) (fun w' s' => ⟨x.2, rfl, s', px⟩)
    · have hf : (lookC l size most).1 = 0 := by
        unfold lookC at hz ⊢
        split
        · rfl
        · rename_i h1
          rw [if_neg h1] at hz
          split
          · rfl
          · rename_i h2
            rw [if_neg h2] at hz
            exact absurd rfl hz
      rw [if_neg hz, hf]
      generalize (lookC l size most).2 = E at hz ⊢
      repeat' (first|(refine ycf ?_;apply ybk;(·first|(first|(apply qv_nilCheck;rfl)|(apply qv_slice_to;(·rfl);(·rfl);(·omega);(·omega))|(apply qv_slice_from;(·rfl);(·rfl);(·omega)))|(apply yae;(·rfl);(·exact hel _)));(·rfl);(·rfl))|refine t1_ ?_|(refine ta_ ?_;intro _)|((fail_if_success (refine ybi rfl ?_));refine ybj rfl ?_ ?_<;>(intro ht;rw [ht];first|replace ht := oet_ ht|replace ht := oef_ ht|skip))|(refine ych ?_;first|(refine ybw rfl ?_ ?_<;>intro ht)|(refine ybx rfl ?_ ?_<;>intro ht)))
      · omega
      exact nx_ret1 rfl (rv_tmp rfl) (fun w' s' => ⟨v, rfl, s', hv⟩)
  · rw [if_pos he]
    have hdead := dead_sp bi v e h
    rw [decide_eq_true he] at hdead
    repeat' (first|(refine ycf ?_;apply ybk;(·first|(first|(apply qv_nilCheck;rfl)|(apply qv_slice_to;(·rfl);(·rfl);(·omega);(·omega))|(apply qv_slice_from;(·rfl);(·rfl);(·omega)))|(apply yae;(·rfl);(·exact hel _)));(·rfl);(·rfl))|refine t1_ ?_|(refine ta_ ?_;intro _)|((fail_if_success (refine ybi rfl ?_));refine ybj rfl ?_ ?_<;>(intro ht;rw [ht];first|replace ht := oet_ ht|replace ht := oef_ ht|skip))|(refine ych ?_;first|(refine ybw rfl ?_ ?_<;>intro ht)|(refine ybx rfl ?_ ?_<;>intro ht)))
    (refine rx_call_m (ycp Tryz.func79 rfl (by kernel_rfl) rfl) (perm_at (k := 0) rfl) (hdead) rfl rfl rfl ?_ ?_ ?_; (· (exact to_)); (· intro _ _ hle; (exact to_)); intro x px hle)
    repeat' (first|(refine ycf ?_;apply ybk;(·first|(first|(apply qv_nilCheck;rfl)|(apply qv_slice_to;(·rfl);(·rfl);(·omega);(·omega))|(apply qv_slice_from;(·rfl);(·rfl);(·omega)))|(apply yae;(·rfl);(·exact hel _)));(·rfl);(·rfl))|refine t1_ ?_|(refine ta_ ?_;intro _)|((fail_if_success (refine ybi rfl ?_));refine ybj rfl ?_ ?_<;>(intro ht;rw [ht];first|replace ht := oet_ ht|replace ht := oef_ ht|skip))|(refine ych ?_;first|(refine ybw rfl ?_ ?_<;>intro ht)|(refine ybx rfl ?_ ?_<;>intro ht)))
    exact nx_ret1 rfl (rv_tmp rfl) (fun w' s' => ⟨v, rfl, s', hv⟩)
theorem InNum_sp (bi : Nat) (v : Value) (l : List Int) (e : Int) (most : Int) (hb : Bytes l) (hm : 0 ≤ most ∧ most < 9223372036854775808) (hl : l.length ≤ 140737488355328) (h : View) (hv : Bs8 h v l) (w : World) (s : St ⟨w, h, doms [inR bi v e]⟩ h [inR bi v e] w) :
    Calls Tryz.prog 64 [.pointer (some ⟨bi, 0, none⟩), .int .i64 most].toArray w fun en w' => ∃ x : Value, en = .returned (.int .i64 (numC (l, e) 8 most).1) ∧ St ⟨w, h, doms [inR bi v e]⟩ h [inR bi x (numC (l, e) 8 most).2.2] w' ∧ Bs8 h x (numC (l, e) 8 most).2.1 := by
  refine calls_enter Tryz.func64 rfl Tryz.ntmps64 rfl s ?_
  repeat' (first|(refine ycf ?_;apply ybk;(·first|(first|(apply qv_nilCheck;rfl)|(apply qv_slice_to;(·rfl);(·rfl);(·omega);(·omega))|(apply qv_slice_from;(·rfl);(·rfl);(·omega)))|(apply yae;(·rfl);(·exact hel _)));(·rfl);(·rfl))|refine t1_ ?_|(refine ta_ ?_;intro _)|((fail_if_success (refine ybi rfl ?_));refine ybj rfl ?_ ?_<;>(intro ht;rw [ht];first|replace ht := oet_ ht|replace ht := oef_ ht|skip))|(refine ych ?_;first|(refine ybw rfl ?_ ?_<;>intro ht)|(refine ybx rfl ?_ ?_<;>intro ht)))
  (refine rx_call_m (ycp Tryz.func81 rfl (by kernel_rfl) rfl) (perm_at (k := 0) rfl) (number_sp bi v l e 8 most hb (by omega) (by omega) hm hl h hv) rfl rfl rfl ?_ ?_ ?_; (· (exact to_)); (· intro _ _ hle; (exact to_)); intro x px hle)
  repeat' (first|(refine ycf ?_;apply ybk;(·first|(first|(apply qv_nilCheck;rfl)|(apply qv_slice_to;(·rfl);(·rfl);(·omega);(·omega))|(apply qv_slice_from;(·rfl);(·rfl);(·omega)))|(apply yae;(·rfl);(·exact hel _)));(·rfl);(·rfl))|refine t1_ ?_|(refine ta_ ?_;intro _)|((fail_if_success (refine ybi rfl ?_));refine ybj rfl ?_ ?_<;>(intro ht;rw [ht];first|replace ht := oet_ ht|replace ht := oef_ ht|skip))|(refine ych ?_;first|(refine ybw rfl ?_ ?_<;>intro ht)|(refine ybx rfl ?_ ?_<;>intro ht)))
  exact nx_ret1 rfl (rv_tmp rfl) (fun w' s' => ⟨x, rfl, s', px⟩)
def endC (s : List Int × Int) : Int := if s.2 = 0 ∧ 0 < s.1.length then 4 else s.2
theorem End_sp (bi : Nat) (v : Value) (l : List Int) (e : Int) (h : View) (hv : Bs8 h v l) (w : World) (s : St ⟨w, h, doms [inR bi v e]⟩ h [inR bi v e] w) :
    Calls Tryz.prog 66 [.pointer (some ⟨bi, 0, none⟩)].toArray w fun en w' => ∃ x : Unit, en = .returned (.int .i64 (endC (l, e))) ∧ St ⟨w, h, doms [inR bi v e]⟩ h [inR bi v e] w' ∧ True := by
  obtain ⟨_, ad, cap, rfl, hcap, _⟩ := id hv
  refine calls_enter Tryz.func66 rfl Tryz.ntmps66 rfl s ?_
  repeat' (first|(refine ycf ?_;apply ybk;(·first|(first|(apply qv_eql_pnil<;>rfl)|(apply qv_nilCheck;rfl))|(apply yae;(·rfl);(·exact hel _)));(·rfl);(·rfl))|refine t1_ ?_|(refine ta_ ?_;intro _)|((fail_if_success (refine ybi rfl ?_));refine ybj rfl ?_ ?_<;>(intro ht;rw [ht];first|replace ht := oet_ ht|replace ht := oef_ ht|skip))|(refine ych ?_;first|(refine ybw rfl ?_ ?_<;>intro ht)|(refine ybx rfl ?_ ?_<;>intro ht)))
  · refine nx_ret1 rfl (rv_tmp rfl) (fun w' s' => ⟨(), ?_, s', trivial⟩)
    unfold endC
    rw [if_pos (by dsimp only; omega)]
  · refine nx_ret1 rfl (rv_tmp rfl) (fun w' s' => ⟨(), ?_, s', trivial⟩)
    unfold endC
    rw [if_neg (by dsimp only; omega)]
  · refine nx_ret1 rfl (rv_tmp rfl) (fun w' s' => ⟨(), ?_, s', trivial⟩)
    unfold endC
    rw [if_neg (by dsimp only; omega)]
theorem Of_sp (sv : Value) (l : List Int) (hl : l.length ≤ 140737488355328) (h : View) (hs : Bs8 h sv l) (w : World) (s : St ⟨w, h, []⟩ h [] w) :
    Calls Tryz.prog 62 [sv].toArray w fun en w' => ∃ x : View × Nat × Value, en = .returned (.pointer (some ⟨x.2.1, 0, none⟩)) ∧ St ⟨w, h, []⟩ x.1 [inR x.2.1 x.2.2 0] w' ∧ Bs8 x.1 x.2.2 l := by
  refine calls_enter Tryz.func62 rfl Tryz.ntmps62 rfl s ?_
  repeat' (first|(refine ycf ?_;apply ybk;(·first|(first|(apply qv_eql_pnil<;>rfl)|(apply qv_nilCheck;rfl))|(apply yae;(·rfl);(·exact hel _)));(·rfl);(·rfl))|refine t1_ ?_|(refine ta_ ?_;intro _)|((fail_if_success (refine ybi rfl ?_));refine ybj rfl ?_ ?_<;>(intro ht;rw [ht];first|replace ht := oet_ ht|replace ht := oef_ ht|skip))|(refine ych ?_;first|(refine ybw rfl ?_ ?_<;>intro ht)|(refine ybx rfl ?_ ?_<;>intro ht)))
  (refine yco (ycp Tryz.func57 rfl (by kernel_rfl) rfl) (BClone_sp sv l h hs hl) rfl rfl rfl ?_ ?_ ?_; (· (exact to_)); (· intro _ _ hle; (exact to_)); intro x px hle)
  refine rx_persist rfl fun h1 hle1 hv => ?_
  obtain ⟨_, ad, cap, hx, _, _⟩ := id hv
  subst hx
  repeat' (first|(refine ycf ?_;apply ybk;(·first|(first|(apply qv_eql_pnil<;>rfl)|(apply qv_nilCheck;rfl))|(apply yae;(·rfl);(·exact hel _)));(·rfl);(·rfl))|refine t1_ ?_|(refine ta_ ?_;intro _)|((fail_if_success (refine ybi rfl ?_));refine ybj rfl ?_ ?_<;>(intro ht;rw [ht];first|replace ht := oet_ ht|replace ht := oef_ ht|skip))|(refine ych ?_;first|(refine ybw rfl ?_ ?_<;>intro ht)|(refine ybx rfl ?_ ?_<;>intro ht)))
  rename_i b
  exact nx_ret1 rfl (rv_tmp rfl) (fun w' s' => ⟨(h1, b, .slice ad l.length cap), rfl, s', hv⟩)
end Go.Proofs.YtaofgcahmfailaaGreatDoor
end

section
namespace Go.Proofs.YtaofgcahmfailaaGreatDoor
open Go Go.Ck
set_option maxHeartbeats 2000000
abbrev RS : Type := List Int × Int
def upsC : Nat → RS → List Int × RS
  | 0, s => ([], s)
  | k + 1, s => ((upsC k s).1 ++ [(numC (upsC k s).2 8 1099511627776).1], (numC (upsC k s).2 8 1099511627776).2)
def dsC : Nat → RS → List Dt × RS
  | 0, s => ([], s)
  | k + 1, s => ((dsC k s).1 ++ [((numC (dsC k s).2 8 1099511627776).1, (numC (numC (dsC k s).2 8 1099511627776).2 8 1099511627776).1)], (numC (numC (dsC k s).2 8 1099511627776).2 8 1099511627776).2)
def smC (l : List Int) : Int × RS := numC (upsC 16 (l, 0)).2 1 32
def rdC (l : List Int) : List Int × List Dt × RS := ((upsC 16 (l, 0)).1, (dsC (smC l).1.toNat (smC l).2).1, (dsC (smC l).1.toNat (smC l).2).2)
structure RsOk (s : RS) : Prop where
  b : Bytes s.1
  l : s.1.length ≤ 140737488355328
theorem RsOk.num {s : RS} (h : RsOk s) (size : Nat) (most : Int) : RsOk (numC s size most).2 := by
  unfold numC
  split
  · exact h
  · split
    · exact ⟨fun x hx => h.b x (List.mem_of_mem_drop hx), by have := h.l; simp only [List.length_drop]; omega⟩
    · exact ⟨h.b, h.l⟩
end Go.Proofs.YtaofgcahmfailaaGreatDoor
end

section
namespace Go.Proofs.YtaofgcahmfailaaGreatDoor
open Go Go.Ck
set_option maxHeartbeats 2000000
theorem bstr_take (l : List Int) (k : Nat) : (bstr l).extract 0 k = bstr (l.take k) := by
  apply ByteArray.ext
  rw [ByteArray.data_extract]
  simp [bstr, List.map_take]
section
variable {P : Program} {n : Nat} {F : List (Nat × Value)} {h : View} {L : List Res} {dst : Option Nat} {ty : Nat} {pos : String} {af : Array Edge} {gd : Option (Nat × Bool)}
theorem qv_mul' {T T' : Nat} {x y : Operand} {k : IntKind} {i j r : Int} (hx : ev F x = some (.int k i)) (hy : ev F y = some (.int k j)) (hr : k.wrap (i * j) = r) : QV P n F h L ⟨dst, .binOp .mul T x y T', ty, pos, af, gd⟩ (.int k r) := by subst hr; exact qv_mul_w hx hy
theorem qv_add' {T T' : Nat} {x y : Operand} {k : IntKind} {i j r : Int} (hx : ev F x = some (.int k i)) (hy : ev F y = some (.int k j)) (hr : k.wrap (i + j) = r) : QV P n F h L ⟨dst, .binOp .add T x y T', ty, pos, af, gd⟩ (.int k r) := by subst hr; exact qv_add_w hx hy
end
theorem lookC_bad {l : List Int} {size : Nat} {most : Int} (hz : (lookC l size most).2 ≠ 0) : (lookC l size most).1 = 0 := by
  unfold lookC at hz ⊢
  split
  · rfl
  · rename_i h1
    rw [if_neg h1] at hz
    split
    · rfl
    · rename_i h2
      rw [if_neg h2] at hz
      exact absurd rfl hz
theorem lookC_len {l : List Int} {size : Nat} {most : Int} (hz : (lookC l size most).2 = 0) : size ≤ l.length := by
  unfold lookC at hz
  split at hz
  · cases hz
  · omega
end Go.Proofs.YtaofgcahmfailaaGreatDoor
end

section
namespace Go.Proofs.YtaofgcahmfailaaGreatDoor
open Go Go.Ck
set_option maxHeartbeats 1000000
theorem refSame_sp (cv dvv : Value) (u v : List Int) (l m : List Dt) (h : View) (hc : Cx h cv u l) (hd : Cx h dvv v m) (hl : l.length ≤ 4611686018427387904) (hm : m.length ≤ 4611686018427387904) (w : World) (s : St ⟨w, h, []⟩ h [] w) :
    Calls Tryz.prog 30 [cv, dvv].toArray w fun e w' => e = .returned (.bool (decide (u = v) && decide (l = m))) ∧ St ⟨w, h, []⟩ h [] w' := by
  obtain ⟨hu, mv, rfl, hs⟩ := hc
  obtain ⟨hv, nv, rfl, hs2⟩ := hd
  obtain ⟨_, ad, cap, rfl, hcap, _⟩ := id hs
  obtain ⟨_, ad2, cap2, rfl, hcap2, _⟩ := id hs2
  refine calls_enter Tryz.func30 rfl Tryz.ntmps30 rfl s ?_
  repeat' (first|(refine ycf ?_;apply ybk;(·first|(first|(apply yad;(·rfl);(·exact ycm (yaz 0 rfl));(·simp [up, hv]))|(apply yad;(·rfl);(·exact ycm (yaz 1 rfl));(·simp [up, hu]))|(apply qv_neq_agg;(·rfl);(·rfl);(·exact fun w => run_equal_arr u v hu hv w)))|(apply yae;(·rfl);(·(first|exact yck (yaz 0 rfl) hv rfl|exact yck (yaz 1 rfl) hu rfl))));(·rfl);(·rfl))|refine t1_ ?_|(refine ta_ ?_;intro _)|((fail_if_success (refine ybi rfl ?_));refine ybj rfl ?_ ?_<;>(intro ht;rw [ht];first|replace ht := oet_ ht|replace ht := oef_ ht|skip))|(refine ych ?_;first|(refine ybw rfl ?_ ?_<;>intro ht)|(refine ybx rfl ?_ ?_<;>intro ht)))
  · have hne := ht
    refine nx_ret1 rfl (rv_tmp rfl) (fun w' s' => ⟨?_, s'.nil⟩)
    have : ¬ u = v := by simpa using hne
    simp [this]
  · have hne := ht
    refine nx_ret1 rfl (rv_tmp rfl) (fun w' s' => ⟨?_, s'.nil⟩)
    have : ¬ l = m := fun e => by rw [e] at hne; exact hne rfl
    simp [this]
  · rename_i b2 b1 huv0
    have huv : u = v := by simpa using huv0
    have hlm : l.length = m.length := by omega
    clear ht huv0
    refine cx_loop (X := Nat) (fun k => [(2, .pointer (some ⟨b2, 0, none⟩)), (3, .pointer (some ⟨b1, 0, none⟩)), (5, .int .i64 k)]) (fun _ => h) (fun _ => _) (fun k => k ≤ l.length ∧ ∀ j (hj : j < l.length), j < k → l[j] = m[j]'(by omega)) (fun k => l.length - k) 0 ⟨by omega, by omega⟩ ts_ (fun _ s => s) ?_
    rintro k ⟨hk, hno⟩
    by_cases hkl : k < l.length
    · obtain ⟨bs, o, rfl⟩ := hs.ad (by omega) (by omega)
      obtain ⟨bt, o2, rfl⟩ := hs2.ad (by omega) (by omega)
      have hkm : k < m.length := by omega
      have hel : ∀ L, Cells h L ⟨bs, o + k * 2, none⟩ (dcs l[k]) := fun L => hs.elem dcs_len k hkl
      have hel2 : ∀ L, Cells h L ⟨bt, o2 + k * 2, none⟩ (dcs m[k]) := fun L => hs2.elem dcs_len k hkm
      repeat' (first|(refine ycf ?_;apply ybk;(·first|(first|(apply yad;(·rfl);(·exact ycm (yaz 0 rfl));(·simp [up, hv]))|(apply yad;(·rfl);(·exact ycm (yaz 1 rfl));(·simp [up, hu]))|(apply qv_neq_agg;(·rfl);(·rfl);(·exact fun w => run_equal_arr u v hu hv w)))|(apply yae;(·rfl);(·(first|exact yck (yaz 0 rfl) hv rfl|exact yck (yaz 1 rfl) hu rfl))));(·rfl);(·rfl))|refine t1_ ?_|(refine ta_ ?_;intro _)|((fail_if_success (refine ybi rfl ?_));refine ybj rfl ?_ ?_<;>(intro ht;rw [ht];first|replace ht := oet_ ht|replace ht := oef_ ht|skip))|(refine ych ?_;first|(refine ybw rfl ?_ ?_<;>intro ht)|(refine ybx rfl ?_ ?_<;>intro ht)))
      · refine cx_region_draw' rfl (by kernel_rfl) ?_
        repeat' (refine ycf ?_;(first|(first|(apply ybm;(·(first|(first|(refine yad rfl (hel _) ?_;rfl)|(refine yad rfl (hel2 _) ?_;rfl)|exact qv_neq_agg rfl rfl (fun w => dot_eq _ _ w))|(apply yae;(·rfl);(·(first|exact yck (yaz 0 rfl) hv rfl|exact yck (yaz 1 rfl) hu rfl)))|exact tq_));(·rfl);(·rfl);(·(exact th_)))|refine ybl rfl rfl ?_|((fail_if_success (refine ybi rfl ?_));refine ybj rfl ?_ ?_<;>(intro ht;rw [ht];first|replace ht := oet_ ht|replace ht := oef_ ht|skip))|(refine tb_ ?_ ?_ ?_;(·(exact to_));(·intro _;(exact to_));intro _)|(first|(refine tqs_ ?_ ?_ ?_;(·(exact to_));(·(exact to_))))|(apply ybn;(·(first|(first|(refine yad rfl (hel _) ?_;rfl)|(refine yad rfl (hel2 _) ?_;rfl)|exact qv_neq_agg rfl rfl (fun w => dot_eq _ _ w))|(apply yae;(·rfl);(·(first|exact yck (yaz 0 rfl) hv rfl|exact yck (yaz 1 rfl) hu rfl)))|exact tq_));(·rfl);(·rfl);(·rfl);(·(exact to_))))|refine ycg ?_))
        repeat' (first|(refine ycf ?_;apply ybk;(·first|(first|(refine yad rfl (hel _) ?_;rfl)|(refine yad rfl (hel2 _) ?_;rfl)|exact qv_neq_agg rfl rfl (fun w => dot_eq _ _ w))|(apply yae;(·rfl);(·(first|exact yck (yaz 0 rfl) hv rfl|exact yck (yaz 1 rfl) hu rfl))));(·rfl);(·rfl))|refine t1_ ?_|(refine ta_ ?_;intro _)|((fail_if_success (refine ybi rfl ?_));refine ybj rfl ?_ ?_<;>(intro ht;rw [ht];first|replace ht := oet_ ht|replace ht := oef_ ht|skip))|(refine ych ?_;first|(refine ybw rfl ?_ ?_<;>intro ht)|(refine ybx rfl ?_ ?_<;>intro ht)))
        · have hne := ht
          refine nx_ret1 rfl (rv_tmp rfl) (fun w' s' => ⟨?_, s'.nil⟩)
          have : ¬ l = m := fun e => by
            subst e
            simp at hne
          simp [this]
        · have hne := ht
          refine nx_round (k + 1) ⟨by omega, fun j hj hjk => ?_⟩ (by omega) ts_ (fun _ s => s)
          by_cases hjk' : j = k
          · subst hjk'; simpa using hne
          · exact hno j hj (by omega)
      · omega
    · repeat' (first|(refine ycf ?_;apply ybk;(·first|(first|(refine yad rfl (hel _) ?_;rfl)|(refine yad rfl (hel2 _) ?_;rfl)|exact qv_neq_agg rfl rfl (fun w => dot_eq _ _ w))|(apply yae;(·rfl);(·(first|exact yck (yaz 0 rfl) hv rfl|exact yck (yaz 1 rfl) hu rfl))));(·rfl);(·rfl))|refine t1_ ?_|(refine ta_ ?_;intro _)|((fail_if_success (refine ybi rfl ?_));refine ybj rfl ?_ ?_<;>(intro ht;rw [ht];first|replace ht := oet_ ht|replace ht := oef_ ht|skip))|(refine ych ?_;first|(refine ybw rfl ?_ ?_<;>intro ht)|(refine ybx rfl ?_ ?_<;>intro ht)))
      · omega
      · refine nx_ret1 rfl (rv_tmp rfl) (fun w' s' => ⟨?_, s'.nil⟩)
        have : l = m := List.ext_getElem hlm fun i h1 h2 => hno i h1 (by omega)
        simp [this, huv]
end Go.Proofs.YtaofgcahmfailaaGreatDoor
end

section
namespace Go.Proofs.YtaofgcahmfailaaGreatDoor
open Go Go.Ck
set_option maxHeartbeats 2000000
theorem putLow_val : ∀ {l : List Int}, Bytes l → (putLow l.length (valB l)).reverse = l := by
  intro l
  rw [show l = l.reverse.reverse by simp]
  generalize l.reverse = r
  induction r with
  | nil => intro _; rfl
  | cons c r ih =>
    intro hb
    have hb' : Bytes r.reverse := fun x hx => hb x (by simp at hx ⊢; exact .inl hx)
    have hc := hb c (by simp)
    have e : valB (c :: r).reverse = valB r.reverse * 256 + c := by
      rw [List.reverse_cons]
      unfold valB
      rw [List.foldl_append]
      rfl
    rw [e, List.reverse_cons, List.length_append, List.length_singleton, putLow, List.reverse_cons, show (valB r.reverse * 256 + c) % 256 = c by omega, show (valB r.reverse * 256 + c) / 256 = valB r.reverse by omega, ih hb']
theorem val_putLow : ∀ (k : Nat) (x : Int), 0 ≤ x → x < 256 ^ k → valB (putLow k x).reverse = x
  | 0, x, h0, h1 => by
    rw [Int.pow_zero] at h1
    have : x = 0 := by omega
    subst this; rfl
  | k + 1, x, h0, h1 => by
    rw [Int.pow_succ] at h1
    have ih := val_putLow k (x / 256) (by omega) (by omega)
    rw [putLow, List.reverse_cons]
    unfold valB at ih ⊢
    rw [List.foldl_append, ih]
    show x / 256 * 256 + x % 256 = x
    omega
theorem putLow_bytes : ∀ (k : Nat) (x : Int), Bytes (putLow k x)
  | 0, x => fun b hb => by cases hb
  | k + 1, x => fun b hb => by
    rcases List.mem_cons.1 hb with rfl | hb
    · omega
    · exact putLow_bytes k _ b hb
theorem putLow_bytes' (k : Nat) (x : Int) : Bytes (putLow k x).reverse := fun b hb => putLow_bytes k x b (List.mem_reverse.1 hb)
theorem numC_took {s : RS} (hb : Bytes s.1) {size : Nat} {most : Int} (h : (numC s size most).2.2 = 0) :
    s.2 = 0 ∧ (putLow size (numC s size most).1).reverse ++ (numC s size most).2.1 = s.1 := by
  unfold numC at h ⊢
  by_cases h0 : s.2 ≠ 0
  · rw [if_pos h0] at h; exact absurd h h0
  · rw [if_neg h0] at h ⊢
    refine ⟨Decidable.not_not.1 h0, ?_⟩
    by_cases h1 : (lookC s.1 size most).2 = 0
    · rw [if_pos h1]
      have hl := lookC_len h1
      have e : (lookC s.1 size most).1 = valB (s.1.take size) := by
        unfold lookC at h1 ⊢
        split
        · rename_i h2; rw [if_pos h2] at h1; cases h1
        · rename_i h2
          rw [if_neg h2] at h1
          split
          · rename_i h3; rw [if_pos h3] at h1; cases h1
          · rfl
      dsimp only
      rw [e]
      have hp := putLow_val (l := s.1.take size) (fun x hx => hb x (List.mem_of_mem_take hx))
      rw [List.length_take, Nat.min_eq_left hl] at hp
      rw [hp, List.take_append_drop]
    · rw [if_neg h1] at h; exact absurd h h1
theorem numC_put {size : Nat} {x most : Int} {r : List Int} (h0 : 0 ≤ x) (h1 : x ≤ most) (h2 : x < 256 ^ size) : numC ((putLow size x).reverse ++ r, 0) size most = (x, (r, 0)) := by
  have hl : (putLow size x).reverse.length = size := by rw [List.length_reverse, putLow_len]
  have ht : ((putLow size x).reverse ++ r).take size = (putLow size x).reverse := by
    conv => lhs; arg 1; rw [← hl]
    exact List.take_left
  have hd : ((putLow size x).reverse ++ r).drop size = r := by
    conv => lhs; arg 1; rw [← hl]
    exact List.drop_left
  have hk : lookC ((putLow size x).reverse ++ r) size most = (x, 0) := by
    unfold lookC
    rw [if_neg (by rw [List.length_append, hl]; omega), ht, val_putLow size x h0 h2, if_neg (by omega)]
  unfold numC
  rw [if_neg (by simp)]
  dsimp only
  rw [hk, if_pos rfl, hd]
theorem numC_num8 {x : Int} {r : List Int} (h : 0 ≤ x ∧ x ≤ 1099511627776) : numC (num8 x ++ r, 0) 8 1099511627776 = (x, (r, 0)) :=
  numC_put h.1 h.2 (by have : (256 : Int) ^ 8 = 18446744073709551616 := by decide
                       rw [this]; omega)
theorem upsC_put : ∀ (u : List Int) (r : List Int), (∀ x ∈ u, 0 ≤ x ∧ x ≤ 1099511627776) → ∀ k, k ≤ u.length → upsC k (u.flatMap num8 ++ r, 0) = (u.take k, ((u.drop k).flatMap num8 ++ r, 0)) := by
  intro u r hu k
  induction k with
  | zero => intro _; rfl
  | succ k ih =>
    intro hk
    rw [upsC, ih (by omega), List.drop_eq_getElem_cons (by omega : k < u.length), List.flatMap_cons, List.append_assoc]
    dsimp only
    rw [numC_num8 (hu _ (List.getElem_mem _)), List.take_succ_eq_append_getElem (by omega)]
theorem dsC_put : ∀ (l : List Dt) (r : List Int), (∀ d ∈ l, (0 ≤ d.1 ∧ d.1 ≤ 1099511627776) ∧ 0 ≤ d.2 ∧ d.2 ≤ 1099511627776) → ∀ k, k ≤ l.length → dsC k (l.flatMap encD ++ r, 0) = (l.take k, ((l.drop k).flatMap encD ++ r, 0)) := by
  intro l r hl k
  induction k with
  | zero => intro _; rfl
  | succ k ih =>
    intro hk
    have hd := hl _ (List.getElem_mem (by omega : k < l.length))
    rw [dsC, ih (by omega), List.drop_eq_getElem_cons (by omega : k < l.length), List.flatMap_cons, encD, List.append_assoc, List.append_assoc]
    dsimp only
    rw [numC_num8 hd.1]
    dsimp only
    rw [numC_num8 hd.2, List.take_succ_eq_append_getElem (by omega)]
theorem encW_bytes (u : List Int) (l : List Dt) : Bytes (encW u l) := by
  intro b hb
  have h8 : ∀ x, Bytes (num8 x) := fun x => putLow_bytes' 8 x
  rcases List.mem_append.1 hb with hb | hb
  · rcases List.mem_append.1 hb with hb | hb
    · obtain ⟨x, _, hx⟩ := List.mem_flatMap.1 hb
      exact h8 x b hx
    · exact putLow_bytes' 1 _ b hb
  · obtain ⟨d, _, hx⟩ := List.mem_flatMap.1 hb
    rcases List.mem_append.1 hx with hx | hx
    · exact h8 _ b hx
    · exact h8 _ b hx
theorem rd_put {u : List Int} {l : List Dt} (hu : u.length = 16) (hk : checkC u l = 0) : rdC (encW u l) = (u, l, ([], 0)) ∧ (encW u l).length ≤ 700 := by
  obtain ⟨hub, hl32, hlr⟩ := check_right hk
  have e1 : upsC 16 (encW u l, 0) = (u, (num1 l.length ++ l.flatMap encD, 0)) := by
    unfold encW
    rw [List.append_assoc, upsC_put u _ hub 16 (by omega), List.take_of_length_le (by omega), List.drop_eq_nil_of_le (by omega)]
    rfl
  have e2 : smC (encW u l) = ((l.length : Int), (l.flatMap encD, 0)) := by
    unfold smC
    rw [e1]
    exact numC_put (by omega) (by omega) (by rw [Int.pow_one]; omega)
  have e3 : dsC l.length (l.flatMap encD, 0) = (l, ([], 0)) := by
    have := dsC_put l [] (fun d hd => by have := right_of (hlr d hd); omega) l.length (Nat.le_refl _)
    rw [List.append_nil, List.take_length, List.drop_length] at this
    exact this
  refine ⟨?_, ?_⟩
  · unfold rdC
    rw [e1, e2]
    dsimp only
    rw [Int.toNat_natCast, e3]
  · have h1 := encU_len u
    have h2 := encL_len l
    have h3 := num1_len (l.length : Int)
    unfold encW
    rw [List.length_append, List.length_append, h1, h2, h3]
    omega
end Go.Proofs.YtaofgcahmfailaaGreatDoor
end

section
namespace Go.Ck
open Go
theorem St.persistA {K : Bs} {h : View} {b : Nat} {o : Obj} {L : List Res} {w : World} (s : St K h (Res.blk b o :: L) w) (hA : ∀ x ∈ K.A, x ∈ doms L) : St K (addV h b o) L w := by
  have hmem : b ∈ doms (Res.blk b o :: L) := by rw [doms_cons]; exact List.mem_append_left _ (List.mem_singleton.2 rfl)
  have nd := s.nd
  rw [doms_cons] at nd
  obtain ⟨_, n2, n3⟩ := List.nodup_append.1 nd
  have hnot : b ∉ doms L := fun hb => n3 b (List.mem_singleton.2 rfl) b hb rfl
  have hb0 : K.w0.heap.size ≤ b := by
    rcases s.src b hmem with h1 | h1
    · exact absurd (hA b h1) hnot
    · exact h1
  refine ⟨s.os, s.tape, s.output, s.drawn, s.size, s.keep, ⟨fun x o' hx => ?_, fun r hr => s.hd.own r (List.mem_cons_of_mem _ hr)⟩, n2, fun x hx => s.src x (by rw [doms_cons]; exact List.mem_append_right _ hx), fun x o' hx => ?_, fun x hx hx0 => ?_, fun x hx => ?_⟩
  · unfold addV at hx
    split at hx
    · rename_i e; subst e; cases hx
      exact s.hd.own _ (List.mem_cons_self ..)
    · exact s.hd.view x o' hx
  · unfold addV
    split
    · rename_i e; subst e
      have h1 := s.grow x o' hx
      rw [s.dis x hmem] at h1; cases h1
    · exact s.grow x o' hx
  · unfold addV
    rw [if_neg (by omega)]
    exact s.new x hx hx0
  · unfold addV
    rw [if_neg (fun e => hnot (by rw [← e]; exact hx))]
    exact s.dis x (by rw [doms_cons]; exact List.mem_append_right _ hx)
section
variable {P : Program} {n : Nat} {K : Bs} {F : List (Nat × Value)} {h : View} {L : List Res} {Q : Exit → Act → World → Prop}
theorem St.rowPersistA {e : TypeId} {k m : Nat} {v : Value} {xs : List Value} {w : World} (s : St K h (Res.row e k v m xs :: L) w) (hA : ∀ x ∈ K.A, x ∈ doms L) : ∃ h', Le h h' ∧ Sc h' k v m xs ∧ St K h' L w := by
  have ho : w.ownsRow 0 e k v m xs := s.hd.own _ (List.mem_cons_self ..)
  rcases ho.2 with ⟨rfl, rfl⟩ | ⟨g, cap, cur, rfl, _, hg, hn, _, hcs, htake⟩
  · have : xs = [] := List.eq_nil_of_length_eq_zero (by rw [ho.1]; simp)
    subst this
    exact ⟨h, Le.refl h, Sc.nil h k Option.none 0, s.tl⟩
  · have hd : doms (Res.row e k (.slice (some ⟨g, 0, Option.none⟩) m cap) m xs :: L) = doms (Res.blk g (.cells cur e (0, 0)) :: L) := by simp [doms_cons, Res.row, Res.blk, Value.ownBlock]
    have s2 : St K h (Res.blk g (.cells cur e (0, 0)) :: L) w := ⟨s.os, s.tape, s.output, s.drawn, s.size, s.keep, ⟨s.hd.view, fun r hr => by
      rcases List.mem_cons.1 hr with rfl | hr
      · exact hg
      · exact s.hd.own r (List.mem_cons_of_mem _ hr)⟩, by rw [← hd]; exact s.nd, fun b hb => s.src b (by rw [hd]; exact hb), s.grow, s.new, fun b hb => s.dis b (by rw [hd]; exact hb)⟩
    refine ⟨addV h g (.cells cur e (0, 0)), Le.addV (s2.dis g (by rw [doms_cons]; exact List.mem_append_left _ (List.mem_singleton.2 rfl))), ⟨ho.1, some ⟨g, 0, Option.none⟩, cap, rfl, hn, .inr ⟨g, 0, cur, e, (0, 0), rfl, addV_same, fun j u hj => ?_⟩⟩, s2.persistA hA⟩
    rw [← htake, List.getElem?_take] at hj
    split at hj
    · simpa using hj
    · cases hj
theorem rx_persistA {g : Rg} {prs : List (Nat × Oper)} {e : TypeId} {sz m : Nat} {v : Value} {xs : List Value} (hA : ∀ x ∈ K.A, x ∈ doms L) (hx : ∀ h', Le h h' → Sc h' sz v m xs → RX P n K g prs F h' L Q) : RX P n K g prs F h (Res.row e sz v m xs :: L) Q := by
  unfold RX at *
  intro a w f s
  obtain ⟨h', h1, h2, h3⟩ := s.rowPersistA hA
  exact hx h' h1 h2 a w f h3
end
end Go.Ck
end

section
namespace Go.Proofs.YtaofgcahmfailaaGreatDoor
open Go Go.Ck
set_option maxHeartbeats 2000000
def byC (s : RS) (most : Int) : List Int × RS :=
  if s.2 ≠ 0 then ([], s)
  else if (lookC s.1 4 most).2 ≠ 0 then ([], (s.1, (lookC s.1 4 most).2))
  else if s.1.length - 4 < (lookC s.1 4 most).1.toNat then ([], (s.1, 3))
  else ((s.1.drop 4).take (lookC s.1 4 most).1.toNat, ((s.1.drop 4).drop (lookC s.1 4 most).1.toNat, 0))
def num4 (x : Int) : List Int := (putLow 4 x).reverse
theorem num4_len (x : Int) : (num4 x).length = 4 := by simp [num4, putLow_len]
theorem lookC_bd {l : List Int} (hb : Bytes l) {size : Nat} {most : Int} (hm : 0 ≤ most) : 0 ≤ (lookC l size most).1 ∧ (lookC l size most).1 ≤ most := by
  unfold lookC
  split
  · exact ⟨by decide, hm⟩
  · split
    · exact ⟨by decide, hm⟩
    · exact ⟨(valB_bd hb size (by omega)).1, by dsimp only; omega⟩
theorem bytes_take {l : List Int} (hb : Bytes l) (k : Nat) : Bytes (l.take k) := fun b hx => hb b (List.mem_of_mem_take hx)
theorem bytes_drop {l : List Int} (hb : Bytes l) (k : Nat) : Bytes (l.drop k) := fun b hx => hb b (List.mem_of_mem_drop hx)
theorem RsOk.by {s : RS} (h : RsOk s) {most : Int} (hm : 0 ≤ most) : RsOk (byC s most).2 ∧ Bytes (byC s most).1 ∧ ((byC s most).1.length : Int) ≤ most := by
  have hbd := lookC_bd (size := 4) h.b hm
  unfold byC
  split
  · exact ⟨h, (fun b hx => by cases hx), hm⟩
  · split
    · exact ⟨⟨h.b, h.l⟩, (fun b hx => by cases hx), hm⟩
    · split
      · exact ⟨⟨h.b, h.l⟩, (fun b hx => by cases hx), hm⟩
      · refine ⟨⟨bytes_drop (bytes_drop h.b 4) _, ?_⟩, bytes_take (bytes_drop h.b 4) _, ?_⟩
        · have := h.l
          simp only [List.length_drop]; omega
        · simp only [List.length_take, List.length_drop]; omega
theorem skipr_sp (bi : Nat) (v : Value) (l : List Int) (e : Int) (size : Nat) (hsz : size ≤ l.length) (hl : l.length ≤ 140737488355328) (h : View) (hv : Bs8 h v l) (w : World) (s : St ⟨w, h, doms [inR bi v e]⟩ h [inR bi v e] w) :
    Calls Tryz.prog 80 [.pointer (some ⟨bi, 0, none⟩), .int .i64 size].toArray w fun en w' => ∃ x : View × Value × Value, en = .returned x.2.1 ∧ St ⟨w, h, doms [inR bi v e]⟩ x.1 [inR bi x.2.2 e] w' ∧ (Bs8 x.1 x.2.1 (l.take size) ∧ Bs8 x.1 x.2.2 (l.drop size)) := by
  obtain ⟨_, ad, cap, rfl, hcap, _⟩ := id hv
  have ht1 : Bs8 h (.slice ad size cap) (l.take size) := by
    have := sc_take hv hsz
    unfold Bs8
    rw [List.length_take, Nat.min_eq_left hsz]
    have e : bcs (l.take size) = (bcs l).take (size * 1) := by simp [bcs]
    rw [e]; exact this
  have hd1 : Bs8 h (.slice (cutF ad cap size 1) (l.length - size) (cap - size)) (l.drop size) := by
    have := sc_drop hv (by decide) hsz
    unfold Bs8
    rw [List.length_drop]
    have e : bcs (l.drop size) = (bcs l).drop (size * 1) := by simp [bcs]
    rw [e]; exact this
  refine calls_enter Tryz.func80 rfl Tryz.ntmps80 rfl s ?_
  repeat' (first|(refine ycf ?_;apply ybk;(·first|(first|(apply qv_nilCheck;rfl)|(apply qv_slice_to;(·rfl);(·rfl);(·omega);(·omega))|(apply qv_slice_from;(·rfl);(·rfl);(·omega))));(·rfl);(·rfl))|refine t1_ ?_|(refine ta_ ?_;intro _)|((fail_if_success (refine ybi rfl ?_));refine ybj rfl ?_ ?_<;>(intro ht;rw [ht];first|replace ht := oet_ ht|replace ht := oef_ ht|skip))|(refine ych ?_;first|(refine ybw rfl ?_ ?_<;>intro ht)|(refine ybx rfl ?_ ?_<;>intro ht)))
  (refine yco (ycp Tryz.func57 rfl (by kernel_rfl) rfl) (BClone_sp (.slice ad size cap) (l.take size) h ht1 (by simp; omega)) rfl rfl rfl ?_ ?_ ?_; (· (exact to_)); (· intro _ _ hle; (exact to_)); intro x px hle)
  repeat' (first|(refine ycf ?_;apply ybk;(·first|(first|(apply qv_nilCheck;rfl)|(apply qv_slice_to;(·rfl);(·rfl);(·omega);(·omega))|(apply qv_slice_from;(·rfl);(·rfl);(·omega))));(·rfl);(·rfl))|refine t1_ ?_|(refine ta_ ?_;intro _)|((fail_if_success (refine ybi rfl ?_));refine ybj rfl ?_ ?_<;>(intro ht;rw [ht];first|replace ht := oet_ ht|replace ht := oef_ ht|skip))|(refine ych ?_;first|(refine ybw rfl ?_ ?_<;>intro ht)|(refine ybx rfl ?_ ?_<;>intro ht)))
  refine nx_ret1 rfl (rv_tmp rfl) (fun w' s' => ?_)
  obtain ⟨h2, hle2, hs2, s2⟩ := s'.rowPersistA (by intro x hx; exact hx)
  exact ⟨(h2, x, .slice (cutF ad cap size 1) (l.length - size) (cap - size)), rfl, s2, hs2, hd1.mono hle2⟩
theorem InBytes_sp (bi : Nat) (v : Value) (l : List Int) (e : Int) (most : Int) (hb : Bytes l) (hm : 0 ≤ most ∧ most < 9223372036854775808) (hl : l.length ≤ 140737488355328) (h : View) (hv : Bs8 h v l) (w : World) (s : St ⟨w, h, doms [inR bi v e]⟩ h [inR bi v e] w) :
    Calls Tryz.prog 65 [.pointer (some ⟨bi, 0, none⟩), .int .i64 most].toArray w fun en w' => ∃ x : View × Value × Value, en = .returned x.2.1 ∧ St ⟨w, h, doms [inR bi v e]⟩ x.1 [inR bi x.2.2 (byC (l, e) most).2.2] w' ∧ (Bs8 x.1 x.2.1 (byC (l, e) most).1 ∧ Bs8 x.1 x.2.2 (byC (l, e) most).2.1) := by
  refine calls_enter Tryz.func65 rfl Tryz.ntmps65 rfl s ?_
  unfold byC
  dsimp only
  by_cases he : e = 0
  · subst he
    rw [if_neg (by simp)]
    have hdead := dead_sp bi v 0 h
    rw [show decide ((0 : Int) ≠ 0) = false by decide] at hdead
    repeat' (first|(refine ycf ?_;apply ybk;(·first|(first|(apply qv_nilCheck;rfl)|(apply qv_slice_to;(·rfl);(·rfl);(·omega);(·omega))|(apply qv_slice_from;(·rfl);(·rfl);(·omega))));(·rfl);(·rfl))|refine t1_ ?_|(refine ta_ ?_;intro _)|((fail_if_success (refine ybi rfl ?_));refine ybj rfl ?_ ?_<;>(intro ht;rw [ht];first|replace ht := oet_ ht|replace ht := oef_ ht|skip))|(refine ych ?_;first|(refine ybw rfl ?_ ?_<;>intro ht)|(refine ybx rfl ?_ ?_<;>intro ht)))
    (refine rx_call_m (ycp Tryz.func79 rfl (by kernel_rfl) rfl) (perm_at (k := 0) rfl) (hdead) rfl rfl rfl ?_ ?_ ?_; (· (exact to_)); (· intro _ _ hle; (exact to_)); intro x px hle)
    repeat' (first|(refine ycf ?_;apply ybk;(·first|(first|(apply qv_nilCheck;rfl)|(apply qv_slice_to;(·rfl);(·rfl);(·omega);(·omega))|(apply qv_slice_from;(·rfl);(·rfl);(·omega))));(·rfl);(·rfl))|refine t1_ ?_|(refine ta_ ?_;intro _)|((fail_if_success (refine ybi rfl ?_));refine ybj rfl ?_ ?_<;>(intro ht;rw [ht];first|replace ht := oet_ ht|replace ht := oef_ ht|skip))|(refine ych ?_;first|(refine ybw rfl ?_ ?_<;>intro ht)|(refine ybx rfl ?_ ?_<;>intro ht)))
    (refine rx_call_m (ycp Tryz.func82 rfl (by kernel_rfl) rfl) (perm_at (k := 0) rfl) (look_sp bi v l 4 most hb (by omega) (by omega) hm hl h hv) rfl rfl rfl ?_ ?_ ?_; (· (exact to_)); (· intro _ _ hle; (exact to_)); intro x px hle)
    have hbd := lookC_bd (size := 4) hb hm.1
    by_cases hz : (lookC l 4 most).2 = 0
    · have hsl := lookC_len hz
      rw [if_neg (by simpa using hz), hz]
      generalize (lookC l 4 most).1 = N at hbd ⊢
      obtain ⟨N, rfl⟩ : ∃ k : Nat, N = k := ⟨N.toNat, by omega⟩
      rw [Int.toNat_natCast]
      obtain ⟨_, ad, cap, rfl, hcap, _⟩ := id hv
      by_cases hN : l.length - 4 < N
      · rw [if_pos hN]
        repeat' (first|(refine ycf ?_;apply ybk;(·first|(exact tk_));(·rfl);(·rfl))|refine t1_ ?_|(refine ta_ ?_;intro _)|((fail_if_success (refine ybi rfl ?_));refine ybj rfl ?_ ?_<;>(intro ht;rw [ht];first|replace ht := oet_ ht|replace ht := oef_ ht|skip))|(refine ych ?_;first|(refine ybw rfl ?_ ?_<;>intro ht)|(refine ybx rfl ?_ ?_<;>intro ht)))
        exact nx_ret1 rfl (rv_tmp rfl) (fun w' s' => ⟨(h, .slice none 0 0, .slice ad l.length cap), rfl, s', Sc.nil h 1 none 0, hv⟩)
      · rw [if_neg hN]
        repeat' (first|(refine ycf ?_;apply ybk;(·first|(exact tk_));(·rfl);(·rfl))|refine t1_ ?_|(refine ta_ ?_;intro _)|((fail_if_success (refine ybi rfl ?_));refine ybj rfl ?_ ?_<;>(intro ht;rw [ht];first|replace ht := oet_ ht|replace ht := oef_ ht|skip))|(refine ych ?_;first|(refine ybw rfl ?_ ?_<;>intro ht)|(refine ybx rfl ?_ ?_<;>intro ht)))
        (refine rx_call_m (ycp Tryz.func80 rfl (by kernel_rfl) rfl) (perm_at (k := 0) rfl) (skipr_sp bi _ l 0 4 hsl hl h hv) rfl rfl rfl ?_ ?_ ?_; (· (exact to_)); (· intro _ _ hle; (exact to_)); intro x px hle)
        obtain ⟨h1, v1, v2⟩ := x
        obtain ⟨p1, p2⟩ := px
        dsimp only at p1 p2 hle ⊢
        have hle1 := hle
        repeat' (first|(refine ycf ?_;apply ybk;(·first|(exact tk_));(·rfl);(·rfl))|refine t1_ ?_|(refine ta_ ?_;intro _)|((fail_if_success (refine ybi rfl ?_));refine ybj rfl ?_ ?_<;>(intro ht;rw [ht];first|replace ht := oet_ ht|replace ht := oef_ ht|skip))|(refine ych ?_;first|(refine ybw rfl ?_ ?_<;>intro ht)|(refine ybx rfl ?_ ?_<;>intro ht)))
        (refine rx_call_m (ycp Tryz.func80 rfl (by kernel_rfl) rfl) (perm_at (k := 0) rfl) (skipr_sp bi v2 (l.drop 4) 0 N (by rw [List.length_drop]; omega) (by rw [List.length_drop]; omega) h1 p2) rfl rfl rfl ?_ ?_ ?_; (· (exact to_)); (· intro _ _ hle; (exact to_)); intro x px hle)
        repeat' (first|(refine ycf ?_;apply ybk;(·first|(exact tk_));(·rfl);(·rfl))|refine t1_ ?_|(refine ta_ ?_;intro _)|((fail_if_success (refine ybi rfl ?_));refine ybj rfl ?_ ?_<;>(intro ht;rw [ht];first|replace ht := oet_ ht|replace ht := oef_ ht|skip))|(refine ych ?_;first|(refine ybw rfl ?_ ?_<;>intro ht)|(refine ybx rfl ?_ ?_<;>intro ht)))
        exact nx_ret1 rfl (rv_tmp rfl) (fun w' s' => ⟨x, rfl, s', px⟩)
    · have hf := lookC_bad hz
      rw [if_pos hz, hf]
      generalize (lookC l 4 most).2 = E at hz ⊢
      repeat' (first|(refine ycf ?_;apply ybk;(·first|(exact tk_));(·rfl);(·rfl))|refine t1_ ?_|(refine ta_ ?_;intro _)|((fail_if_success (refine ybi rfl ?_));refine ybj rfl ?_ ?_<;>(intro ht;rw [ht];first|replace ht := oet_ ht|replace ht := oef_ ht|skip))|(refine ych ?_;first|(refine ybw rfl ?_ ?_<;>intro ht)|(refine ybx rfl ?_ ?_<;>intro ht)))
      exact nx_ret1 rfl (rv_tmp rfl) (fun w' s' => ⟨(h, .slice none 0 0, v), rfl, s', Sc.nil h 1 none 0, hv⟩)
  · rw [if_pos he]
    have hdead := dead_sp bi v e h
    rw [decide_eq_true he] at hdead
    repeat' (first|(refine ycf ?_;apply ybk;(·first|(exact tk_));(·rfl);(·rfl))|refine t1_ ?_|(refine ta_ ?_;intro _)|((fail_if_success (refine ybi rfl ?_));refine ybj rfl ?_ ?_<;>(intro ht;rw [ht];first|replace ht := oet_ ht|replace ht := oef_ ht|skip))|(refine ych ?_;first|(refine ybw rfl ?_ ?_<;>intro ht)|(refine ybx rfl ?_ ?_<;>intro ht)))
    (refine rx_call_m (ycp Tryz.func79 rfl (by kernel_rfl) rfl) (perm_at (k := 0) rfl) (hdead) rfl rfl rfl ?_ ?_ ?_; (· (exact to_)); (· intro _ _ hle; (exact to_)); intro x px hle)
    repeat' (first|(refine ycf ?_;apply ybk;(·first|(exact tk_));(·rfl);(·rfl))|refine t1_ ?_|(refine ta_ ?_;intro _)|((fail_if_success (refine ybi rfl ?_));refine ybj rfl ?_ ?_<;>(intro ht;rw [ht];first|replace ht := oet_ ht|replace ht := oef_ ht|skip))|(refine ych ?_;first|(refine ybw rfl ?_ ?_<;>intro ht)|(refine ybx rfl ?_ ?_<;>intro ht)))
    exact nx_ret1 rfl (rv_tmp rfl) (fun w' s' => ⟨(h, .slice none 0 0, v), rfl, s', Sc.nil h 1 none 0, hv⟩)
theorem qv_neq_pnil {P : Program} {n : Nat} {F : List (Nat × Value)} {h : View} {L : List Res} {dst : Option Nat} {ty : Nat} {pos : String} {af : Array Edge} {gd : Option (Nat × Bool)} {T T' e : Nat} {x y : Operand} {ad : Addr} [tu : TyU P T (.pointer e)] (hx : ev F x = some (.pointer (some ad))) (hy : ev F y = some (.pointer none)) :
    QV P n F h L ⟨dst, .binOp .neq T x y T', ty, pos, af, gd⟩ (.bool true) := by
  refine .mk fun a w f s => ?_
  have hp : P.underlying T = some (.pointer (P.pointee T)) := by
    have := tu.u
    simp [Program.pointee, this]
  have hg : (eqGuard .neq T x y (.pointer (some ad)) (.pointer none)).run P w = .ok () w := by simp [eqGuard]
  have he := run_equal_pointer_nil (P := P) (w := w) T (some ad) hp
  simp only [execOp, f.ev hx, f.ev hy, Sem.run_bind, hg, Result.andThen_ok, binOp, he]
  rfl
theorem OutFixed_sp (bo : Nat) (v : Value) (l : List Int) (bad : Bool) (bv : Value) (b : List Int) (hl : l.length + b.length ≤ 1000000) (h : View) (hb : Bs8 h bv b) (w : World) (s : St ⟨w, h, doms [outR bo v bad, rowB v l]⟩ h [outR bo v bad, rowB v l] w) :
    Calls Tryz.prog 56 [.pointer (some ⟨bo, 0, none⟩), bv].toArray w fun e w' => ∃ x : Value, e = .returned (.pointer (some ⟨bo, 0, none⟩)) ∧
      St ⟨w, h, doms [outR bo v bad, rowB v l]⟩ h [outR bo x bad, rowB x (l ++ b)] w' ∧ True := by
  obtain ⟨_, ad, cap, rfl, hcap, _⟩ := id hb
  refine calls_enter Tryz.func56 rfl Tryz.ntmps56 rfl s ?_
  repeat' (first|(refine ycf ?_;apply ybk;(·first|(first|(apply qv_neq_pnil<;>rfl)|(apply qv_nilCheck;rfl)));(·rfl);(·rfl))|refine t1_ ?_|(refine ta_ ?_;intro _)|((fail_if_success (refine ybi rfl ?_));refine ybj rfl ?_ ?_<;>(intro ht;rw [ht];first|replace ht := oet_ ht|replace ht := oef_ ht|skip))|(refine ych ?_;first|(refine ybw rfl ?_ ?_<;>intro ht)|(refine ybx rfl ?_ ?_<;>intro ht)))
  refine rx_append_sc (sz := 1) 1 rfl rfl rfl hb (bcs_one b) rfl (by omega) (by unfold maxLen; omega) (by omega) rfl rfl rfl ybf (fun _ => ybf) ?_
  intro v2 hv2
  refine rx_rowform 1 rfl (fun q1 q2 q3 => ?_) ?_
  · subst q1
    have hl0 : l = [] := List.eq_nil_of_length_eq_zero (by omega)
    have hb0 : b = [] := List.eq_nil_of_length_eq_zero (by omega)
    subst hl0
    subst hb0
    repeat' (first|(refine ycf ?_;apply ybk;(·first|(first|(apply qv_neq_pnil<;>rfl)|(apply qv_nilCheck;rfl)));(·rfl);(·rfl))|refine t1_ ?_|(refine ta_ ?_;intro _)|((fail_if_success (refine ybi rfl ?_));refine ybj rfl ?_ ?_<;>(intro ht;rw [ht];first|replace ht := oet_ ht|replace ht := oef_ ht|skip))|(refine ych ?_;first|(refine ybw rfl ?_ ?_<;>intro ht)|(refine ybx rfl ?_ ?_<;>intro ht)))
    exact nx_ret1 rfl (rv_tmp rfl) (fun w' s' => ⟨_, rfl, s', trivial⟩)
  rintro g2 cap2 rfl
  repeat' (first|(refine ycf ?_;apply ybk;(·first|(first|(apply qv_neq_pnil<;>rfl)|(apply qv_nilCheck;rfl)));(·rfl);(·rfl))|refine t1_ ?_|(refine ta_ ?_;intro _)|((fail_if_success (refine ybi rfl ?_));refine ybj rfl ?_ ?_<;>(intro ht;rw [ht];first|replace ht := oet_ ht|replace ht := oef_ ht|skip))|(refine ych ?_;first|(refine ybw rfl ?_ ?_<;>intro ht)|(refine ybx rfl ?_ ?_<;>intro ht)))
  refine nx_ret1 rfl (rv_tmp rfl) (fun w' s' => ⟨.slice (some ⟨g2, 0, none⟩) (l.length + b.length) cap2, rfl, ?_, trivial⟩)
  unfold rowB
  rw [List.length_append, bcs_app]
  exact s'
theorem OutBytes_sp (bo : Nat) (v : Value) (l : List Int) (bad : Bool) (bv : Value) (b : List Int) (hl : l.length + 4 + b.length ≤ 1000000) (h : View) (hb : Bs8 h bv b) (w : World) (s : St ⟨w, h, doms [outR bo v bad, rowB v l]⟩ h [outR bo v bad, rowB v l] w) :
    Calls Tryz.prog 43 [.pointer (some ⟨bo, 0, none⟩), bv].toArray w fun e w' => ∃ x : Value, e = .returned (.pointer (some ⟨bo, 0, none⟩)) ∧
      St ⟨w, h, doms [outR bo v bad, rowB v l]⟩ h [outR bo x bad, rowB x (l ++ num4 b.length ++ b)] w' ∧ True := by
  obtain ⟨_, ad, cap, rfl, hcap, _⟩ := id hb
  refine calls_enter Tryz.func43 rfl Tryz.ntmps43 rfl s ?_
  repeat' (first|(refine ycf ?_;apply ybk;(·first|(first|(apply qv_neq_pnil<;>rfl)|(apply qv_nilCheck;rfl)));(·rfl);(·rfl))|refine t1_ ?_|(refine ta_ ?_;intro _)|((fail_if_success (refine ybi rfl ?_));refine ybj rfl ?_ ?_<;>(intro ht;rw [ht];first|replace ht := oet_ ht|replace ht := oef_ ht|skip))|(refine ych ?_;first|(refine ybw rfl ?_ ?_<;>intro ht)|(refine ybx rfl ?_ ?_<;>intro ht)))
  (refine rx_call_2 (ycp Tryz.func61 rfl (by kernel_rfl) rfl) (put_sp bo v l bad b.length 4 true (fun _ => by omega) (by omega) (by omega) (by omega) (by omega) h) rfl rfl rfl ?_ ?_ ?_; (· (exact to_)); (· intro _ _ hle; (exact to_)); intro x px hle)
  rw [Bool.not_true, Bool.or_false, if_pos rfl]
  repeat' (first|(refine ycf ?_;apply ybk;(·first|(first|(apply qv_neq_pnil<;>rfl)|(apply qv_nilCheck;rfl)));(·rfl);(·rfl))|refine t1_ ?_|(refine ta_ ?_;intro _)|((fail_if_success (refine ybi rfl ?_));refine ybj rfl ?_ ?_<;>(intro ht;rw [ht];first|replace ht := oet_ ht|replace ht := oef_ ht|skip))|(refine ych ?_;first|(refine ybw rfl ?_ ?_<;>intro ht)|(refine ybx rfl ?_ ?_<;>intro ht)))
  (refine rx_call_2 (ycp Tryz.func56 rfl (by kernel_rfl) rfl) (OutFixed_sp bo x (l ++ num4 b.length) bad _ b (by rw [List.length_append, num4_len]; omega) h hb) rfl rfl rfl ?_ ?_ ?_; (· (exact to_)); (· intro _ _ hle; (exact to_)); intro x px hle)
  repeat' (first|(refine ycf ?_;apply ybk;(·first|(first|(apply qv_neq_pnil<;>rfl)|(apply qv_nilCheck;rfl)));(·rfl);(·rfl))|refine t1_ ?_|(refine ta_ ?_;intro _)|((fail_if_success (refine ybi rfl ?_));refine ybj rfl ?_ ?_<;>(intro ht;rw [ht];first|replace ht := oet_ ht|replace ht := oef_ ht|skip))|(refine ych ?_;first|(refine ybw rfl ?_ ?_<;>intro ht)|(refine ybx rfl ?_ ?_<;>intro ht)))
  exact nx_ret1 rfl (rv_tmp rfl) (fun w' s' => ⟨x, rfl, s', trivial⟩)
section
variable {P : Program} {n : Nat} {F : List (Nat × Value)} {h : View} {L : List Res} {dst : Option Nat} {ty : Nat} {pos : String} {af : Array Edge} {gd : Option (Nat × Bool)}
end
end Go.Proofs.YtaofgcahmfailaaGreatDoor
end

section
namespace Go.Proofs.YtaofgcahmfailaaGreatDoor
open Go Go.Ck
set_option maxHeartbeats 2000000
def hi32 (l : List Int) : W32 := BitVec.ofInt 32 (valB l)
def up32 (l : List W32) : List Value := l.map v32
def pad32 (n : Nat) (l : List W32) : List W32 := l ++ List.replicate (n - l.length) 0
theorem up32_len (l : List W32) : (up32 l).length = l.length := by simp [up32]
theorem pad32_len {n : Nat} {l : List W32} (h : l.length ≤ n) : (pad32 n l).length = n := by simp [pad32]; omega
theorem pad32_full {n : Nat} {l : List W32} (h : l.length = n) : pad32 n l = l := by simp [pad32, h]
theorem pad32_set {n k : Nat} {l : List W32} {x : W32} (hk : l.length = k) (h : k < n) : (pad32 n l).set k x = pad32 n (l ++ [x]) := by
  subst hk
  unfold pad32
  rw [List.set_append_right _ _ (Nat.le_refl _), Nat.sub_self, show n - l.length = (n - (l ++ [x]).length) + 1 by simp; omega, List.replicate_succ, List.set_cons_zero]
  simp
theorem up32_at {l : List W32} {k : Nat} {x : W32} (h : l[k]? = some x) : (up32 l)[k]? = some (v32 x) := by
  unfold up32
  rw [List.getElem?_map, h]
  rfl
theorem cell_w {h : View} {L : List Res} {b k : Nat} {l : List W32} {x : W32} {i : Nat} (c : Cells h L ⟨b, 0, none⟩ (up32 l)) (hk : l[k]? = some x) (hi : i = k) : CellAt h L b i (v32 x) := by
  subst hi
  have := c.cell (up32_at hk)
  rwa [Nat.zero_add] at this
theorem spl_w {l : List W32} {x : W32} {i o : Nat} (ho : o = i) (hi : i < l.length) : spl (up32 l).toArray.toList o (v32 x).cells.toList = up32 (l.set i x) := by
  subst ho
  show spl (up32 l) o [v32 x] = _
  unfold spl up32
  rw [List.map_set, List.set_eq_take_append_cons_drop]
  simp [hi]
theorem fit_w {l : List W32} {x : W32} {n i o : Nat} (hu : l.length = n) (ho : o = i) (hi : i < n) : o + (v32 x).cells.size ≤ (up32 l).toArray.size := by
  subst ho
  show o + 1 ≤ (up32 l).toArray.size
  simp [up32_len, hu]
  omega
theorem w_sz {l : List W32} {n : Nat} (h : l.length = n) : (Value.agg (up32 l).toArray).cells.size = n := by
  show (up32 l).toArray.size = n
  simp [up32_len, h]
theorem w_fit {l : List W32} {cs : Array Value} {n : Nat} (h : l.length = n) (hc : cs.size = n) : 0 + (Value.agg (up32 l).toArray).cells.size ≤ cs.size := by rw [w_sz h, hc]; omega
theorem w_all {l : List W32} {cs : List Value} {n : Nat} (h : l.length = n) (hc : cs.length = n) : (Value.agg (up32 l).toArray).cells.toList.length = cs.length := by
  rw [hc]
  show (up32 l).length = n
  rw [up32_len, h]
theorem w_one (l : List W32) : (Value.agg (up32 l).toArray).cells.toList.all Value.oneCell' = true := by
  show (up32 l).all Value.oneCell' = true
  refine List.all_eq_true.2 fun x hx => ?_
  obtain ⟨a, _, rfl⟩ := List.mem_map.1 hx
  rfl
def nextW (w : List W32) : W32 := movedF (w.getD (w.length - 2) 0) 17 19 10 + w.getD (w.length - 7) 0 + movedF (w.getD (w.length - 15) 0) 7 18 3 + w.getD (w.length - 16) 0
def wsF (b : List Int) : Nat → List W32
  | 0 => []
  | k + 1 => wsF b k ++ [if k < 16 then hi32 ((b.drop (4 * k)).take 4) else nextW (wsF b k)]
section
variable {P : Program} {n : Nat} {F : List (Nat × Value)} {h : View} {L : List Res} {dst : Option Nat} {ty : Nat} {pos : String} {af : Array Edge} {gd : Option (Nat × Bool)}
end
theorem bs_mid {h : View} {ad : Option Addr} {cap : Nat} {l : List Int} (s : Bs8 h (.slice ad l.length cap) l) {i j : Nat} (hij : i ≤ j) (hj : j ≤ l.length) : Bs8 h (.slice (cutF ad cap i 1) (j - i) (cap - i)) ((l.drop i).take (j - i)) := by
  have h1 := sc_drop s (by decide) (j := i) (by omega)
  have h2 := sc_take h1 (j := j - i) (by omega)
  unfold Bs8
  have e1 : ((l.drop i).take (j - i)).length = j - i := by simp; omega
  have e2 : bcs ((l.drop i).take (j - i)) = ((bcs l).drop (i * 1)).take ((j - i) * 1) := by simp [bcs]
  rw [e1, e2]
  exact h2
end Go.Proofs.YtaofgcahmfailaaGreatDoor
end

section
namespace Go.Proofs.YtaofgcahmfailaaGreatDoor
open Go Go.Ck
set_option maxHeartbeats 4000000
def mixStep (v : List W32) (k w : W32) : List W32 :=
  let x := v.getD 7 0 + turnedF (v.getD 4 0) 6 11 25 + ((v.getD 4 0 &&& v.getD 5 0) ^^^ (~~~(v.getD 4 0) &&& v.getD 6 0)) + k + w
  let y := turnedF (v.getD 0 0) 2 13 22 + ((v.getD 0 0 &&& v.getD 1 0) ^^^ (v.getD 0 0 &&& v.getD 2 0) ^^^ (v.getD 1 0 &&& v.getD 2 0))
  [x + y, v.getD 0 0, v.getD 1 0, v.getD 2 0, v.getD 3 0 + x, v.getD 4 0, v.getD 5 0, v.getD 6 0]
def shK : List W32 := [1116352408, 1899447441, 3049323471, 3921009573, 961987163, 1508970993, 2453635748, 2870763221, 3624381080, 310598401, 607225278, 1426881987, 1925078388, 2162078206, 2614888103, 3248222580, 3835390401, 4022224774, 264347078, 604807628, 770255983, 1249150122, 1555081692, 1996064986, 2554220882, 2821834349, 2952996808, 3210313671, 3336571891, 3584528711, 113926993, 338241895, 666307205, 773529912, 1294757372, 1396182291, 1695183700, 1986661051, 2177026350, 2456956037, 2730485921, 2820302411, 3259730800, 3345764771, 3516065817, 3600352804, 4094571909, 275423344, 430227734, 506948616, 659060556, 883997877, 958139571, 1322822218, 1537002063, 1747873779, 1955562222, 2024104815, 2227730452, 2361852424, 2428436474, 2756734187, 3204031479, 3329325298]
def shH : List W32 := [1779033703, 3144134277, 1013904242, 2773480762, 1359893119, 2600822924, 528734635, 1541459225]
def roundsF (v ws : List W32) : Nat → List W32
  | 0 => v
  | k + 1 => mixStep (roundsF v ws k) (shK.getD k 0) (ws.getD k 0)
def mixF (v : List W32) (b : List Int) : List W32 := List.zipWith (· + ·) v (roundsF v (wsF b 64) 64)
theorem roundsF_len {v ws : List W32} (h : v.length = 8) : ∀ k, (roundsF v ws k).length = 8
  | 0 => h
  | k + 1 => rfl
theorem mixF_len {v : List W32} (b : List Int) (h : v.length = 8) : (mixF v b).length = 8 := by
  unfold mixF
  rw [List.length_zipWith, roundsF_len h, h]
  rfl
def ShG (h : View) : Prop := (∃ e fz, h 1 = some (.cells (up32 shK).toArray e fz)) ∧ ∃ e fz, h 0 = some (.cells (up32 shH).toArray e fz)
theorem ShG.mono {h h' : View} (g : ShG h) (hl : Le h h') : ShG h' := by
  obtain ⟨⟨e, fz, g1⟩, e', fz', g2⟩ := g
  exact ⟨⟨e, fz, hl _ _ g1⟩, e', fz', hl _ _ g2⟩
theorem getD_at {l : List W32} {i : Nat} (h : i < l.length) : l[i]? = some (l.getD i 0) := by
  rw [List.getD_eq_getElem?_getD, List.getElem?_eq_getElem h]
  rfl
end Go.Proofs.YtaofgcahmfailaaGreatDoor
end
