/-
  Part 4 of a proof: BitG BitH BitI BitK CkPer CkEq BitP CkGrow CkFloat DotQ DotR SbA.
  Conditions: each theorem states its own.
-/
import Derived.Lib.AppendZerosOnto
import Derived.Test.YtndpclcbobgdlaaGreatDoorTwGPM3
set_option maxRecDepth 100000
set_option linter.unusedVariables false
set_option linter.unusedSimpArgs false
section
namespace Go.Ck
open Go
section
variable {P : Program} {n : Nat} {F : List (Nat × Value)} {h : View} {L : List Res} {dst : Option Nat} {ty : Nat} {pos : String} {af : Array Edge} {gd : Option (Nat × Bool)}
def cutF (ad : Option Addr) (cap i k : Nat) : Option Addr := if cap = i then ad else ad.map (·.add (i * k))
theorem qv_slice_from {T e k : Nat} {x y : Operand} {ad : Option Addr} {len cap i : Nat} {ki : IntKind} [tu : TyU P T (.slice e)] [ts : TyS P e k] (hx : ev F x = some (.slice ad len cap)) (hy : ev F y = some (.int ki i)) (h1 : i ≤ len) :
    QV P n F h L ⟨dst, .slice T x (some y) none none, ty, pos, af, gd⟩ (.slice (cutF ad cap i k) (len - i) (cap - i)) := .mk fun a w f s => by
  have h2 : (0 : Int) ≤ (i : Int) ∧ (i : Int) ≤ (len : Int) := by omega
  simp [execOp, f.ev hx, f.ev hy, Instr.sliceAt, Instr.slice, Instr.sliceBounds, Instr.sliceBound, asIntOf, run_underlying tu.u, h2, ts.s, cutF]
  try omega
theorem sc_drop {k m cap j : Nat} {ad : Option Addr} {xs : List Value} (s : Sc h k (.slice ad m cap) m xs) (hk : 0 < k) (hj : j ≤ m) : Sc h k (.slice (cutF ad cap j k) (m - j) (cap - j)) (m - j) (xs.drop (j * k)) := by
  obtain ⟨q1, ad', cap', q2, q3, q4⟩ := s
  cases q2
  refine ⟨by rw [List.length_drop, q1, Nat.sub_mul], _, _, rfl, by omega, ?_⟩
  by_cases hm : j = m
  · exact .inl (List.drop_eq_nil_of_le (by rw [q1, hm]; omega))
  · rcases q4 with q4 | ⟨b, o, cs, e, fz, rfl, q6, q7⟩
    · exact .inl (by rw [q4]; simp)
    · refine .inr ⟨b, o + j * k, cs, e, fz, ?_, q6, fun t u ht => ?_⟩
      · unfold cutF
        rw [if_neg (by omega)]
        show some ((⟨b, o, none⟩ : Addr).add (j * k)) = _
        rw [Addr.add_off]
      · rw [List.getElem?_drop] at ht
        have := q7 _ _ ht
        rwa [← Nat.add_assoc] at this
theorem qv_shl {T T' : Nat} {x y : Operand} {k k' : IntKind} {i r : Int} {j : Nat} (hx : ev F x = some (.int k i)) (hy : ev F y = some (.int k' j)) (hj : j < k.bits) (hr : k.wrap (i * 2 ^ j) = r) :
    QV P n F h L ⟨dst, .binOp .shl T x y T', ty, pos, af, gd⟩ (.int k r) := by
  subst hr
  refine .mk fun a w f s => ?_
  have h0 : ¬ ((j : Int) < 0) := by omega
  have h1 : min j k.bits = j := by omega
  have hg : (eqGuard .shl T x y (.int k i) (.int k' j)).run P w = .ok () w := by simp [eqGuard]
  simp [execOp, f.ev hx, f.ev hy, hg, binOp, Op.shift, h0, h1]
theorem or_add {x c : Int} (hx : 0 ≤ x) (hxb : x * 256 < 18446744073709551616) (hc : 0 ≤ c ∧ c < 256) : IntKind.u64.wrap (((BitVec.ofInt 64 (x * 256)) ||| (BitVec.ofInt 64 c)).toNat : Int) = x * 256 + c := by
  obtain ⟨a, rfl⟩ := Int.eq_ofNat_of_zero_le hx
  obtain ⟨b, rfl⟩ := Int.eq_ofNat_of_zero_le hc.1
  have e1 : BitVec.ofInt 64 ((a : Int) * 256) = BitVec.ofNat 64 (a * 256) := by
    rw [show (a : Int) * 256 = ((a * 256 : Nat) : Int) by omega]; exact BitVec.ofInt_natCast 64 _
  have e2 : BitVec.ofInt 64 (b : Int) = BitVec.ofNat 64 b := BitVec.ofInt_natCast 64 _
  have hor : a * 256 ||| b = a * 256 + b := by
    have := Nat.two_pow_add_eq_or_of_lt (i := 8) (b := b) (by omega) a
    have e8 : (2 : Nat) ^ 8 = 256 := by decide
    rw [e8] at this
    rw [Nat.mul_comm a 256, ← this]
  rw [e1, e2, BitVec.toNat_or, BitVec.toNat_ofNat, BitVec.toNat_ofNat, Nat.mod_eq_of_lt (by omega), Nat.mod_eq_of_lt (by omega), hor]
  simp [IntKind.wrap, IntKind.bits, IntKind.signed]
  omega
theorem qv_or {T T' : Nat} {x y : Operand} {i j c r : Int} (hx : ev F x = some (.int .u64 i)) (hy : ev F y = some (.int .u64 c)) (hi : i = j * 256) (h0 : 0 ≤ j) (h1 : j * 256 < 18446744073709551616) (hc : 0 ≤ c ∧ c < 256) (hr : j * 256 + c = r) :
    QV P n F h L ⟨dst, .binOp .or T x y T', ty, pos, af, gd⟩ (.int .u64 r) := by
  subst hr
  subst hi
  have := or_add h0 h1 hc
  refine .mk fun a w f s => ?_
  simp only [execOp, f.ev hx, f.ev hy, Sem.run_bind, run_guard_int, Result.andThen_ok, binOp, Op.intBits]
  simp only [IntKind.bits] at this ⊢
  simp
  exact this
end
end Go.Ck
namespace Go.Proofs.YtndpclcbobgdlaaGreatDoor
open Go Go.Ck
set_option maxHeartbeats 2000000
abbrev inR (bi : Nat) (v : Value) (e : Int) : Res := Res.blk bi (.cells #[v, .int .i64 e] 95 (0, 0))
def valB (l : List Int) : Int := l.foldl (fun x c => x * 256 + c) 0
def lookC (l : List Int) (size : Nat) (most : Int) : Int × Int := if l.length < size then (0, 3) else if most < valB (l.take size) then (0, 5) else (valB (l.take size), 0)
def numC (s : List Int × Int) (size : Nat) (most : Int) : Int × (List Int × Int) :=
  if s.2 ≠ 0 then (0, s) else if (lookC s.1 size most).2 = 0 then ((lookC s.1 size most).1, (s.1.drop size, 0)) else (0, (s.1, (lookC s.1 size most).2))
def Bytes (l : List Int) : Prop := ∀ b ∈ l, 0 ≤ b ∧ b < 256
theorem valB_succ {l : List Int} {k : Nat} (hk : k < l.length) : valB (l.take (k + 1)) = valB (l.take k) * 256 + l[k] := by
  unfold valB
  rw [List.take_succ_eq_append_getElem hk, List.foldl_append]
  rfl
theorem valB_bd {l : List Int} (hb : Bytes l) : ∀ k, k ≤ l.length → 0 ≤ valB (l.take k) ∧ valB (l.take k) < 256 ^ k := by
  intro k
  induction k with
  | zero => intro _; simp [valB]
  | succ k ih =>
    intro hk
    obtain ⟨h1, h2⟩ := ih (by omega)
    have h3 := hb l[k] (List.getElem_mem _)
    rw [valB_succ (by omega), Int.pow_succ]
    omega
theorem dead_sp (bi : Nat) (v : Value) (e : Int) (h : View) (w : World) (s : St ⟨w, h, doms [inR bi v e]⟩ h [inR bi v e] w) :
    Calls Tryz.prog 69 [.pointer (some ⟨bi, 0, none⟩)].toArray w fun en w' => ∃ x : Unit, en = .returned (.bool (decide (e ≠ 0))) ∧ St ⟨w, h, doms [inR bi v e]⟩ h [inR bi v e] w' ∧ True := by
  refine calls_enter Tryz.func69 rfl Tryz.ntmps69 rfl s ?_
  repeat' (first|(refine ycf ?_;apply ybk;(·first|(first|(apply qv_eql_pnil<;>rfl)|(apply qv_nilCheck;rfl)));(·rfl);(·rfl))|refine t1_ ?_|(refine ta_ ?_;intro _)|((fail_if_success (refine ybi rfl ?_));refine ybj rfl ?_ ?_<;>(intro ht;rw [ht];first|replace ht := oet_ ht|replace ht := oef_ ht|skip))|(refine ych ?_;first|(refine ybw rfl ?_ ?_<;>intro ht)|(refine ybx rfl ?_ ?_<;>intro ht)))
  exact nx_ret1 rfl (rv_tmp rfl) (fun w' s' => ⟨(), rfl, s', trivial⟩)
theorem p256 {k m : Nat} (h : k ≤ m) : (256 : Int) ^ k ≤ 256 ^ m := by exact_mod_cast Nat.pow_le_pow_right (by decide) h
theorem look_sp (bi : Nat) (v : Value) (l : List Int) (size : Nat) (most : Int) (hb : Bytes l) (h0 : 0 < size) (h8 : size ≤ 8) (hm : 0 ≤ most ∧ most < 9223372036854775808) (hl : l.length ≤ 140737488355328) (h : View) (hv : Bs8 h v l) (w : World) (s : St ⟨w, h, doms [inR bi v 0]⟩ h [inR bi v 0] w) :
    Calls Tryz.prog 70 [.pointer (some ⟨bi, 0, none⟩), .int .i64 size, .int .i64 most].toArray w fun en w' => ∃ x : Unit, en = .returned (.int .i64 (lookC l size most).1) ∧ St ⟨w, h, doms [inR bi v 0]⟩ h [inR bi v (lookC l size most).2] w' ∧ True := by
  obtain ⟨_, ad, cap, rfl, hcap, _⟩ := id hv
  refine calls_enter Tryz.func70 rfl Tryz.ntmps70 rfl s ?_
  unfold lookC
  by_cases hsz : l.length < size
  · rw [if_pos hsz]
    repeat' (first|(refine ycf ?_;apply ybk;(·first|(first|(apply qv_nilCheck;rfl)|(apply qv_slice_to;(·rfl);(·rfl);(·omega);(·omega))));(·rfl);(·rfl))|refine t1_ ?_|(refine ta_ ?_;intro _)|((fail_if_success (refine ybi rfl ?_));refine ybj rfl ?_ ?_<;>(intro ht;rw [ht];first|replace ht := oet_ ht|replace ht := oef_ ht|skip))|(refine ych ?_;first|(refine ybw rfl ?_ ?_<;>intro ht)|(refine ybx rfl ?_ ?_<;>intro ht)))
    · exact nx_ret1 rfl (rv_tmp rfl) (fun w' s' => ⟨(), rfl, s', trivial⟩)
    · omega
  · rw [if_neg hsz]
    obtain ⟨bs, o, rfl⟩ := hv.ad (by omega) (by omega)
    repeat' (first|(refine ycf ?_;apply ybk;(·first|(first|(apply qv_nilCheck;rfl)|(apply qv_slice_to;(·rfl);(·rfl);(·omega);(·omega))));(·rfl);(·rfl))|refine t1_ ?_|(refine ta_ ?_;intro _)|((fail_if_success (refine ybi rfl ?_));refine ybj rfl ?_ ?_<;>(intro ht;rw [ht];first|replace ht := oet_ ht|replace ht := oef_ ht|skip))|(refine ych ?_;first|(refine ybw rfl ?_ ?_<;>intro ht)|(refine ybx rfl ?_ ?_<;>intro ht)))
    · omega
    refine cx_loop (X := Nat) (fun k => [(0, .pointer (some ⟨bi, 0, none⟩)), (1, .int .i64 size), (2, .int .i64 most), (7, .int .u64 (valB (l.take k))), (27, .slice (some ⟨bs, o, none⟩) size cap), (28, .int .i64 size), (29, .int .i64 k)]) (fun _ => h) (fun _ => _) (fun k => k ≤ size) (fun k => size - k) 0 (Nat.zero_le _) ts_ (fun _ s => s) ?_
    intro k hk
    by_cases hks : k < size
    · have hkl : k < l.length := by omega
      have hbd := valB_bd hb k (by omega)
      have hp : (256 : Int) ^ k ≤ 256 ^ 7 := p256 (by omega)
      have e7 : (256 : Int) ^ 7 = 72057594037927936 := by decide
      rw [e7] at hp
      have hc := hb l[k] (List.getElem_mem _)
      have hel : ∀ L, CellAt h L bs (o + k * 1) (.int .u8 l[k]) := fun L => (hv.cells (L := L)).cell (by simp [bcs, hkl])
      have hsh : IntKind.u64.wrap (valB (l.take k) * 2 ^ 8) = valB (l.take k) * 256 := by
        have e : (2 : Int) ^ 8 = 256 := by decide
        rw [e]
        exact wrap_u64 (by omega) (by omega)
      have hcw : IntKind.u64.wrap l[k] = l[k] := wrap_u64 hc.1 (by omega)
      have hnext := (valB_succ hkl).symm
      repeat' (first|(refine ycf ?_;apply ybk;(·first|(first|(refine qv_shl (j := 8) rfl rfl (by decide) hsh)|(refine qv_convert_int' rfl hcw)|(refine qv_or (j := valB (l.take k)) rfl rfl rfl hbd.1 (by omega) hc hnext))|(apply yae;(·rfl);(·exact hel _)));(·rfl);(·rfl))|refine t1_ ?_|(refine ta_ ?_;intro _)|((fail_if_success (refine ybi rfl ?_));refine ybj rfl ?_ ?_<;>(intro ht;rw [ht];first|replace ht := oet_ ht|replace ht := oef_ ht|skip))|(refine ych ?_;first|(refine ybw rfl ?_ ?_<;>intro ht)|(refine ybx rfl ?_ ?_<;>intro ht)))
      · exact nx_round (k + 1) (by show k + 1 ≤ size; omega) (by show size - (k + 1) < size - k; omega) ts_ (fun _ s => s)
      all_goals omega
    · have ek : k = size := by omega
      subst ek
      have hbd := valB_bd hb k (by omega)
      have hp : (256 : Int) ^ k ≤ 256 ^ 8 := p256 h8
      have e8 : (256 : Int) ^ 8 = 18446744073709551616 := by decide
      rw [e8] at hp
      generalize valB (l.take k) = X at hbd ⊢
      have hI := Int_sp X ⟨hbd.1, by omega⟩ h
      by_cases hX : X < 9223372036854775808
      · rw [decide_eq_true hX, if_pos hX] at hI
        repeat' (first|(refine ycf ?_;apply ybk;(·first|(first|(refine qv_shl (j := 8) rfl rfl (by decide) hsh)|(refine qv_convert_int' rfl hcw)|(refine qv_or (j := valB (l.take k)) rfl rfl rfl hbd.1 (by omega) hc hnext))|(apply yae;(·rfl);(·exact hel _)));(·rfl);(·rfl))|refine t1_ ?_|(refine ta_ ?_;intro _)|((fail_if_success (refine ybi rfl ?_));refine ybj rfl ?_ ?_<;>(intro ht;rw [ht];first|replace ht := oet_ ht|replace ht := oef_ ht|skip))|(refine ych ?_;first|(refine ybw rfl ?_ ?_<;>intro ht)|(refine ybx rfl ?_ ?_<;>intro ht)))
        · omega
        (refine ycn (ycp Tryz.func104 rfl (by kernel_rfl) rfl) (hI) rfl rfl rfl ?_ ?_; (· (exact to_)))
        repeat' (first|(refine ycf ?_;apply ybk;(·first|(first|(apply qv_nilCheck;rfl))|(apply yae;(·rfl);(·exact hel _)));(·rfl);(·rfl))|refine t1_ ?_|(refine ta_ ?_;intro _)|((fail_if_success (refine ybi rfl ?_));refine ybj rfl ?_ ?_<;>(intro ht;rw [ht];first|replace ht := oet_ ht|replace ht := oef_ ht|skip))|(refine ych ?_;first|(refine ybw rfl ?_ ?_<;>intro ht)|(refine ybx rfl ?_ ?_<;>intro ht)))
        · have hq := ht
          refine nx_ret1 rfl (rv_tmp rfl) (fun w' s' => ⟨(), ?_, ?_, trivial⟩)
          · rw [if_pos (by omega)]
          · rw [if_pos (by omega)]; exact s'
        · have hq := ht
          refine nx_ret1 rfl (rv_tmp rfl) (fun w' s' => ⟨(), ?_, ?_, trivial⟩)
          · rw [if_neg (by omega)]; rfl
          · rw [if_neg (by omega)]; exact s'
      · rw [decide_eq_false hX, if_neg hX] at hI
        repeat' (first|(refine ycf ?_;apply ybk;(·first|(first|(apply qv_nilCheck;rfl))|(apply yae;(·rfl);(·exact hel _)));(·rfl);(·rfl))|refine t1_ ?_|(refine ta_ ?_;intro _)|((fail_if_success (refine ybi rfl ?_));refine ybj rfl ?_ ?_<;>(intro ht;rw [ht];first|replace ht := oet_ ht|replace ht := oef_ ht|skip))|(refine ych ?_;first|(refine ybw rfl ?_ ?_<;>intro ht)|(refine ybx rfl ?_ ?_<;>intro ht)))
        · omega
        (refine ycn (ycp Tryz.func104 rfl (by kernel_rfl) rfl) (hI) rfl rfl rfl ?_ ?_; (· (exact to_)))
        repeat' (first|(refine ycf ?_;apply ybk;(·first|(first|(apply qv_nilCheck;rfl))|(apply yae;(·rfl);(·exact hel _)));(·rfl);(·rfl))|refine t1_ ?_|(refine ta_ ?_;intro _)|((fail_if_success (refine ybi rfl ?_));refine ybj rfl ?_ ?_<;>(intro ht;rw [ht];first|replace ht := oet_ ht|replace ht := oef_ ht|skip))|(refine ych ?_;first|(refine ybw rfl ?_ ?_<;>intro ht)|(refine ybx rfl ?_ ?_<;>intro ht)))
        refine nx_ret1 rfl (rv_tmp rfl) (fun w' s' => ⟨(), ?_, ?_, trivial⟩)
        · rw [if_pos (by omega)]
        · rw [if_pos (by omega)]; exact s'
theorem skip_sp (bi : Nat) (v : Value) (l : List Int) (e : Int) (size : Nat) (hsz : size ≤ l.length) (hl : l.length ≤ 140737488355328) (h : View) (hv : Bs8 h v l) (w : World) (s : St ⟨w, h, doms [inR bi v e]⟩ h [inR bi v e] w) :
    Calls Tryz.prog 71 [.pointer (some ⟨bi, 0, none⟩), .int .i64 size].toArray w fun en w' => ∃ x : Value × Value, en = .returned x.1 ∧ St ⟨w, h, doms [inR bi v e]⟩ h [inR bi x.2 e] w' ∧ Bs8 h x.2 (l.drop size) := by
  obtain ⟨_, ad, cap, rfl, hcap, _⟩ := id hv
  have ht1 : Bs8 h (.slice ad size cap) (l.take size) := by
    have := sc_take hv hsz
    unfold Bs8
    rw [List.length_take, Nat.min_eq_left hsz]
    have e : bcs (l.take size) = (bcs l).take (size * 1) := by simp [bcs]
    rw [e]; exact this
  have hd1 : Bs8 h (.slice (cutF ad cap size 1) (l.length - size) (cap - size)) (l.drop size) := by
    have := sc_drop hv (by decide) hsz
    unfold Bs8
    rw [List.length_drop]
    have e : bcs (l.drop size) = (bcs l).drop (size * 1) := by simp [bcs]
    rw [e]; exact this
  refine calls_enter Tryz.func71 rfl Tryz.ntmps71 rfl s ?_
  repeat' (first|(refine ycf ?_;apply ybk;(·first|(first|(apply qv_nilCheck;rfl)|(apply qv_slice_to;(·rfl);(·rfl);(·omega);(·omega))|(apply qv_slice_from;(·rfl);(·rfl);(·omega)))|(apply yae;(·rfl);(·exact hel _)));(·rfl);(·rfl))|refine t1_ ?_|(refine ta_ ?_;intro _)|((fail_if_success (refine ybi rfl ?_));refine ybj rfl ?_ ?_<;>(intro ht;rw [ht];first|replace ht := oet_ ht|replace ht := oef_ ht|skip))|(refine ych ?_;first|(refine ybw rfl ?_ ?_<;>intro ht)|(refine ybx rfl ?_ ?_<;>intro ht)))
  (refine yco (ycp Tryz.func40 rfl (by kernel_rfl) rfl) (BClone_sp (.slice ad size cap) (l.take size) h ht1 (by simp; omega)) rfl rfl rfl ?_ ?_ ?_; (· (exact to_)); (· intro _ _ hle; (exact to_)); intro x px hle)
  repeat' (first|(refine ycf ?_;apply ybk;(·first|(first|(apply qv_nilCheck;rfl)|(apply qv_slice_to;(·rfl);(·rfl);(·omega);(·omega))|(apply qv_slice_from;(·rfl);(·rfl);(·omega)))|(apply yae;(·rfl);(·exact hel _)));(·rfl);(·rfl))|refine t1_ ?_|(refine ta_ ?_;intro _)|((fail_if_success (refine ybi rfl ?_));refine ybj rfl ?_ ?_<;>(intro ht;rw [ht];first|replace ht := oet_ ht|replace ht := oef_ ht|skip))|(refine ych ?_;first|(refine ybw rfl ?_ ?_<;>intro ht)|(refine ybx rfl ?_ ?_<;>intro ht)))
  exact nx_ret1 rfl (rv_tmp rfl) (fun w' s' => ⟨(x, .slice (cutF ad cap size 1) (l.length - size) (cap - size)), rfl, s'.tl, hd1⟩)
theorem number_sp (bi : Nat) (v : Value) (l : List Int) (e : Int) (size : Nat) (most : Int) (hb : Bytes l) (h0 : 0 < size) (h8 : size ≤ 8) (hm : 0 ≤ most ∧ most < 9223372036854775808) (hl : l.length ≤ 140737488355328) (h : View) (hv : Bs8 h v l) (w : World) (s : St ⟨w, h, doms [inR bi v e]⟩ h [inR bi v e] w) :
    Calls Tryz.prog 49 [.pointer (some ⟨bi, 0, none⟩), .int .i64 size, .int .i64 most].toArray w fun en w' => ∃ x : Value, en = .returned (.int .i64 (numC (l, e) size most).1) ∧ St ⟨w, h, doms [inR bi v e]⟩ h [inR bi x (numC (l, e) size most).2.2] w' ∧ Bs8 h x (numC (l, e) size most).2.1 := by
  refine calls_enter Tryz.func49 rfl Tryz.ntmps49 rfl s ?_
  unfold numC
  by_cases he : e = 0
  · subst he
    rw [if_neg (by simp)]
    have hdead := dead_sp bi v 0 h
    rw [show decide ((0 : Int) ≠ 0) = false by decide] at hdead
    repeat' (first|(refine ycf ?_;apply ybk;(·first|(first|(apply qv_nilCheck;rfl)|(apply qv_slice_to;(·rfl);(·rfl);(·omega);(·omega))|(apply qv_slice_from;(·rfl);(·rfl);(·omega)))|(apply yae;(·rfl);(·exact hel _)));(·rfl);(·rfl))|refine t1_ ?_|(refine ta_ ?_;intro _)|((fail_if_success (refine ybi rfl ?_));refine ybj rfl ?_ ?_<;>(intro ht;rw [ht];first|replace ht := oet_ ht|replace ht := oef_ ht|skip))|(refine ych ?_;first|(refine ybw rfl ?_ ?_<;>intro ht)|(refine ybx rfl ?_ ?_<;>intro ht)))
    (refine rx_call_m (ycp Tryz.func69 rfl (by kernel_rfl) rfl) (perm_at (k := 0) rfl) (hdead) rfl rfl rfl ?_ ?_ ?_; (· (exact to_)); (· intro _ _ hle; (exact to_)); intro x px hle)
    repeat' (first|(refine ycf ?_;apply ybk;(·first|(first|(apply qv_nilCheck;rfl)|(apply qv_slice_to;(·rfl);(·rfl);(·omega);(·omega))|(apply qv_slice_from;(·rfl);(·rfl);(·omega)))|(apply yae;(·rfl);(·exact hel _)));(·rfl);(·rfl))|refine t1_ ?_|(refine ta_ ?_;intro _)|((fail_if_success (refine ybi rfl ?_));refine ybj rfl ?_ ?_<;>(intro ht;rw [ht];first|replace ht := oet_ ht|replace ht := oef_ ht|skip))|(refine ych ?_;first|(refine ybw rfl ?_ ?_<;>intro ht)|(refine ybx rfl ?_ ?_<;>intro ht)))
    (refine rx_call_m (ycp Tryz.func70 rfl (by kernel_rfl) rfl) (perm_at (k := 0) rfl) (look_sp bi v l size most hb h0 h8 hm hl h hv) rfl rfl rfl ?_ ?_ ?_; (· (exact to_)); (· intro _ _ hle; (exact to_)); intro x px hle)
    by_cases hz : (lookC l size most).2 = 0
    · have hsl : size ≤ l.length := by
        unfold lookC at hz
        split at hz
        · cases hz
        · omega
      rw [if_pos hz, hz]
      repeat' (first|(refine ycf ?_;apply ybk;(·first|(first|(apply qv_nilCheck;rfl)|(apply qv_slice_to;(·rfl);(·rfl);(·omega);(·omega))|(apply qv_slice_from;(·rfl);(·rfl);(·omega)))|(apply yae;(·rfl);(·exact hel _)));(·rfl);(·rfl))|refine t1_ ?_|(refine ta_ ?_;intro _)|((fail_if_success (refine ybi rfl ?_));refine ybj rfl ?_ ?_<;>(intro ht;rw [ht];first|replace ht := oet_ ht|replace ht := oef_ ht|skip))|(refine ych ?_;first|(refine ybw rfl ?_ ?_<;>intro ht)|(refine ybx rfl ?_ ?_<;>intro ht)))
      (refine rx_call_m (ycp Tryz.func71 rfl (by kernel_rfl) rfl) (perm_at (k := 0) rfl) (skip_sp bi v l 0 size hsl hl h hv) rfl rfl rfl ?_ ?_ ?_; (· (exact to_)); (· intro _ _ hle; (exact to_)); intro x px hle)
      repeat' (first|(refine ycf ?_;apply ybk;(·first|(first|(apply qv_nilCheck;rfl)|(apply qv_slice_to;(·rfl);(·rfl);(·omega);(·omega))|(apply qv_slice_from;(·rfl);(·rfl);(·omega)))|(apply yae;(·rfl);(·exact hel _)));(·rfl);(·rfl))|refine t1_ ?_|(refine ta_ ?_;intro _)|((fail_if_success (refine ybi rfl ?_));refine ybj rfl ?_ ?_<;>(intro ht;rw [ht];first|replace ht := oet_ ht|replace ht := oef_ ht|skip))|(refine ych ?_;first|(refine ybw rfl ?_ ?_<;>intro ht)|(refine ybx rfl ?_ ?_<;>intro ht)))
      exact nx_ret1 rfl (rv_tmp rfl) (fun w' s' => ⟨x.2, rfl, s', px⟩)
    · have hf : (lookC l size most).1 = 0 := by
        unfold lookC at hz ⊢
        split
        · rfl
        · rename_i h1
          rw [if_neg h1] at hz
          split
          · rfl
          · rename_i h2
            rw [if_neg h2] at hz
            exact absurd rfl hz
      rw [if_neg hz, hf]
      generalize (lookC l size most).2 = E at hz ⊢
      repeat' (first|(refine ycf ?_;apply ybk;(·first|(first|(apply qv_nilCheck;rfl)|(apply qv_slice_to;(·rfl);(·rfl);(·omega);(·omega))|(apply qv_slice_from;(·rfl);(·rfl);(·omega)))|(apply yae;(·rfl);(·exact hel _)));(·rfl);(·rfl))|refine t1_ ?_|(refine ta_ ?_;intro _)|((fail_if_success (refine ybi rfl ?_));refine ybj rfl ?_ ?_<;>(intro ht;rw [ht];first|replace ht := oet_ ht|replace ht := oef_ ht|skip))|(refine ych ?_;first|(refine ybw rfl ?_ ?_<;>intro ht)|(refine ybx rfl ?_ ?_<;>intro ht)))
      · omega
      exact nx_ret1 rfl (rv_tmp rfl) (fun w' s' => ⟨v, rfl, s', hv⟩)
  · rw [if_pos he]
    have hdead := dead_sp bi v e h
    rw [decide_eq_true he] at hdead
    repeat' (first|(refine ycf ?_;apply ybk;(·first|(first|(apply qv_nilCheck;rfl)|(apply qv_slice_to;(·rfl);(·rfl);(·omega);(·omega))|(apply qv_slice_from;(·rfl);(·rfl);(·omega)))|(apply yae;(·rfl);(·exact hel _)));(·rfl);(·rfl))|refine t1_ ?_|(refine ta_ ?_;intro _)|((fail_if_success (refine ybi rfl ?_));refine ybj rfl ?_ ?_<;>(intro ht;rw [ht];first|replace ht := oet_ ht|replace ht := oef_ ht|skip))|(refine ych ?_;first|(refine ybw rfl ?_ ?_<;>intro ht)|(refine ybx rfl ?_ ?_<;>intro ht)))
    (refine rx_call_m (ycp Tryz.func69 rfl (by kernel_rfl) rfl) (perm_at (k := 0) rfl) (hdead) rfl rfl rfl ?_ ?_ ?_; (· (exact to_)); (· intro _ _ hle; (exact to_)); intro x px hle)
    repeat' (first|(refine ycf ?_;apply ybk;(·first|(first|(apply qv_nilCheck;rfl)|(apply qv_slice_to;(·rfl);(·rfl);(·omega);(·omega))|(apply qv_slice_from;(·rfl);(·rfl);(·omega)))|(apply yae;(·rfl);(·exact hel _)));(·rfl);(·rfl))|refine t1_ ?_|(refine ta_ ?_;intro _)|((fail_if_success (refine ybi rfl ?_));refine ybj rfl ?_ ?_<;>(intro ht;rw [ht];first|replace ht := oet_ ht|replace ht := oef_ ht|skip))|(refine ych ?_;first|(refine ybw rfl ?_ ?_<;>intro ht)|(refine ybx rfl ?_ ?_<;>intro ht)))
    exact nx_ret1 rfl (rv_tmp rfl) (fun w' s' => ⟨v, rfl, s', hv⟩)
theorem InNum_sp (bi : Nat) (v : Value) (l : List Int) (e : Int) (most : Int) (hb : Bytes l) (hm : 0 ≤ most ∧ most < 9223372036854775808) (hl : l.length ≤ 140737488355328) (h : View) (hv : Bs8 h v l) (w : World) (s : St ⟨w, h, doms [inR bi v e]⟩ h [inR bi v e] w) :
    Calls Tryz.prog 25 [.pointer (some ⟨bi, 0, none⟩), .int .i64 most].toArray w fun en w' => ∃ x : Value, en = .returned (.int .i64 (numC (l, e) 8 most).1) ∧ St ⟨w, h, doms [inR bi v e]⟩ h [inR bi x (numC (l, e) 8 most).2.2] w' ∧ Bs8 h x (numC (l, e) 8 most).2.1 := by
  refine calls_enter Tryz.func25 rfl Tryz.ntmps25 rfl s ?_
  repeat' (first|(refine ycf ?_;apply ybk;(·first|(first|(apply qv_nilCheck;rfl)|(apply qv_slice_to;(·rfl);(·rfl);(·omega);(·omega))|(apply qv_slice_from;(·rfl);(·rfl);(·omega)))|(apply yae;(·rfl);(·exact hel _)));(·rfl);(·rfl))|refine t1_ ?_|(refine ta_ ?_;intro _)|((fail_if_success (refine ybi rfl ?_));refine ybj rfl ?_ ?_<;>(intro ht;rw [ht];first|replace ht := oet_ ht|replace ht := oef_ ht|skip))|(refine ych ?_;first|(refine ybw rfl ?_ ?_<;>intro ht)|(refine ybx rfl ?_ ?_<;>intro ht)))
  (refine rx_call_m (ycp Tryz.func49 rfl (by kernel_rfl) rfl) (perm_at (k := 0) rfl) (number_sp bi v l e 8 most hb (by omega) (by omega) hm hl h hv) rfl rfl rfl ?_ ?_ ?_; (· (exact to_)); (· intro _ _ hle; (exact to_)); intro x px hle)
  repeat' (first|(refine ycf ?_;apply ybk;(·first|(first|(apply qv_nilCheck;rfl)|(apply qv_slice_to;(·rfl);(·rfl);(·omega);(·omega))|(apply qv_slice_from;(·rfl);(·rfl);(·omega)))|(apply yae;(·rfl);(·exact hel _)));(·rfl);(·rfl))|refine t1_ ?_|(refine ta_ ?_;intro _)|((fail_if_success (refine ybi rfl ?_));refine ybj rfl ?_ ?_<;>(intro ht;rw [ht];first|replace ht := oet_ ht|replace ht := oef_ ht|skip))|(refine ych ?_;first|(refine ybw rfl ?_ ?_<;>intro ht)|(refine ybx rfl ?_ ?_<;>intro ht)))
  exact nx_ret1 rfl (rv_tmp rfl) (fun w' s' => ⟨x, rfl, s', px⟩)
theorem InSmall_sp (bi : Nat) (v : Value) (l : List Int) (e : Int) (most : Int) (hb : Bytes l) (hm : 0 ≤ most ∧ most < 9223372036854775808) (hl : l.length ≤ 140737488355328) (h : View) (hv : Bs8 h v l) (w : World) (s : St ⟨w, h, doms [inR bi v e]⟩ h [inR bi v e] w) :
    Calls Tryz.prog 50 [.pointer (some ⟨bi, 0, none⟩), .int .i64 most].toArray w fun en w' => ∃ x : Value, en = .returned (.int .i64 (numC (l, e) 1 most).1) ∧ St ⟨w, h, doms [inR bi v e]⟩ h [inR bi x (numC (l, e) 1 most).2.2] w' ∧ Bs8 h x (numC (l, e) 1 most).2.1 := by
  refine calls_enter Tryz.func50 rfl Tryz.ntmps50 rfl s ?_
  repeat' (first|(refine ycf ?_;apply ybk;(·first|(first|(apply qv_nilCheck;rfl)|(apply qv_slice_to;(·rfl);(·rfl);(·omega);(·omega))|(apply qv_slice_from;(·rfl);(·rfl);(·omega)))|(apply yae;(·rfl);(·exact hel _)));(·rfl);(·rfl))|refine t1_ ?_|(refine ta_ ?_;intro _)|((fail_if_success (refine ybi rfl ?_));refine ybj rfl ?_ ?_<;>(intro ht;rw [ht];first|replace ht := oet_ ht|replace ht := oef_ ht|skip))|(refine ych ?_;first|(refine ybw rfl ?_ ?_<;>intro ht)|(refine ybx rfl ?_ ?_<;>intro ht)))
  (refine rx_call_m (ycp Tryz.func49 rfl (by kernel_rfl) rfl) (perm_at (k := 0) rfl) (number_sp bi v l e 1 most hb (by omega) (by omega) hm hl h hv) rfl rfl rfl ?_ ?_ ?_; (· (exact to_)); (· intro _ _ hle; (exact to_)); intro x px hle)
  repeat' (first|(refine ycf ?_;apply ybk;(·first|(first|(apply qv_nilCheck;rfl)|(apply qv_slice_to;(·rfl);(·rfl);(·omega);(·omega))|(apply qv_slice_from;(·rfl);(·rfl);(·omega)))|(apply yae;(·rfl);(·exact hel _)));(·rfl);(·rfl))|refine t1_ ?_|(refine ta_ ?_;intro _)|((fail_if_success (refine ybi rfl ?_));refine ybj rfl ?_ ?_<;>(intro ht;rw [ht];first|replace ht := oet_ ht|replace ht := oef_ ht|skip))|(refine ych ?_;first|(refine ybw rfl ?_ ?_<;>intro ht)|(refine ybx rfl ?_ ?_<;>intro ht)))
  exact nx_ret1 rfl (rv_tmp rfl) (fun w' s' => ⟨x, rfl, s', px⟩)
def endC (s : List Int × Int) : Int := if s.2 = 0 ∧ 0 < s.1.length then 4 else s.2
theorem End_sp (bi : Nat) (v : Value) (l : List Int) (e : Int) (h : View) (hv : Bs8 h v l) (w : World) (s : St ⟨w, h, doms [inR bi v e]⟩ h [inR bi v e] w) :
    Calls Tryz.prog 27 [.pointer (some ⟨bi, 0, none⟩)].toArray w fun en w' => ∃ x : Unit, en = .returned (.int .i64 (endC (l, e))) ∧ St ⟨w, h, doms [inR bi v e]⟩ h [inR bi v e] w' ∧ True := by
  obtain ⟨_, ad, cap, rfl, hcap, _⟩ := id hv
  refine calls_enter Tryz.func27 rfl Tryz.ntmps27 rfl s ?_
  repeat' (first|(refine ycf ?_;apply ybk;(·first|(first|(apply qv_eql_pnil<;>rfl)|(apply qv_nilCheck;rfl))|(apply yae;(·rfl);(·exact hel _)));(·rfl);(·rfl))|refine t1_ ?_|(refine ta_ ?_;intro _)|((fail_if_success (refine ybi rfl ?_));refine ybj rfl ?_ ?_<;>(intro ht;rw [ht];first|replace ht := oet_ ht|replace ht := oef_ ht|skip))|(refine ych ?_;first|(refine ybw rfl ?_ ?_<;>intro ht)|(refine ybx rfl ?_ ?_<;>intro ht)))
  · refine nx_ret1 rfl (rv_tmp rfl) (fun w' s' => ⟨(), ?_, s', trivial⟩)
    unfold endC
    rw [if_pos (by dsimp only; omega)]
  · refine nx_ret1 rfl (rv_tmp rfl) (fun w' s' => ⟨(), ?_, s', trivial⟩)
    unfold endC
    rw [if_neg (by dsimp only; omega)]
  · refine nx_ret1 rfl (rv_tmp rfl) (fun w' s' => ⟨(), ?_, s', trivial⟩)
    unfold endC
    rw [if_neg (by dsimp only; omega)]
theorem Of_sp (sv : Value) (l : List Int) (hl : l.length ≤ 140737488355328) (h : View) (hs : Bs8 h sv l) (w : World) (s : St ⟨w, h, []⟩ h [] w) :
    Calls Tryz.prog 24 [sv].toArray w fun en w' => ∃ x : View × Nat × Value, en = .returned (.pointer (some ⟨x.2.1, 0, none⟩)) ∧ St ⟨w, h, []⟩ x.1 [inR x.2.1 x.2.2 0] w' ∧ Bs8 x.1 x.2.2 l := by
  refine calls_enter Tryz.func24 rfl Tryz.ntmps24 rfl s ?_
  repeat' (first|(refine ycf ?_;apply ybk;(·first|(first|(apply qv_eql_pnil<;>rfl)|(apply qv_nilCheck;rfl))|(apply yae;(·rfl);(·exact hel _)));(·rfl);(·rfl))|refine t1_ ?_|(refine ta_ ?_;intro _)|((fail_if_success (refine ybi rfl ?_));refine ybj rfl ?_ ?_<;>(intro ht;rw [ht];first|replace ht := oet_ ht|replace ht := oef_ ht|skip))|(refine ych ?_;first|(refine ybw rfl ?_ ?_<;>intro ht)|(refine ybx rfl ?_ ?_<;>intro ht)))
  (refine yco (ycp Tryz.func40 rfl (by kernel_rfl) rfl) (BClone_sp sv l h hs hl) rfl rfl rfl ?_ ?_ ?_; (· (exact to_)); (· intro _ _ hle; (exact to_)); intro x px hle)
  refine rx_persist rfl fun h1 hle1 hv => ?_
  obtain ⟨_, ad, cap, hx, _, _⟩ := id hv
  subst hx
  repeat' (first|(refine ycf ?_;apply ybk;(·first|(first|(apply qv_eql_pnil<;>rfl)|(apply qv_nilCheck;rfl))|(apply yae;(·rfl);(·exact hel _)));(·rfl);(·rfl))|refine t1_ ?_|(refine ta_ ?_;intro _)|((fail_if_success (refine ybi rfl ?_));refine ybj rfl ?_ ?_<;>(intro ht;rw [ht];first|replace ht := oet_ ht|replace ht := oef_ ht|skip))|(refine ych ?_;first|(refine ybw rfl ?_ ?_<;>intro ht)|(refine ybx rfl ?_ ?_<;>intro ht)))
  rename_i b
  exact nx_ret1 rfl (rv_tmp rfl) (fun w' s' => ⟨(h1, b, .slice ad l.length cap), rfl, s', hv⟩)
end Go.Proofs.YtndpclcbobgdlaaGreatDoor
end

section
namespace Go.Proofs.YtndpclcbobgdlaaGreatDoor
open Go Go.Ck
set_option maxHeartbeats 2000000
abbrev RS : Type := List Int × Int
structure RsOk (s : RS) : Prop where
  b : Bytes s.1
  l : s.1.length ≤ 140737488355328
theorem RsOk.num {s : RS} (h : RsOk s) (size : Nat) (most : Int) : RsOk (numC s size most).2 := by
  unfold numC
  split
  · exact h
  · split
    · exact ⟨fun x hx => h.b x (List.mem_of_mem_drop hx), by have := h.l; simp only [List.length_drop]; omega⟩
    · exact ⟨h.b, h.l⟩
theorem numC_bd {s : RS} (h : RsOk s) {size : Nat} {most : Int} (hm : 0 ≤ most) : 0 ≤ (numC s size most).1 ∧ (numC s size most).1 ≤ most := by
  unfold numC
  split
  · exact ⟨Int.le_refl _, hm⟩
  · split
    · unfold lookC
      split
      · exact ⟨Int.le_refl _, hm⟩
      · rename_i _ _ hs
        split
        · exact ⟨Int.le_refl _, hm⟩
        · have := valB_bd h.b size (by omega)
          exact ⟨this.1, by dsimp only; omega⟩
    · exact ⟨Int.le_refl _, hm⟩
end Go.Proofs.YtndpclcbobgdlaaGreatDoor
end

section
namespace Go.Proofs.YtndpclcbobgdlaaGreatDoor
open Go Go.Ck
set_option maxHeartbeats 2000000
theorem bstr_take (l : List Int) (k : Nat) : (bstr l).extract 0 k = bstr (l.take k) := by
  apply ByteArray.ext
  rw [ByteArray.data_extract]
  simp [bstr, List.map_take]
section
variable {P : Program} {n : Nat} {F : List (Nat × Value)} {h : View} {L : List Res} {dst : Option Nat} {ty : Nat} {pos : String} {af : Array Edge} {gd : Option (Nat × Bool)}
theorem qv_str_to {T : Nat} {x y : Operand} {l : List Int} {i : Nat} {ki : IntKind} [tu : TyU P T .string] (hx : ev F x = some (.string (bstr l))) (hy : ev F y = some (.int ki i)) (h1 : i ≤ l.length) :
    QV P n F h L ⟨dst, .slice T x none (some y) none, ty, pos, af, gd⟩ (.string (bstr (l.take i))) := .mk fun a w f s => by
  have h2 : i ≤ (bstr l).size := by rw [bstr_size]; exact h1
  simp [execOp, f.ev hx, f.ev hy, Instr.sliceAt, Instr.slice, Instr.sliceBounds, Instr.sliceBound, asIntOf, run_underlying tu.u, h2]
  exact bstr_take l i
theorem qv_len_bstr {x : Operand} {T : Nat} {l : List Int} [tu : TyU P T .string] (hx : ev F x = some (.string (bstr l))) : QV P n F h L ⟨dst, .call ⟨.builtin .len, #[x], #[T]⟩, ty, pos, af, gd⟩ (.int .i64 l.length) := by
  rw [← bstr_size]; exact yar hx
theorem qv_neq_str {T T' : Nat} {x y : Operand} {a b : ByteArray} {t : Bool} (hx : ev F x = some (.string a)) (hy : ev F y = some (.string b)) (ht : (!(a.toList == b.toList)) = t) :
    QV P n F h L ⟨dst, .binOp .neq T x y T', ty, pos, af, gd⟩ (.bool t) := by
  subst ht
  refine .mk fun ac w f s => ?_
  have hg : (eqGuard .neq T x y (.string a) (.string b)).run P w = .ok () w := by simp [eqGuard]
  simp only [execOp, f.ev hx, f.ev hy, Sem.run_bind, hg, Result.andThen_ok, binOp, Op.stringOp]
  rfl
end
theorem lookC_bad {l : List Int} {size : Nat} {most : Int} (hz : (lookC l size most).2 ≠ 0) : (lookC l size most).1 = 0 := by
  unfold lookC at hz ⊢
  split
  · rfl
  · rename_i h1
    rw [if_neg h1] at hz
    split
    · rfl
    · rename_i h2
      rw [if_neg h2] at hz
      exact absurd rfl hz
theorem lookC_len {l : List Int} {size : Nat} {most : Int} (hz : (lookC l size most).2 = 0) : size ≤ l.length := by
  unfold lookC at hz
  split at hz
  · cases hz
  · omega
end Go.Proofs.YtndpclcbobgdlaaGreatDoor
end

section
namespace Go.Proofs.YtndpclcbobgdlaaGreatDoor
open Go Go.Ck
set_option maxHeartbeats 2000000
theorem val_putLow : ∀ (k : Nat) (x : Int), 0 ≤ x → x < 256 ^ k → valB (putLow k x).reverse = x
  | 0, x, h0, h1 => by
    rw [Int.pow_zero] at h1
    have : x = 0 := by omega
    subst this; rfl
  | k + 1, x, h0, h1 => by
    rw [Int.pow_succ] at h1
    have ih := val_putLow k (x / 256) (by omega) (by omega)
    rw [putLow, List.reverse_cons]
    unfold valB at ih ⊢
    rw [List.foldl_append, ih]
    show x / 256 * 256 + x % 256 = x
    omega
theorem numC_put {size : Nat} {x most : Int} {r : List Int} (h0 : 0 ≤ x) (h1 : x ≤ most) (h2 : x < 256 ^ size) : numC ((putLow size x).reverse ++ r, 0) size most = (x, (r, 0)) := by
  have hl : (putLow size x).reverse.length = size := by rw [List.length_reverse, putLow_len]
  have ht : ((putLow size x).reverse ++ r).take size = (putLow size x).reverse := by
    conv => lhs; arg 1; rw [← hl]
    exact List.take_left
  have hd : ((putLow size x).reverse ++ r).drop size = r := by
    conv => lhs; arg 1; rw [← hl]
    exact List.drop_left
  have hk : lookC ((putLow size x).reverse ++ r) size most = (x, 0) := by
    unfold lookC
    rw [if_neg (by rw [List.length_append, hl]; omega), ht, val_putLow size x h0 h2, if_neg (by omega)]
  unfold numC
  rw [if_neg (by simp)]
  dsimp only
  rw [hk, if_pos rfl, hd]
end Go.Proofs.YtndpclcbobgdlaaGreatDoor
end

section
namespace Go.Ck
open Go
theorem St.persistA {K : Bs} {h : View} {b : Nat} {o : Obj} {L : List Res} {w : World} (s : St K h (Res.blk b o :: L) w) (hA : ∀ x ∈ K.A, x ∈ doms L) : St K (addV h b o) L w := by
  have hmem : b ∈ doms (Res.blk b o :: L) := by rw [doms_cons]; exact List.mem_append_left _ (List.mem_singleton.2 rfl)
  have nd := s.nd
  rw [doms_cons] at nd
  obtain ⟨_, n2, n3⟩ := List.nodup_append.1 nd
  have hnot : b ∉ doms L := fun hb => n3 b (List.mem_singleton.2 rfl) b hb rfl
  have hb0 : K.w0.heap.size ≤ b := by
    rcases s.src b hmem with h1 | h1
    · exact absurd (hA b h1) hnot
    · exact h1
  refine ⟨s.os, s.tape, s.output, s.drawn, s.size, s.keep, ⟨fun x o' hx => ?_, fun r hr => s.hd.own r (List.mem_cons_of_mem _ hr)⟩, n2, fun x hx => s.src x (by rw [doms_cons]; exact List.mem_append_right _ hx), fun x o' hx => ?_, fun x hx hx0 => ?_, fun x hx => ?_⟩
  · unfold addV at hx
    split at hx
    · rename_i e; subst e; cases hx
      exact s.hd.own _ (List.mem_cons_self ..)
    · exact s.hd.view x o' hx
  · unfold addV
    split
    · rename_i e; subst e
      have h1 := s.grow x o' hx
      rw [s.dis x hmem] at h1; cases h1
    · exact s.grow x o' hx
  · unfold addV
    rw [if_neg (by omega)]
    exact s.new x hx hx0
  · unfold addV
    rw [if_neg (fun e => hnot (by rw [← e]; exact hx))]
    exact s.dis x (by rw [doms_cons]; exact List.mem_append_right _ hx)
section
variable {P : Program} {n : Nat} {K : Bs} {F : List (Nat × Value)} {h : View} {L : List Res} {Q : Exit → Act → World → Prop}
theorem St.rowPersistA {e : TypeId} {k m : Nat} {v : Value} {xs : List Value} {w : World} (s : St K h (Res.row e k v m xs :: L) w) (hA : ∀ x ∈ K.A, x ∈ doms L) : ∃ h', Le h h' ∧ Sc h' k v m xs ∧ St K h' L w := by
  have ho : w.ownsRow 0 e k v m xs := s.hd.own _ (List.mem_cons_self ..)
  rcases ho.2 with ⟨rfl, rfl⟩ | ⟨g, cap, cur, rfl, _, hg, hn, _, hcs, htake⟩
  · have : xs = [] := List.eq_nil_of_length_eq_zero (by rw [ho.1]; simp)
    subst this
    exact ⟨h, Le.refl h, Sc.nil h k Option.none 0, s.tl⟩
  · have hd : doms (Res.row e k (.slice (some ⟨g, 0, Option.none⟩) m cap) m xs :: L) = doms (Res.blk g (.cells cur e (0, 0)) :: L) := by simp [doms_cons, Res.row, Res.blk, Value.ownBlock]
    have s2 : St K h (Res.blk g (.cells cur e (0, 0)) :: L) w := ⟨s.os, s.tape, s.output, s.drawn, s.size, s.keep, ⟨s.hd.view, fun r hr => by
      rcases List.mem_cons.1 hr with rfl | hr
      · exact hg
      · exact s.hd.own r (List.mem_cons_of_mem _ hr)⟩, by rw [← hd]; exact s.nd, fun b hb => s.src b (by rw [hd]; exact hb), s.grow, s.new, fun b hb => s.dis b (by rw [hd]; exact hb)⟩
    refine ⟨addV h g (.cells cur e (0, 0)), Le.addV (s2.dis g (by rw [doms_cons]; exact List.mem_append_left _ (List.mem_singleton.2 rfl))), ⟨ho.1, some ⟨g, 0, Option.none⟩, cap, rfl, hn, .inr ⟨g, 0, cur, e, (0, 0), rfl, addV_same, fun j u hj => ?_⟩⟩, s2.persistA hA⟩
    rw [← htake, List.getElem?_take] at hj
    split at hj
    · simpa using hj
    · cases hj
theorem rx_persistA {g : Rg} {prs : List (Nat × Oper)} {e : TypeId} {sz m : Nat} {v : Value} {xs : List Value} (hA : ∀ x ∈ K.A, x ∈ doms L) (hx : ∀ h', Le h h' → Sc h' sz v m xs → RX P n K g prs F h' L Q) : RX P n K g prs F h (Res.row e sz v m xs :: L) Q := by
  unfold RX at *
  intro a w f s
  obtain ⟨h', h1, h2, h3⟩ := s.rowPersistA hA
  exact hx h' h1 h2 a w f h3
end
end Go.Ck
end

section
namespace Go.Ck
open Go
theorem qv_lss_t {P : Program} {n : Nat} {F : List (Nat × Value)} {h : View} {L : List Res} {dst : Option Nat} {ty : Nat} {pos : String} {af : Array Edge} {gd : Option (Nat × Bool)} {T T' : Nat} {x y : Operand} {k : IntKind} {i j : Int} (hx : ev F x = some (.int k i)) (hy : ev F y = some (.int k j)) (hr : i < j) :
    QV P n F h L ⟨dst, .binOp .lss T x y T', ty, pos, af, gd⟩ (.bool true) := by
  have := yah (P := P) (n := n) (h := h) (L := L) (dst := dst) (ty := ty) (pos := pos) (af := af) (gd := gd) (T := T) (T' := T') hx hy
  rwa [decide_eq_true hr] at this
theorem qv_lss_f {P : Program} {n : Nat} {F : List (Nat × Value)} {h : View} {L : List Res} {dst : Option Nat} {ty : Nat} {pos : String} {af : Array Edge} {gd : Option (Nat × Bool)} {T T' : Nat} {x y : Operand} {k : IntKind} {i j : Int} (hx : ev F x = some (.int k i)) (hy : ev F y = some (.int k j)) (hr : ¬ (i < j)) :
    QV P n F h L ⟨dst, .binOp .lss T x y T', ty, pos, af, gd⟩ (.bool false) := by
  have := yah (P := P) (n := n) (h := h) (L := L) (dst := dst) (ty := ty) (pos := pos) (af := af) (gd := gd) (T := T) (T' := T') hx hy
  rwa [decide_eq_false hr] at this
theorem qv_leq_t {P : Program} {n : Nat} {F : List (Nat × Value)} {h : View} {L : List Res} {dst : Option Nat} {ty : Nat} {pos : String} {af : Array Edge} {gd : Option (Nat × Bool)} {T T' : Nat} {x y : Operand} {k : IntKind} {i j : Int} (hx : ev F x = some (.int k i)) (hy : ev F y = some (.int k j)) (hr : i ≤ j) :
    QV P n F h L ⟨dst, .binOp .leq T x y T', ty, pos, af, gd⟩ (.bool true) := by
  have := yai (P := P) (n := n) (h := h) (L := L) (dst := dst) (ty := ty) (pos := pos) (af := af) (gd := gd) (T := T) (T' := T') hx hy
  rwa [decide_eq_true hr] at this
theorem qv_leq_f {P : Program} {n : Nat} {F : List (Nat × Value)} {h : View} {L : List Res} {dst : Option Nat} {ty : Nat} {pos : String} {af : Array Edge} {gd : Option (Nat × Bool)} {T T' : Nat} {x y : Operand} {k : IntKind} {i j : Int} (hx : ev F x = some (.int k i)) (hy : ev F y = some (.int k j)) (hr : ¬ (i ≤ j)) :
    QV P n F h L ⟨dst, .binOp .leq T x y T', ty, pos, af, gd⟩ (.bool false) := by
  have := yai (P := P) (n := n) (h := h) (L := L) (dst := dst) (ty := ty) (pos := pos) (af := af) (gd := gd) (T := T) (T' := T') hx hy
  rwa [decide_eq_false hr] at this
theorem qv_gtr_t {P : Program} {n : Nat} {F : List (Nat × Value)} {h : View} {L : List Res} {dst : Option Nat} {ty : Nat} {pos : String} {af : Array Edge} {gd : Option (Nat × Bool)} {T T' : Nat} {x y : Operand} {k : IntKind} {i j : Int} (hx : ev F x = some (.int k i)) (hy : ev F y = some (.int k j)) (hr : j < i) :
    QV P n F h L ⟨dst, .binOp .gtr T x y T', ty, pos, af, gd⟩ (.bool true) := by
  have := yaj (P := P) (n := n) (h := h) (L := L) (dst := dst) (ty := ty) (pos := pos) (af := af) (gd := gd) (T := T) (T' := T') hx hy
  rwa [decide_eq_true hr] at this
theorem qv_gtr_f {P : Program} {n : Nat} {F : List (Nat × Value)} {h : View} {L : List Res} {dst : Option Nat} {ty : Nat} {pos : String} {af : Array Edge} {gd : Option (Nat × Bool)} {T T' : Nat} {x y : Operand} {k : IntKind} {i j : Int} (hx : ev F x = some (.int k i)) (hy : ev F y = some (.int k j)) (hr : ¬ (j < i)) :
    QV P n F h L ⟨dst, .binOp .gtr T x y T', ty, pos, af, gd⟩ (.bool false) := by
  have := yaj (P := P) (n := n) (h := h) (L := L) (dst := dst) (ty := ty) (pos := pos) (af := af) (gd := gd) (T := T) (T' := T') hx hy
  rwa [decide_eq_false hr] at this
theorem qv_geq_t {P : Program} {n : Nat} {F : List (Nat × Value)} {h : View} {L : List Res} {dst : Option Nat} {ty : Nat} {pos : String} {af : Array Edge} {gd : Option (Nat × Bool)} {T T' : Nat} {x y : Operand} {k : IntKind} {i j : Int} (hx : ev F x = some (.int k i)) (hy : ev F y = some (.int k j)) (hr : j ≤ i) :
    QV P n F h L ⟨dst, .binOp .geq T x y T', ty, pos, af, gd⟩ (.bool true) := by
  have := yak (P := P) (n := n) (h := h) (L := L) (dst := dst) (ty := ty) (pos := pos) (af := af) (gd := gd) (T := T) (T' := T') hx hy
  rwa [decide_eq_true hr] at this
theorem qv_geq_f {P : Program} {n : Nat} {F : List (Nat × Value)} {h : View} {L : List Res} {dst : Option Nat} {ty : Nat} {pos : String} {af : Array Edge} {gd : Option (Nat × Bool)} {T T' : Nat} {x y : Operand} {k : IntKind} {i j : Int} (hx : ev F x = some (.int k i)) (hy : ev F y = some (.int k j)) (hr : ¬ (j ≤ i)) :
    QV P n F h L ⟨dst, .binOp .geq T x y T', ty, pos, af, gd⟩ (.bool false) := by
  have := yak (P := P) (n := n) (h := h) (L := L) (dst := dst) (ty := ty) (pos := pos) (af := af) (gd := gd) (T := T) (T' := T') hx hy
  rwa [decide_eq_false hr] at this
theorem qv_eql_t {P : Program} {n : Nat} {F : List (Nat × Value)} {h : View} {L : List Res} {dst : Option Nat} {ty : Nat} {pos : String} {af : Array Edge} {gd : Option (Nat × Bool)} {T T' : Nat} {x y : Operand} {k : IntKind} {i j : Int} (hx : ev F x = some (.int k i)) (hy : ev F y = some (.int k j)) (hr : i = j) :
    QV P n F h L ⟨dst, .binOp .eql T x y T', ty, pos, af, gd⟩ (.bool true) := by
  have := yal (P := P) (n := n) (h := h) (L := L) (dst := dst) (ty := ty) (pos := pos) (af := af) (gd := gd) (T := T) (T' := T') hx hy
  rwa [decide_eq_true hr] at this
theorem qv_eql_f {P : Program} {n : Nat} {F : List (Nat × Value)} {h : View} {L : List Res} {dst : Option Nat} {ty : Nat} {pos : String} {af : Array Edge} {gd : Option (Nat × Bool)} {T T' : Nat} {x y : Operand} {k : IntKind} {i j : Int} (hx : ev F x = some (.int k i)) (hy : ev F y = some (.int k j)) (hr : ¬ (i = j)) :
    QV P n F h L ⟨dst, .binOp .eql T x y T', ty, pos, af, gd⟩ (.bool false) := by
  have := yal (P := P) (n := n) (h := h) (L := L) (dst := dst) (ty := ty) (pos := pos) (af := af) (gd := gd) (T := T) (T' := T') hx hy
  rwa [decide_eq_false hr] at this
theorem qv_neq_t {P : Program} {n : Nat} {F : List (Nat × Value)} {h : View} {L : List Res} {dst : Option Nat} {ty : Nat} {pos : String} {af : Array Edge} {gd : Option (Nat × Bool)} {T T' : Nat} {x y : Operand} {k : IntKind} {i j : Int} (hx : ev F x = some (.int k i)) (hy : ev F y = some (.int k j)) (hr : i ≠ j) :
    QV P n F h L ⟨dst, .binOp .neq T x y T', ty, pos, af, gd⟩ (.bool true) := by
  have := yam (P := P) (n := n) (h := h) (L := L) (dst := dst) (ty := ty) (pos := pos) (af := af) (gd := gd) (T := T) (T' := T') hx hy
  rwa [decide_eq_true hr] at this
theorem qv_neq_f {P : Program} {n : Nat} {F : List (Nat × Value)} {h : View} {L : List Res} {dst : Option Nat} {ty : Nat} {pos : String} {af : Array Edge} {gd : Option (Nat × Bool)} {T T' : Nat} {x y : Operand} {k : IntKind} {i j : Int} (hx : ev F x = some (.int k i)) (hy : ev F y = some (.int k j)) (hr : ¬ (i ≠ j)) :
    QV P n F h L ⟨dst, .binOp .neq T x y T', ty, pos, af, gd⟩ (.bool false) := by
  have := yam (P := P) (n := n) (h := h) (L := L) (dst := dst) (ty := ty) (pos := pos) (af := af) (gd := gd) (T := T) (T' := T') hx hy
  rwa [decide_eq_false hr] at this
end Go.Ck
end

section
namespace Go.Proofs.YtndpclcbobgdlaaGreatDoor
open Go Go.Ck
set_option maxHeartbeats 2000000
def byC (s : RS) (most : Int) : List Int × RS :=
  if s.2 ≠ 0 then ([], s)
  else if (lookC s.1 4 most).2 ≠ 0 then ([], (s.1, (lookC s.1 4 most).2))
  else if s.1.length - 4 < (lookC s.1 4 most).1.toNat then ([], (s.1, 3))
  else ((s.1.drop 4).take (lookC s.1 4 most).1.toNat, ((s.1.drop 4).drop (lookC s.1 4 most).1.toNat, 0))
def num4 (x : Int) : List Int := (putLow 4 x).reverse
theorem num4_len (x : Int) : (num4 x).length = 4 := by simp [num4, putLow_len]
theorem lookC_bd {l : List Int} (hb : Bytes l) {size : Nat} {most : Int} (hm : 0 ≤ most) : 0 ≤ (lookC l size most).1 ∧ (lookC l size most).1 ≤ most := by
  unfold lookC
  split
  · exact ⟨by decide, hm⟩
  · split
    · exact ⟨by decide, hm⟩
    · exact ⟨(valB_bd hb size (by omega)).1, by dsimp only; omega⟩
theorem bytes_take {l : List Int} (hb : Bytes l) (k : Nat) : Bytes (l.take k) := fun b hx => hb b (List.mem_of_mem_take hx)
theorem bytes_drop {l : List Int} (hb : Bytes l) (k : Nat) : Bytes (l.drop k) := fun b hx => hb b (List.mem_of_mem_drop hx)
theorem RsOk.by {s : RS} (h : RsOk s) {most : Int} (hm : 0 ≤ most) : RsOk (byC s most).2 ∧ Bytes (byC s most).1 ∧ ((byC s most).1.length : Int) ≤ most := by
  have hbd := lookC_bd (size := 4) h.b hm
  unfold byC
  split
  · exact ⟨h, (fun b hx => by cases hx), hm⟩
  · split
    · exact ⟨⟨h.b, h.l⟩, (fun b hx => by cases hx), hm⟩
    · split
      · exact ⟨⟨h.b, h.l⟩, (fun b hx => by cases hx), hm⟩
      · refine ⟨⟨bytes_drop (bytes_drop h.b 4) _, ?_⟩, bytes_take (bytes_drop h.b 4) _, ?_⟩
        · have := h.l
          simp only [List.length_drop]; omega
        · simp only [List.length_take, List.length_drop]; omega
theorem skipr_sp (bi : Nat) (v : Value) (l : List Int) (e : Int) (size : Nat) (hsz : size ≤ l.length) (hl : l.length ≤ 140737488355328) (h : View) (hv : Bs8 h v l) (w : World) (s : St ⟨w, h, doms [inR bi v e]⟩ h [inR bi v e] w) :
    Calls Tryz.prog 71 [.pointer (some ⟨bi, 0, none⟩), .int .i64 size].toArray w fun en w' => ∃ x : View × Value × Value, en = .returned x.2.1 ∧ St ⟨w, h, doms [inR bi v e]⟩ x.1 [inR bi x.2.2 e] w' ∧ (Bs8 x.1 x.2.1 (l.take size) ∧ Bs8 x.1 x.2.2 (l.drop size)) := by
  obtain ⟨_, ad, cap, rfl, hcap, _⟩ := id hv
  have ht1 : Bs8 h (.slice ad size cap) (l.take size) := by
    have := sc_take hv hsz
    unfold Bs8
    rw [List.length_take, Nat.min_eq_left hsz]
    have e : bcs (l.take size) = (bcs l).take (size * 1) := by simp [bcs]
    rw [e]; exact this
  have hd1 : Bs8 h (.slice (cutF ad cap size 1) (l.length - size) (cap - size)) (l.drop size) := by
    have := sc_drop hv (by decide) hsz
    unfold Bs8
    rw [List.length_drop]
    have e : bcs (l.drop size) = (bcs l).drop (size * 1) := by simp [bcs]
    rw [e]; exact this
  refine calls_enter Tryz.func71 rfl Tryz.ntmps71 rfl s ?_
  repeat' (first|(refine ycf ?_;apply ybk;(·first|(first|(apply qv_nilCheck;rfl)|(apply qv_slice_to;(·rfl);(·rfl);(·omega);(·omega))|(apply qv_slice_from;(·rfl);(·rfl);(·omega))));(·rfl);(·rfl))|refine t1_ ?_|(refine ta_ ?_;intro _)|((fail_if_success (refine ybi rfl ?_));refine ybj rfl ?_ ?_<;>(intro ht;rw [ht];first|replace ht := oet_ ht|replace ht := oef_ ht|skip))|(refine ych ?_;first|(refine ybw rfl ?_ ?_<;>intro ht)|(refine ybx rfl ?_ ?_<;>intro ht)))
  (refine yco (ycp Tryz.func40 rfl (by kernel_rfl) rfl) (BClone_sp (.slice ad size cap) (l.take size) h ht1 (by simp; omega)) rfl rfl rfl ?_ ?_ ?_; (· (exact to_)); (· intro _ _ hle; (exact to_)); intro x px hle)
  repeat' (first|(refine ycf ?_;apply ybk;(·first|(first|(apply qv_nilCheck;rfl)|(apply qv_slice_to;(·rfl);(·rfl);(·omega);(·omega))|(apply qv_slice_from;(·rfl);(·rfl);(·omega))));(·rfl);(·rfl))|refine t1_ ?_|(refine ta_ ?_;intro _)|((fail_if_success (refine ybi rfl ?_));refine ybj rfl ?_ ?_<;>(intro ht;rw [ht];first|replace ht := oet_ ht|replace ht := oef_ ht|skip))|(refine ych ?_;first|(refine ybw rfl ?_ ?_<;>intro ht)|(refine ybx rfl ?_ ?_<;>intro ht)))
  refine nx_ret1 rfl (rv_tmp rfl) (fun w' s' => ?_)
  obtain ⟨h2, hle2, hs2, s2⟩ := s'.rowPersistA (by intro x hx; exact hx)
  exact ⟨(h2, x, .slice (cutF ad cap size 1) (l.length - size) (cap - size)), rfl, s2, hs2, hd1.mono hle2⟩
theorem InBytes_sp (bi : Nat) (v : Value) (l : List Int) (e : Int) (most : Int) (hb : Bytes l) (hm : 0 ≤ most ∧ most < 9223372036854775808) (hl : l.length ≤ 140737488355328) (h : View) (hv : Bs8 h v l) (w : World) (s : St ⟨w, h, doms [inR bi v e]⟩ h [inR bi v e] w) :
    Calls Tryz.prog 51 [.pointer (some ⟨bi, 0, none⟩), .int .i64 most].toArray w fun en w' => ∃ x : View × Value × Value, en = .returned x.2.1 ∧ St ⟨w, h, doms [inR bi v e]⟩ x.1 [inR bi x.2.2 (byC (l, e) most).2.2] w' ∧ (Bs8 x.1 x.2.1 (byC (l, e) most).1 ∧ Bs8 x.1 x.2.2 (byC (l, e) most).2.1) := by
  refine calls_enter Tryz.func51 rfl Tryz.ntmps51 rfl s ?_
  unfold byC
  dsimp only
  by_cases he : e = 0
  · subst he
    rw [if_neg (by simp)]
    have hdead := dead_sp bi v 0 h
    rw [show decide ((0 : Int) ≠ 0) = false by decide] at hdead
    repeat' (first|(refine ycf ?_;apply ybk;(·first|(first|(apply qv_nilCheck;rfl)|(apply qv_slice_to;(·rfl);(·rfl);(·omega);(·omega))|(apply qv_slice_from;(·rfl);(·rfl);(·omega))));(·rfl);(·rfl))|refine t1_ ?_|(refine ta_ ?_;intro _)|((fail_if_success (refine ybi rfl ?_));refine ybj rfl ?_ ?_<;>(intro ht;rw [ht];first|replace ht := oet_ ht|replace ht := oef_ ht|skip))|(refine ych ?_;first|(refine ybw rfl ?_ ?_<;>intro ht)|(refine ybx rfl ?_ ?_<;>intro ht)))
    (refine rx_call_m (ycp Tryz.func69 rfl (by kernel_rfl) rfl) (perm_at (k := 0) rfl) (hdead) rfl rfl rfl ?_ ?_ ?_; (· (exact to_)); (· intro _ _ hle; (exact to_)); intro x px hle)
    repeat' (first|(refine ycf ?_;apply ybk;(·first|(first|(apply qv_nilCheck;rfl)|(apply qv_slice_to;(·rfl);(·rfl);(·omega);(·omega))|(apply qv_slice_from;(·rfl);(·rfl);(·omega))));(·rfl);(·rfl))|refine t1_ ?_|(refine ta_ ?_;intro _)|((fail_if_success (refine ybi rfl ?_));refine ybj rfl ?_ ?_<;>(intro ht;rw [ht];first|replace ht := oet_ ht|replace ht := oef_ ht|skip))|(refine ych ?_;first|(refine ybw rfl ?_ ?_<;>intro ht)|(refine ybx rfl ?_ ?_<;>intro ht)))
    (refine rx_call_m (ycp Tryz.func70 rfl (by kernel_rfl) rfl) (perm_at (k := 0) rfl) (look_sp bi v l 4 most hb (by omega) (by omega) hm hl h hv) rfl rfl rfl ?_ ?_ ?_; (· (exact to_)); (· intro _ _ hle; (exact to_)); intro x px hle)
    have hbd := lookC_bd (size := 4) hb hm.1
    by_cases hz : (lookC l 4 most).2 = 0
    · have hsl := lookC_len hz
      rw [if_neg (by simpa using hz), hz]
      generalize (lookC l 4 most).1 = N at hbd ⊢
      obtain ⟨N, rfl⟩ : ∃ k : Nat, N = k := ⟨N.toNat, by omega⟩
      rw [Int.toNat_natCast]
      obtain ⟨_, ad, cap, rfl, hcap, _⟩ := id hv
      by_cases hN : l.length - 4 < N
      · rw [if_pos hN]
        repeat' (first|(refine ycf ?_;apply ybk;(·first|(exact tk_));(·rfl);(·rfl))|refine t1_ ?_|(refine ta_ ?_;intro _)|((fail_if_success (refine ybi rfl ?_));refine ybj rfl ?_ ?_<;>(intro ht;rw [ht];first|replace ht := oet_ ht|replace ht := oef_ ht|skip))|(refine ych ?_;first|(refine ybw rfl ?_ ?_<;>intro ht)|(refine ybx rfl ?_ ?_<;>intro ht)))
        exact nx_ret1 rfl (rv_tmp rfl) (fun w' s' => ⟨(h, .slice none 0 0, .slice ad l.length cap), rfl, s', Sc.nil h 1 none 0, hv⟩)
      · rw [if_neg hN]
        repeat' (first|(refine ycf ?_;apply ybk;(·first|(exact tk_));(·rfl);(·rfl))|refine t1_ ?_|(refine ta_ ?_;intro _)|((fail_if_success (refine ybi rfl ?_));refine ybj rfl ?_ ?_<;>(intro ht;rw [ht];first|replace ht := oet_ ht|replace ht := oef_ ht|skip))|(refine ych ?_;first|(refine ybw rfl ?_ ?_<;>intro ht)|(refine ybx rfl ?_ ?_<;>intro ht)))
        (refine rx_call_m (ycp Tryz.func71 rfl (by kernel_rfl) rfl) (perm_at (k := 0) rfl) (skipr_sp bi _ l 0 4 hsl hl h hv) rfl rfl rfl ?_ ?_ ?_; (· (exact to_)); (· intro _ _ hle; (exact to_)); intro x px hle)
        obtain ⟨h1, v1, v2⟩ := x
        obtain ⟨p1, p2⟩ := px
        dsimp only at p1 p2 hle ⊢
        have hle1 := hle
        repeat' (first|(refine ycf ?_;apply ybk;(·first|(exact tk_));(·rfl);(·rfl))|refine t1_ ?_|(refine ta_ ?_;intro _)|((fail_if_success (refine ybi rfl ?_));refine ybj rfl ?_ ?_<;>(intro ht;rw [ht];first|replace ht := oet_ ht|replace ht := oef_ ht|skip))|(refine ych ?_;first|(refine ybw rfl ?_ ?_<;>intro ht)|(refine ybx rfl ?_ ?_<;>intro ht)))
        (refine rx_call_m (ycp Tryz.func71 rfl (by kernel_rfl) rfl) (perm_at (k := 0) rfl) (skipr_sp bi v2 (l.drop 4) 0 N (by rw [List.length_drop]; omega) (by rw [List.length_drop]; omega) h1 p2) rfl rfl rfl ?_ ?_ ?_; (· (exact to_)); (· intro _ _ hle; (exact to_)); intro x px hle)
        repeat' (first|(refine ycf ?_;apply ybk;(·first|(exact tk_));(·rfl);(·rfl))|refine t1_ ?_|(refine ta_ ?_;intro _)|((fail_if_success (refine ybi rfl ?_));refine ybj rfl ?_ ?_<;>(intro ht;rw [ht];first|replace ht := oet_ ht|replace ht := oef_ ht|skip))|(refine ych ?_;first|(refine ybw rfl ?_ ?_<;>intro ht)|(refine ybx rfl ?_ ?_<;>intro ht)))
        exact nx_ret1 rfl (rv_tmp rfl) (fun w' s' => ⟨x, rfl, s', px⟩)
    · have hf := lookC_bad hz
      rw [if_pos hz, hf]
      generalize (lookC l 4 most).2 = E at hz ⊢
      repeat' (first|(refine ycf ?_;apply ybk;(·first|(exact tk_));(·rfl);(·rfl))|refine t1_ ?_|(refine ta_ ?_;intro _)|((fail_if_success (refine ybi rfl ?_));refine ybj rfl ?_ ?_<;>(intro ht;rw [ht];first|replace ht := oet_ ht|replace ht := oef_ ht|skip))|(refine ych ?_;first|(refine ybw rfl ?_ ?_<;>intro ht)|(refine ybx rfl ?_ ?_<;>intro ht)))
      exact nx_ret1 rfl (rv_tmp rfl) (fun w' s' => ⟨(h, .slice none 0 0, v), rfl, s', Sc.nil h 1 none 0, hv⟩)
  · rw [if_pos he]
    have hdead := dead_sp bi v e h
    rw [decide_eq_true he] at hdead
    repeat' (first|(refine ycf ?_;apply ybk;(·first|(exact tk_));(·rfl);(·rfl))|refine t1_ ?_|(refine ta_ ?_;intro _)|((fail_if_success (refine ybi rfl ?_));refine ybj rfl ?_ ?_<;>(intro ht;rw [ht];first|replace ht := oet_ ht|replace ht := oef_ ht|skip))|(refine ych ?_;first|(refine ybw rfl ?_ ?_<;>intro ht)|(refine ybx rfl ?_ ?_<;>intro ht)))
    (refine rx_call_m (ycp Tryz.func69 rfl (by kernel_rfl) rfl) (perm_at (k := 0) rfl) (hdead) rfl rfl rfl ?_ ?_ ?_; (· (exact to_)); (· intro _ _ hle; (exact to_)); intro x px hle)
    repeat' (first|(refine ycf ?_;apply ybk;(·first|(exact tk_));(·rfl);(·rfl))|refine t1_ ?_|(refine ta_ ?_;intro _)|((fail_if_success (refine ybi rfl ?_));refine ybj rfl ?_ ?_<;>(intro ht;rw [ht];first|replace ht := oet_ ht|replace ht := oef_ ht|skip))|(refine ych ?_;first|(refine ybw rfl ?_ ?_<;>intro ht)|(refine ybx rfl ?_ ?_<;>intro ht)))
    exact nx_ret1 rfl (rv_tmp rfl) (fun w' s' => ⟨(h, .slice none 0 0, v), rfl, s', Sc.nil h 1 none 0, hv⟩)
theorem qv_neq_pnil {P : Program} {n : Nat} {F : List (Nat × Value)} {h : View} {L : List Res} {dst : Option Nat} {ty : Nat} {pos : String} {af : Array Edge} {gd : Option (Nat × Bool)} {T T' e : Nat} {x y : Operand} {ad : Addr} [tu : TyU P T (.pointer e)] (hx : ev F x = some (.pointer (some ad))) (hy : ev F y = some (.pointer none)) :
    QV P n F h L ⟨dst, .binOp .neq T x y T', ty, pos, af, gd⟩ (.bool true) := by
  refine .mk fun a w f s => ?_
  have hp : P.underlying T = some (.pointer (P.pointee T)) := by
    have := tu.u
    simp [Program.pointee, this]
  have hg : (eqGuard .neq T x y (.pointer (some ad)) (.pointer none)).run P w = .ok () w := by simp [eqGuard]
  have he := run_equal_pointer_nil (P := P) (w := w) T (some ad) hp
  simp only [execOp, f.ev hx, f.ev hy, Sem.run_bind, hg, Result.andThen_ok, binOp, he]
  rfl
theorem OutFixed_sp (bo : Nat) (v : Value) (l : List Int) (bad : Bool) (bv : Value) (b : List Int) (hl : l.length + b.length ≤ 1000000) (h : View) (hb : Bs8 h bv b) (w : World) (s : St ⟨w, h, doms [outR bo v bad, rowB v l]⟩ h [outR bo v bad, rowB v l] w) :
    Calls Tryz.prog 48 [.pointer (some ⟨bo, 0, none⟩), bv].toArray w fun e w' => ∃ x : Value, e = .returned (.pointer (some ⟨bo, 0, none⟩)) ∧
      St ⟨w, h, doms [outR bo v bad, rowB v l]⟩ h [outR bo x bad, rowB x (l ++ b)] w' ∧ True := by
  obtain ⟨_, ad, cap, rfl, hcap, _⟩ := id hb
  refine calls_enter Tryz.func48 rfl Tryz.ntmps48 rfl s ?_
  repeat' (first|(refine ycf ?_;apply ybk;(·first|(first|(apply qv_neq_pnil<;>rfl)|(apply qv_nilCheck;rfl)));(·rfl);(·rfl))|refine t1_ ?_|(refine ta_ ?_;intro _)|((fail_if_success (refine ybi rfl ?_));refine ybj rfl ?_ ?_<;>(intro ht;rw [ht];first|replace ht := oet_ ht|replace ht := oef_ ht|skip))|(refine ych ?_;first|(refine ybw rfl ?_ ?_<;>intro ht)|(refine ybx rfl ?_ ?_<;>intro ht)))
  refine rx_append_sc (sz := 1) 1 rfl rfl rfl hb (bcs_one b) rfl (by omega) (by unfold maxLen; omega) (by omega) rfl rfl rfl ybf (fun _ => ybf) ?_
  intro v2 hv2
  refine rx_rowform 1 rfl (fun q1 q2 q3 => ?_) ?_
  · subst q1
    have hl0 : l = [] := List.eq_nil_of_length_eq_zero (by omega)
    have hb0 : b = [] := List.eq_nil_of_length_eq_zero (by omega)
    subst hl0
    subst hb0
    repeat' (first|(refine ycf ?_;apply ybk;(·first|(first|(apply qv_neq_pnil<;>rfl)|(apply qv_nilCheck;rfl)));(·rfl);(·rfl))|refine t1_ ?_|(refine ta_ ?_;intro _)|((fail_if_success (refine ybi rfl ?_));refine ybj rfl ?_ ?_<;>(intro ht;rw [ht];first|replace ht := oet_ ht|replace ht := oef_ ht|skip))|(refine ych ?_;first|(refine ybw rfl ?_ ?_<;>intro ht)|(refine ybx rfl ?_ ?_<;>intro ht)))
    exact nx_ret1 rfl (rv_tmp rfl) (fun w' s' => ⟨_, rfl, s', trivial⟩)
  rintro g2 cap2 rfl
  repeat' (first|(refine ycf ?_;apply ybk;(·first|(first|(apply qv_neq_pnil<;>rfl)|(apply qv_nilCheck;rfl)));(·rfl);(·rfl))|refine t1_ ?_|(refine ta_ ?_;intro _)|((fail_if_success (refine ybi rfl ?_));refine ybj rfl ?_ ?_<;>(intro ht;rw [ht];first|replace ht := oet_ ht|replace ht := oef_ ht|skip))|(refine ych ?_;first|(refine ybw rfl ?_ ?_<;>intro ht)|(refine ybx rfl ?_ ?_<;>intro ht)))
  refine nx_ret1 rfl (rv_tmp rfl) (fun w' s' => ⟨.slice (some ⟨g2, 0, none⟩) (l.length + b.length) cap2, rfl, ?_, trivial⟩)
  unfold rowB
  rw [List.length_append, bcs_app]
  exact s'
theorem OutBytes_sp (bo : Nat) (v : Value) (l : List Int) (bad : Bool) (bv : Value) (b : List Int) (hl : l.length + 4 + b.length ≤ 1000000) (h : View) (hb : Bs8 h bv b) (w : World) (s : St ⟨w, h, doms [outR bo v bad, rowB v l]⟩ h [outR bo v bad, rowB v l] w) :
    Calls Tryz.prog 38 [.pointer (some ⟨bo, 0, none⟩), bv].toArray w fun e w' => ∃ x : Value, e = .returned (.pointer (some ⟨bo, 0, none⟩)) ∧
      St ⟨w, h, doms [outR bo v bad, rowB v l]⟩ h [outR bo x bad, rowB x (l ++ num4 b.length ++ b)] w' ∧ True := by
  obtain ⟨_, ad, cap, rfl, hcap, _⟩ := id hb
  refine calls_enter Tryz.func38 rfl Tryz.ntmps38 rfl s ?_
  repeat' (first|(refine ycf ?_;apply ybk;(·first|(first|(apply qv_neq_pnil<;>rfl)|(apply qv_nilCheck;rfl)));(·rfl);(·rfl))|refine t1_ ?_|(refine ta_ ?_;intro _)|((fail_if_success (refine ybi rfl ?_));refine ybj rfl ?_ ?_<;>(intro ht;rw [ht];first|replace ht := oet_ ht|replace ht := oef_ ht|skip))|(refine ych ?_;first|(refine ybw rfl ?_ ?_<;>intro ht)|(refine ybx rfl ?_ ?_<;>intro ht)))
  (refine rx_call_2 (ycp Tryz.func35 rfl (by kernel_rfl) rfl) (put_sp bo v l bad b.length 4 true (fun _ => by omega) (by omega) (by omega) (by omega) (by omega) h) rfl rfl rfl ?_ ?_ ?_; (· (exact to_)); (· intro _ _ hle; (exact to_)); intro x px hle)
  rw [Bool.not_true, Bool.or_false, if_pos rfl]
  repeat' (first|(refine ycf ?_;apply ybk;(·first|(first|(apply qv_neq_pnil<;>rfl)|(apply qv_nilCheck;rfl)));(·rfl);(·rfl))|refine t1_ ?_|(refine ta_ ?_;intro _)|((fail_if_success (refine ybi rfl ?_));refine ybj rfl ?_ ?_<;>(intro ht;rw [ht];first|replace ht := oet_ ht|replace ht := oef_ ht|skip))|(refine ych ?_;first|(refine ybw rfl ?_ ?_<;>intro ht)|(refine ybx rfl ?_ ?_<;>intro ht)))
  (refine rx_call_2 (ycp Tryz.func48 rfl (by kernel_rfl) rfl) (OutFixed_sp bo x (l ++ num4 b.length) bad _ b (by rw [List.length_append, num4_len]; omega) h hb) rfl rfl rfl ?_ ?_ ?_; (· (exact to_)); (· intro _ _ hle; (exact to_)); intro x px hle)
  repeat' (first|(refine ycf ?_;apply ybk;(·first|(first|(apply qv_neq_pnil<;>rfl)|(apply qv_nilCheck;rfl)));(·rfl);(·rfl))|refine t1_ ?_|(refine ta_ ?_;intro _)|((fail_if_success (refine ybi rfl ?_));refine ybj rfl ?_ ?_<;>(intro ht;rw [ht];first|replace ht := oet_ ht|replace ht := oef_ ht|skip))|(refine ych ?_;first|(refine ybw rfl ?_ ?_<;>intro ht)|(refine ybx rfl ?_ ?_<;>intro ht)))
  exact nx_ret1 rfl (rv_tmp rfl) (fun w' s' => ⟨x, rfl, s', trivial⟩)
section
variable {P : Program} {n : Nat} {F : List (Nat × Value)} {h : View} {L : List Res} {dst : Option Nat} {ty : Nat} {pos : String} {af : Array Edge} {gd : Option (Nat × Bool)}
end
theorem rBytes_sp (b : List Int) (hl : b.length ≤ 900000) (h : View) (w : World) (s : St ⟨w, h, []⟩ h [] w) :
    Calls Tryz.prog 18 [.string (bstr b)].toArray w fun e w' => e = .returned (.string (bstr (num4 b.length ++ b))) ∧ St ⟨w, h, []⟩ h [] w' := by
  have hw := wrap_u64 (n := (b.length : Int)) (by omega) (by omega)
  have hcat : bstr (num4 (b.length : Int)) ++ bstr b = bstr (num4 (b.length : Int) ++ b) := bstr_app _ _
  have hsz : (bstr (num4 (b.length : Int))).size + (bstr b).size < 1000000 := by rw [bstr_size, bstr_size, num4_len]; omega
  refine calls_enter Tryz.func18 rfl Tryz.ntmps18 rfl s ?_
  repeat' (first|(refine ycf ?_;apply ybk;(·first|(first|exact qv_len_bstr rfl|exact qv_convert_int' rfl hw|exact qv_str_add rfl rfl hcat hsz));(·rfl);(·rfl))|refine t1_ ?_|(refine ta_ ?_;intro _)|((fail_if_success (refine ybi rfl ?_));refine ybj rfl ?_ ?_<;>(intro ht;rw [ht];first|replace ht := oet_ ht|replace ht := oef_ ht|skip))|(refine ych ?_;first|(refine ybw rfl ?_ ?_<;>intro ht)|(refine ybx rfl ?_ ?_<;>intro ht)))
  (refine ycn (ycp Tryz.func32 rfl (by kernel_rfl) rfl) (Put_sp b.length 4 ⟨by omega, by omega⟩ (by omega) h) rfl rfl rfl ?_ ?_; (· (exact to_)))
  repeat' (first|(refine ycf ?_;apply ybk;(·first|(first|exact qv_len_bstr rfl|exact qv_convert_int' rfl hw|exact qv_str_add rfl rfl hcat hsz));(·rfl);(·rfl))|refine t1_ ?_|(refine ta_ ?_;intro _)|((fail_if_success (refine ybi rfl ?_));refine ybj rfl ?_ ?_<;>(intro ht;rw [ht];first|replace ht := oet_ ht|replace ht := oef_ ht|skip))|(refine ych ?_;first|(refine ybw rfl ?_ ?_<;>intro ht)|(refine ybx rfl ?_ ?_<;>intro ht)))
  exact nx_ret1 rfl (rv_tmp rfl) (fun w' s' => ⟨rfl, s'.nil⟩)
end Go.Proofs.YtndpclcbobgdlaaGreatDoor
end

section
namespace Go.Ck
open Go
section
variable {P : Program} {n : Nat} {K : Bs} {F : List (Nat × Value)} {h : View} {L : List Res} {Q : Exit → Act → World → Prop}
variable {dst : Option Nat} {ty : Nat} {pos : String} {af : Array Edge} {gd : Option (Nat × Bool)}
theorem rx_row {g' : Rg} {prs : List (Nat × Oper)} (e : TypeId) (k : Nat) (hx : RX P n K g' prs F h (Res.row e k (.slice none 0 0) 0 [] :: L) Q) : RX P n K g' prs F h L Q := by
  unfold RX at *
  exact fun a w f s => hx a w f (s.rowNil e k)
end
end Go.Ck
end

section
namespace Go.Ck
open Go
section
variable {P : Program} {ops : Array Oper} {S : World → Prop} {lo bar : Nat → Bool} {fl : Nat → Bool}
def Pass (ops : Array Oper) (lo bar : Nat → Bool) (p : Nat × Oper) (i : Nat) (o : Oper) : Prop :=
  p.2.apart ops o = true ∧ (lo i && lo p.1) = false ∧ bar i = false ∧ bar p.1 = false ∧ (∀ cs b, o.op ≠ .select cs b) ∧ (∀ cs b, p.2.op ≠ .select cs b)
theorem Pass.swap {p : Nat × Oper} {i : Nat} {o : Oper} (h : Pass ops lo bar p i o) {K : Act → World → Prop} {a : Act} {w : World}
    (hr : R1 P ops S (lo p.1) (bar p.1) p.2 (fun a w => R1 P ops S (lo i) (bar i) o K a w) a w) : R1 P ops S (lo i) (bar i) o (fun a w => R1 P ops S (lo p.1) (bar p.1) p.2 K a w) a w := by
  obtain ⟨e1, e2, e3, e4, e5, e6⟩ := h
  exact Ck.swap e1 e5 e6 e2 e3 e4 hr
section
variable {ms : List Nat} {rk : Nat → Nat}
end
end
structure Flo where
  i : Nat
  o : Oper
  s : Nat
  f : Nat → Value
  ob : Obj
section
variable {P : Program} {n : Nat} {K : Bs} {g : Rg} {Y : List Flo} {F : List (Nat × Value)} {h : View} {L : List Res} {Q : Exit → Act → World → Prop}
structure FloOk (P : Program) (n : Nat) (g : Rg) (y : Flo) : Prop where
  dst : y.o.dst = some y.s
  okd : okd n (some y.s) = true
  gd : y.o.guard = none
  lo : g.lo y.i = true
  ma : ∀ F h L, MA P n F h L y.o y.f y.ob
theorem lk_mem : ∀ {G : List (Nat × Value)} {s : Nat} {v : Value}, lk G s = some v → (s, v) ∈ G
  | (k, u) :: G, s, v, hh => by
    unfold lk at hh
    cases hk : Nat.beq k s with
    | true =>
      rw [hk] at hh
      have := Nat.eq_of_beq_eq_true hk
      simp only [cond_true, Option.some.injEq] at hh
      rw [this, hh]; exact List.mem_cons_self ..
    | false =>
      rw [hk] at hh
      exact List.mem_cons_of_mem _ (lk_mem hh)
theorem lk_none : ∀ {G : List (Nat × Value)} {s : Nat}, (∀ v, (s, v) ∉ G) → lk G s = none := fun {G s} hn => by
  cases hl : lk G s with
  | none => rfl
  | some v => exact absurd (lk_mem hl) (hn v)
theorem lk_app : ∀ {F G : List (Nat × Value)} {s : Nat}, lk (F ++ G) s = (lk F s).or (lk G s)
  | [], G, s => rfl
  | (k, u) :: F, G, s => by
    show (bif Nat.beq k s then some u else lk (F ++ G) s) = (bif Nat.beq k s then some u else lk F s).or (lk G s)
    cases Nat.beq k s with
    | true => rfl
    | false => exact lk_app
theorem fr_app {F G : List (Nat × Value)} {a : Act} : Fr n (F ++ G) a ↔ Fr n F a ∧ ∀ s v, lk F s = none → lk G s = some v → a.tmps[s]? = some v := by
  constructor
  · intro f
    refine ⟨⟨f.size, f.dfs, fun s v hs => f.get s v (by rw [lk_app, hs]; rfl)⟩, fun s v hn hs => f.get s v (by rw [lk_app, hn, hs]; rfl)⟩
  · rintro ⟨f, hg⟩
    refine ⟨f.size, f.dfs, fun s v hs => ?_⟩
    rw [lk_app] at hs
    cases hl : lk F s with
    | none => rw [hl] at hs; exact hg s v hl hs
    | some u => rw [hl] at hs; exact f.get s v (by rw [hl]; exact hs)
theorem rx_to {g' : Rg} {prs : List (Nat × Oper)} {F' : List (Nat × Value)} {L' : List Res} (hF : Sub F' F) (hL : L = L') (hx : RX P n K g' prs F' h L' Q) : RX P n K g' prs F h L Q := by
  unfold RX at *
  subst hL
  exact fun a w f s => hx a w (f.sub hF) s
theorem perm_lift {α β : Type} {f : α → β} : ∀ {l m : List β}, l.Perm m → ∀ D : List α, D.map f = l → ∃ D0 : List α, List.Perm D0 D ∧ List.map f D0 = m := by
  intro l m hp
  induction hp with
  | nil => exact fun D hD => ⟨D, List.Perm.refl _, hD⟩
  | cons x _ ih =>
    intro D hD
    obtain ⟨d, D', rfl, rfl, h2⟩ := List.map_eq_cons_iff.1 hD
    obtain ⟨D0, h3, h4⟩ := ih D' h2
    exact ⟨d :: D0, h3.cons d, by simp [h4]⟩
  | swap x y l =>
    intro D hD
    obtain ⟨d, D', rfl, rfl, h2⟩ := List.map_eq_cons_iff.1 hD
    obtain ⟨e, D'', rfl, rfl, rfl⟩ := List.map_eq_cons_iff.1 h2
    exact ⟨e :: d :: D'', List.Perm.swap _ _ _, rfl⟩
  | trans _ _ ih1 ih2 =>
    intro D hD
    obtain ⟨D1, h1, h2⟩ := ih1 D hD
    obtain ⟨D2, h3, h4⟩ := ih2 D1 h2
    exact ⟨D2, h3.trans h1, h4⟩
end
end Go.Ck
end

section
namespace Go.Proofs.YtndpclcbobgdlaaGreatDoor
open Go Go.Ck
set_option maxHeartbeats 1000000
structure Inv (u : List Int) (out : List Dt) : Prop where
  len : u.length = 16
  bd : ∀ x ∈ u, 0 ≤ x ∧ x ≤ 1099511627776
  mor : ∀ e ∈ out, rightB e = true ∧ uD u e + 1 < e.2
  srt : out.Pairwise fun x y => ordD x y < 0
end Go.Proofs.YtndpclcbobgdlaaGreatDoor
end

section
namespace Go.Proofs.YtndpclcbobgdlaaGreatDoor
open Go Go.Ck
set_option maxHeartbeats 1000000
structure GSt where
  k : Nat
  h : View
  ua : List Int
  la : List Dt
  va : Value
  ub : List Int
  lb : List Dt
  vb : Value
structure GOk (h0 : View) (L : List Dt) (g : GSt) : Prop where
  kl : g.k ≤ L.length
  le : Le h0 g.h
  ca : Inv g.ua g.la
  cb : Inv g.ub g.lb
  na : g.la.length ≤ g.k
  nb : g.lb.length ≤ g.k
  da : Ds g.h g.va g.la
  db : Ds g.h g.vb g.lb
  sa : ∀ x, rightB x = true → hasC g.ua g.la x = decide (x ∈ L.take g.k)
  sb : ∀ x, rightB x = true → hasC g.ub g.lb x = decide (x ∈ L.reverse.take g.k)
end Go.Proofs.YtndpclcbobgdlaaGreatDoor
end

section
namespace Go.Proofs.YtndpclcbobgdlaaGreatDoor
open Go Go.Ck
set_option maxHeartbeats 2000000
structure Sb where
  d : Dt
  u : List Int
  hu : u.length = 16
  l : List Dt
  mv : Value
  b : List Int
  bv : Value
def sbc (s : Sb) : List Value := dcs s.d ++ (cxc s.u s.mv ++ [s.bv])
structure Sv (h : View) (s : Sb) : Prop where
  ds : Ds h s.mv s.l
  bs : Bs8 h s.bv s.b
  by8 : Bytes s.b
theorem Sv.mono {h h' : View} {s : Sb} (v : Sv h s) (hl : Le h h') : Sv h' s := ⟨v.ds.mono hl, v.bs.mono hl, v.by8⟩
abbrev Ab := Dt × List Int × List Dt × List Int
def Sb.a (s : Sb) : Ab := (s.d, s.u, s.l, s.b)
def Ss (h : View) (v : Value) (l : List Sb) : Prop := Sc h 20 v l.length (l.flatMap sbc) ∧ ∀ s ∈ l, Sv h s
theorem Ss.mono {h h' : View} {v : Value} {l : List Sb} (s : Ss h v l) (hl : Le h h') : Ss h' v l := ⟨s.1.mono hl, fun x hx => (s.2 x hx).mono hl⟩
section
variable {h : View} {L : List Res} {b o : Nat} {s : Sb}
end
theorem Sv.one {h : View} {s : Sb} (v : Sv h s) : s.mv.oneCell' = true ∧ s.bv.oneCell' = true := by
  obtain ⟨_, _, _, e1, _⟩ := v.ds
  obtain ⟨_, _, _, e2, _⟩ := v.bs
  rw [e1, e2]
  exact ⟨rfl, rfl⟩
end Go.Proofs.YtndpclcbobgdlaaGreatDoor
end
