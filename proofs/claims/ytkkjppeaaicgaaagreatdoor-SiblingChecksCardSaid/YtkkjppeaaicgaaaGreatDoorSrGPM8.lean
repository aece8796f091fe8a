/-
  Part 8 of a proof: BitP DotM DotN CkGrow DotU BitM CkFloat CkFlo DotQ.
  Conditions: each theorem states its own.
-/
import Derived.Lib.AppendZerosOnto
import Derived.Test.YtkkjppeaaicgaaaGreatDoorSrGPM7
section
namespace Go.Proofs.YtkkjppeaaicgaaaGreatDoor
open Go Go.Ck
set_option maxRecDepth 100000
set_option maxHeartbeats 2000000
set_option linter.unusedVariables false
def byC (s : RS) (most : Int) : List Int × RS :=
  if s.2 ≠ 0 then ([], s)
  else if (lookC s.1 4 most).2 ≠ 0 then ([], (s.1, (lookC s.1 4 most).2))
  else if s.1.length - 4 < (lookC s.1 4 most).1.toNat then ([], (s.1, 3))
  else ((s.1.drop 4).take (lookC s.1 4 most).1.toNat, ((s.1.drop 4).drop (lookC s.1 4 most).1.toNat, 0))
def num4 (x : Int) : List Int := (putLow 4 x).reverse
theorem num4_len (x : Int) : (num4 x).length = 4 := by simp [num4, putLow_len]
theorem lookC_bd {l : List Int} (hb : Bytes l) {size : Nat} {most : Int} (hm : 0 ≤ most) : 0 ≤ (lookC l size most).1 ∧ (lookC l size most).1 ≤ most := by
  unfold lookC
  split
  · exact ⟨by decide, hm⟩
  · split
    · exact ⟨by decide, hm⟩
    · exact ⟨(valB_bd hb size (by omega)).1, by dsimp only; omega⟩
theorem bytes_take {l : List Int} (hb : Bytes l) (k : Nat) : Bytes (l.take k) := fun b hx => hb b (List.mem_of_mem_take hx)
theorem bytes_drop {l : List Int} (hb : Bytes l) (k : Nat) : Bytes (l.drop k) := fun b hx => hb b (List.mem_of_mem_drop hx)
theorem RsOk.by {s : RS} (h : RsOk s) {most : Int} (hm : 0 ≤ most) : RsOk (byC s most).2 ∧ Bytes (byC s most).1 ∧ ((byC s most).1.length : Int) ≤ most := by
  have hbd := lookC_bd (size := 4) h.b hm
  unfold byC
  split
  · exact ⟨h, (fun b hx => by cases hx), hm⟩
  · split
    · exact ⟨⟨h.b, h.l⟩, (fun b hx => by cases hx), hm⟩
    · split
      · exact ⟨⟨h.b, h.l⟩, (fun b hx => by cases hx), hm⟩
      · refine ⟨⟨bytes_drop (bytes_drop h.b 4) _, ?_⟩, bytes_take (bytes_drop h.b 4) _, ?_⟩
        · have := h.l
          simp only [List.length_drop]; omega
        · simp only [List.length_take, List.length_drop]; omega
theorem skipr_sp (bi : Nat) (v : Value) (l : List Int) (e : Int) (size : Nat) (hsz : size ≤ l.length) (hl : l.length ≤ 1000000) (h : View) (hv : Bs8 h v l) (w : World) (s : St ⟨w, h, doms [inR bi v e]⟩ h [inR bi v e] w) :
    Calls Tryz.prog 74 [.pointer (some ⟨bi, 0, none⟩), .int .i64 size].toArray w fun en w' => ∃ x : View × Value × Value, en = .returned x.2.1 ∧ St ⟨w, h, doms [inR bi v e]⟩ x.1 [inR bi x.2.2 e] w' ∧ (Bs8 x.1 x.2.1 (l.take size) ∧ Bs8 x.1 x.2.2 (l.drop size)) := by
  obtain ⟨_, ad, cap, rfl, hcap, _⟩ := id hv
  have ht1 : Bs8 h (.slice ad size cap) (l.take size) := by
    have := sc_take hv hsz
    unfold Bs8
    rw [List.length_take, Nat.min_eq_left hsz]
    have e : bcs (l.take size) = (bcs l).take (size * 1) := by simp [bcs]
    rw [e]; exact this
  have hd1 : Bs8 h (.slice (cutF ad cap size 1) (l.length - size) (cap - size)) (l.drop size) := by
    have := sc_drop hv (by decide) hsz
    unfold Bs8
    rw [List.length_drop]
    have e : bcs (l.drop size) = (bcs l).drop (size * 1) := by simp [bcs]
    rw [e]; exact this
  refine calls_enter Tryz.func74 rfl Tryz.ntmps74 rfl s ?_
  repeat' (first|(refine ycf ?_;apply ybk;(·first|(first|(apply qv_nilCheck;rfl)|(apply qv_slice_to;(·rfl);(·rfl);(·omega);(·omega))|(apply qv_slice_from;(·rfl);(·rfl);(·omega))));(·rfl);(·rfl))|refine t1_ ?_|(refine ta_ ?_;intro _)|((fail_if_success (refine ybi rfl ?_));refine ybj rfl ?_ ?_<;>(intro ht;rw [ht];first|replace ht := oet_ ht|replace ht := oef_ ht|skip))|(refine ych ?_;first|(refine ybw rfl ?_ ?_<;>intro ht)|(refine ybx rfl ?_ ?_<;>intro ht)))
  (refine yco (ycp Tryz.func57 rfl (by kernel_rfl) rfl) (BClone_sp (.slice ad size cap) (l.take size) h ht1 (by simp; omega)) rfl rfl rfl ?_ ?_ ?_; (· (exact to_)); (· intro _ _ hle; (exact to_)); intro x px hle)
  repeat' (first|(refine ycf ?_;apply ybk;(·first|(first|(apply qv_nilCheck;rfl)|(apply qv_slice_to;(·rfl);(·rfl);(·omega);(·omega))|(apply qv_slice_from;(·rfl);(·rfl);(·omega))));(·rfl);(·rfl))|refine t1_ ?_|(refine ta_ ?_;intro _)|((fail_if_success (refine ybi rfl ?_));refine ybj rfl ?_ ?_<;>(intro ht;rw [ht];first|replace ht := oet_ ht|replace ht := oef_ ht|skip))|(refine ych ?_;first|(refine ybw rfl ?_ ?_<;>intro ht)|(refine ybx rfl ?_ ?_<;>intro ht)))
  refine nx_ret1 rfl (rv_tmp rfl) (fun w' s' => ?_)
  obtain ⟨h2, hle2, hs2, s2⟩ := s'.rowPersistA (by intro x hx; exact hx)
  exact ⟨(h2, x, .slice (cutF ad cap size 1) (l.length - size) (cap - size)), rfl, s2, hs2, hd1.mono hle2⟩
theorem InBytes_sp (bi : Nat) (v : Value) (l : List Int) (e : Int) (most : Int) (hb : Bytes l) (hm : 0 ≤ most ∧ most < 9223372036854775808) (hl : l.length ≤ 1000000) (h : View) (hv : Bs8 h v l) (w : World) (s : St ⟨w, h, doms [inR bi v e]⟩ h [inR bi v e] w) :
    Calls Tryz.prog 44 [.pointer (some ⟨bi, 0, none⟩), .int .i64 most].toArray w fun en w' => ∃ x : View × Value × Value, en = .returned x.2.1 ∧ St ⟨w, h, doms [inR bi v e]⟩ x.1 [inR bi x.2.2 (byC (l, e) most).2.2] w' ∧ (Bs8 x.1 x.2.1 (byC (l, e) most).1 ∧ Bs8 x.1 x.2.2 (byC (l, e) most).2.1) := by
  refine calls_enter Tryz.func44 rfl Tryz.ntmps44 rfl s ?_
  unfold byC
  dsimp only
  by_cases he : e = 0
  · subst he
    rw [if_neg (by simp)]
    have hdead := dead_sp bi v 0 h
    rw [show decide ((0 : Int) ≠ 0) = false by decide] at hdead
    repeat' (first|(refine ycf ?_;apply ybk;(·first|(first|(apply qv_nilCheck;rfl)|(apply qv_slice_to;(·rfl);(·rfl);(·omega);(·omega))|(apply qv_slice_from;(·rfl);(·rfl);(·omega))));(·rfl);(·rfl))|refine t1_ ?_|(refine ta_ ?_;intro _)|((fail_if_success (refine ybi rfl ?_));refine ybj rfl ?_ ?_<;>(intro ht;rw [ht];first|replace ht := oet_ ht|replace ht := oef_ ht|skip))|(refine ych ?_;first|(refine ybw rfl ?_ ?_<;>intro ht)|(refine ybx rfl ?_ ?_<;>intro ht)))
    (refine rx_call_m (ycp Tryz.func72 rfl (by kernel_rfl) rfl) (perm_at (k := 0) rfl) (hdead) rfl rfl rfl ?_ ?_ ?_; (· (exact to_)); (· intro _ _ hle; (exact to_)); intro x px hle)
    repeat' (first|(refine ycf ?_;apply ybk;(·first|(first|(apply qv_nilCheck;rfl)|(apply qv_slice_to;(·rfl);(·rfl);(·omega);(·omega))|(apply qv_slice_from;(·rfl);(·rfl);(·omega))));(·rfl);(·rfl))|refine t1_ ?_|(refine ta_ ?_;intro _)|((fail_if_success (refine ybi rfl ?_));refine ybj rfl ?_ ?_<;>(intro ht;rw [ht];first|replace ht := oet_ ht|replace ht := oef_ ht|skip))|(refine ych ?_;first|(refine ybw rfl ?_ ?_<;>intro ht)|(refine ybx rfl ?_ ?_<;>intro ht)))
    (refine rx_call_m (ycp Tryz.func73 rfl (by kernel_rfl) rfl) (perm_at (k := 0) rfl) (look_sp bi v l 4 most hb (by omega) (by omega) hm hl h hv) rfl rfl rfl ?_ ?_ ?_; (· (exact to_)); (· intro _ _ hle; (exact to_)); intro x px hle)
    have hbd := lookC_bd (size := 4) hb hm.1
    by_cases hz : (lookC l 4 most).2 = 0
    · have hsl := lookC_len hz
      rw [if_neg (by simpa using hz), hz]
      generalize (lookC l 4 most).1 = N at hbd ⊢
      obtain ⟨N, rfl⟩ : ∃ k : Nat, N = k := ⟨N.toNat, by omega⟩
      rw [Int.toNat_natCast]
      obtain ⟨_, ad, cap, rfl, hcap, _⟩ := id hv
      by_cases hN : l.length - 4 < N
      · rw [if_pos hN]
        repeat' (first|(refine ycf ?_;apply ybk;(·first|(exact tk_));(·rfl);(·rfl))|refine t1_ ?_|(refine ta_ ?_;intro _)|((fail_if_success (refine ybi rfl ?_));refine ybj rfl ?_ ?_<;>(intro ht;rw [ht];first|replace ht := oet_ ht|replace ht := oef_ ht|skip))|(refine ych ?_;first|(refine ybw rfl ?_ ?_<;>intro ht)|(refine ybx rfl ?_ ?_<;>intro ht)))
        exact nx_ret1 rfl (rv_tmp rfl) (fun w' s' => ⟨(h, .slice none 0 0, .slice ad l.length cap), rfl, s', Sc.nil h 1 none 0, hv⟩)
      · rw [if_neg hN]
        repeat' (first|(refine ycf ?_;apply ybk;(·first|(exact tk_));(·rfl);(·rfl))|refine t1_ ?_|(refine ta_ ?_;intro _)|((fail_if_success (refine ybi rfl ?_));refine ybj rfl ?_ ?_<;>(intro ht;rw [ht];first|replace ht := oet_ ht|replace ht := oef_ ht|skip))|(refine ych ?_;first|(refine ybw rfl ?_ ?_<;>intro ht)|(refine ybx rfl ?_ ?_<;>intro ht)))
        (refine rx_call_m (ycp Tryz.func74 rfl (by kernel_rfl) rfl) (perm_at (k := 0) rfl) (skipr_sp bi _ l 0 4 hsl hl h hv) rfl rfl rfl ?_ ?_ ?_; (· (exact to_)); (· intro _ _ hle; (exact to_)); intro x px hle)
        obtain ⟨h1, v1, v2⟩ := x
        obtain ⟨p1, p2⟩ := px
        dsimp only at p1 p2 hle ⊢
        have hle1 := hle
        repeat' (first|(refine ycf ?_;apply ybk;(·first|(exact tk_));(·rfl);(·rfl))|refine t1_ ?_|(refine ta_ ?_;intro _)|((fail_if_success (refine ybi rfl ?_));refine ybj rfl ?_ ?_<;>(intro ht;rw [ht];first|replace ht := oet_ ht|replace ht := oef_ ht|skip))|(refine ych ?_;first|(refine ybw rfl ?_ ?_<;>intro ht)|(refine ybx rfl ?_ ?_<;>intro ht)))
        (refine rx_call_m (ycp Tryz.func74 rfl (by kernel_rfl) rfl) (perm_at (k := 0) rfl) (skipr_sp bi v2 (l.drop 4) 0 N (by rw [List.length_drop]; omega) (by rw [List.length_drop]; omega) h1 p2) rfl rfl rfl ?_ ?_ ?_; (· (exact to_)); (· intro _ _ hle; (exact to_)); intro x px hle)
        repeat' (first|(refine ycf ?_;apply ybk;(·first|(exact tk_));(·rfl);(·rfl))|refine t1_ ?_|(refine ta_ ?_;intro _)|((fail_if_success (refine ybi rfl ?_));refine ybj rfl ?_ ?_<;>(intro ht;rw [ht];first|replace ht := oet_ ht|replace ht := oef_ ht|skip))|(refine ych ?_;first|(refine ybw rfl ?_ ?_<;>intro ht)|(refine ybx rfl ?_ ?_<;>intro ht)))
        exact nx_ret1 rfl (rv_tmp rfl) (fun w' s' => ⟨x, rfl, s', px⟩)
    · have hf := lookC_bad hz
      rw [if_pos hz, hf]
      generalize (lookC l 4 most).2 = E at hz ⊢
      repeat' (first|(refine ycf ?_;apply ybk;(·first|(exact tk_));(·rfl);(·rfl))|refine t1_ ?_|(refine ta_ ?_;intro _)|((fail_if_success (refine ybi rfl ?_));refine ybj rfl ?_ ?_<;>(intro ht;rw [ht];first|replace ht := oet_ ht|replace ht := oef_ ht|skip))|(refine ych ?_;first|(refine ybw rfl ?_ ?_<;>intro ht)|(refine ybx rfl ?_ ?_<;>intro ht)))
      exact nx_ret1 rfl (rv_tmp rfl) (fun w' s' => ⟨(h, .slice none 0 0, v), rfl, s', Sc.nil h 1 none 0, hv⟩)
  · rw [if_pos he]
    have hdead := dead_sp bi v e h
    rw [decide_eq_true he] at hdead
    repeat' (first|(refine ycf ?_;apply ybk;(·first|(exact tk_));(·rfl);(·rfl))|refine t1_ ?_|(refine ta_ ?_;intro _)|((fail_if_success (refine ybi rfl ?_));refine ybj rfl ?_ ?_<;>(intro ht;rw [ht];first|replace ht := oet_ ht|replace ht := oef_ ht|skip))|(refine ych ?_;first|(refine ybw rfl ?_ ?_<;>intro ht)|(refine ybx rfl ?_ ?_<;>intro ht)))
    (refine rx_call_m (ycp Tryz.func72 rfl (by kernel_rfl) rfl) (perm_at (k := 0) rfl) (hdead) rfl rfl rfl ?_ ?_ ?_; (· (exact to_)); (· intro _ _ hle; (exact to_)); intro x px hle)
    repeat' (first|(refine ycf ?_;apply ybk;(·first|(exact tk_));(·rfl);(·rfl))|refine t1_ ?_|(refine ta_ ?_;intro _)|((fail_if_success (refine ybi rfl ?_));refine ybj rfl ?_ ?_<;>(intro ht;rw [ht];first|replace ht := oet_ ht|replace ht := oef_ ht|skip))|(refine ych ?_;first|(refine ybw rfl ?_ ?_<;>intro ht)|(refine ybx rfl ?_ ?_<;>intro ht)))
    exact nx_ret1 rfl (rv_tmp rfl) (fun w' s' => ⟨(h, .slice none 0 0, v), rfl, s', Sc.nil h 1 none 0, hv⟩)
theorem qv_neq_pnil {P : Program} {n : Nat} {F : List (Nat × Value)} {h : View} {L : List Res} {dst : Option Nat} {ty : Nat} {pos : String} {af : Array Edge} {gd : Option (Nat × Bool)} {T T' e : Nat} {x y : Operand} {ad : Addr} [tu : TyU P T (.pointer e)] (hx : ev F x = some (.pointer (some ad))) (hy : ev F y = some (.pointer none)) :
    QV P n F h L ⟨dst, .binOp .neq T x y T', ty, pos, af, gd⟩ (.bool true) := by
  refine .mk fun a w f s => ?_
  have hp : P.underlying T = some (.pointer (P.pointee T)) := by
    have := tu.u
    simp [Program.pointee, this]
  have hg : (eqGuard .neq T x y (.pointer (some ad)) (.pointer none)).run P w = .ok () w := by simp [eqGuard]
  have he := run_equal_pointer_nil (P := P) (w := w) T (some ad) hp
  simp only [execOp, f.ev hx, f.ev hy, Sem.run_bind, hg, Result.andThen_ok, binOp, he]
  rfl
theorem OutFixed_sp (bo : Nat) (v : Value) (l : List Int) (bad : Bool) (bv : Value) (b : List Int) (hl : l.length + b.length ≤ 1000000) (h : View) (hb : Bs8 h bv b) (w : World) (s : St ⟨w, h, doms [outR bo v bad, rowB v l]⟩ h [outR bo v bad, rowB v l] w) :
    Calls Tryz.prog 56 [.pointer (some ⟨bo, 0, none⟩), bv].toArray w fun e w' => ∃ x : Value, e = .returned (.pointer (some ⟨bo, 0, none⟩)) ∧
      St ⟨w, h, doms [outR bo v bad, rowB v l]⟩ h [outR bo x bad, rowB x (l ++ b)] w' ∧ True := by
  obtain ⟨_, ad, cap, rfl, hcap, _⟩ := id hb
  refine calls_enter Tryz.func56 rfl Tryz.ntmps56 rfl s ?_
  repeat' (first|(refine ycf ?_;apply ybk;(·first|(first|(apply qv_neq_pnil<;>rfl)|(apply qv_nilCheck;rfl)));(·rfl);(·rfl))|refine t1_ ?_|(refine ta_ ?_;intro _)|((fail_if_success (refine ybi rfl ?_));refine ybj rfl ?_ ?_<;>(intro ht;rw [ht];first|replace ht := oet_ ht|replace ht := oef_ ht|skip))|(refine ych ?_;first|(refine ybw rfl ?_ ?_<;>intro ht)|(refine ybx rfl ?_ ?_<;>intro ht)))
  refine rx_append_sc (sz := 1) 1 rfl rfl rfl hb (bcs_one b) rfl (by omega) (by unfold maxLen; omega) (by omega) rfl rfl rfl ybf (fun _ => ybf) ?_
  intro v2 hv2
  refine rx_rowform 1 rfl (fun q1 q2 q3 => ?_) ?_
  · subst q1
    have hl0 : l = [] := List.eq_nil_of_length_eq_zero (by omega)
    have hb0 : b = [] := List.eq_nil_of_length_eq_zero (by omega)
    subst hl0
    subst hb0
    repeat' (first|(refine ycf ?_;apply ybk;(·first|(first|(apply qv_neq_pnil<;>rfl)|(apply qv_nilCheck;rfl)));(·rfl);(·rfl))|refine t1_ ?_|(refine ta_ ?_;intro _)|((fail_if_success (refine ybi rfl ?_));refine ybj rfl ?_ ?_<;>(intro ht;rw [ht];first|replace ht := oet_ ht|replace ht := oef_ ht|skip))|(refine ych ?_;first|(refine ybw rfl ?_ ?_<;>intro ht)|(refine ybx rfl ?_ ?_<;>intro ht)))
    exact nx_ret1 rfl (rv_tmp rfl) (fun w' s' => ⟨_, rfl, s', trivial⟩)
  rintro g2 cap2 rfl
  repeat' (first|(refine ycf ?_;apply ybk;(·first|(first|(apply qv_neq_pnil<;>rfl)|(apply qv_nilCheck;rfl)));(·rfl);(·rfl))|refine t1_ ?_|(refine ta_ ?_;intro _)|((fail_if_success (refine ybi rfl ?_));refine ybj rfl ?_ ?_<;>(intro ht;rw [ht];first|replace ht := oet_ ht|replace ht := oef_ ht|skip))|(refine ych ?_;first|(refine ybw rfl ?_ ?_<;>intro ht)|(refine ybx rfl ?_ ?_<;>intro ht)))
  refine nx_ret1 rfl (rv_tmp rfl) (fun w' s' => ⟨.slice (some ⟨g2, 0, none⟩) (l.length + b.length) cap2, rfl, ?_, trivial⟩)
  unfold rowB
  rw [List.length_append, bcs_app]
  exact s'
theorem OutBytes_sp (bo : Nat) (v : Value) (l : List Int) (bad : Bool) (bv : Value) (b : List Int) (hl : l.length + 4 + b.length ≤ 1000000) (h : View) (hb : Bs8 h bv b) (w : World) (s : St ⟨w, h, doms [outR bo v bad, rowB v l]⟩ h [outR bo v bad, rowB v l] w) :
    Calls Tryz.prog 25 [.pointer (some ⟨bo, 0, none⟩), bv].toArray w fun e w' => ∃ x : Value, e = .returned (.pointer (some ⟨bo, 0, none⟩)) ∧
      St ⟨w, h, doms [outR bo v bad, rowB v l]⟩ h [outR bo x bad, rowB x (l ++ num4 b.length ++ b)] w' ∧ True := by
  obtain ⟨_, ad, cap, rfl, hcap, _⟩ := id hb
  refine calls_enter Tryz.func25 rfl Tryz.ntmps25 rfl s ?_
  repeat' (first|(refine ycf ?_;apply ybk;(·first|(first|(apply qv_neq_pnil<;>rfl)|(apply qv_nilCheck;rfl)));(·rfl);(·rfl))|refine t1_ ?_|(refine ta_ ?_;intro _)|((fail_if_success (refine ybi rfl ?_));refine ybj rfl ?_ ?_<;>(intro ht;rw [ht];first|replace ht := oet_ ht|replace ht := oef_ ht|skip))|(refine ych ?_;first|(refine ybw rfl ?_ ?_<;>intro ht)|(refine ybx rfl ?_ ?_<;>intro ht)))
  (refine rx_call_2 (ycp Tryz.func54 rfl (by kernel_rfl) rfl) (put_sp bo v l bad b.length 4 true (fun _ => by omega) (by omega) (by omega) (by omega) (by omega) h) rfl rfl rfl ?_ ?_ ?_; (· (exact to_)); (· intro _ _ hle; (exact to_)); intro x px hle)
  rw [Bool.not_true, Bool.or_false, if_pos rfl]
  repeat' (first|(refine ycf ?_;apply ybk;(·first|(first|(apply qv_neq_pnil<;>rfl)|(apply qv_nilCheck;rfl)));(·rfl);(·rfl))|refine t1_ ?_|(refine ta_ ?_;intro _)|((fail_if_success (refine ybi rfl ?_));refine ybj rfl ?_ ?_<;>(intro ht;rw [ht];first|replace ht := oet_ ht|replace ht := oef_ ht|skip))|(refine ych ?_;first|(refine ybw rfl ?_ ?_<;>intro ht)|(refine ybx rfl ?_ ?_<;>intro ht)))
  (refine rx_call_2 (ycp Tryz.func56 rfl (by kernel_rfl) rfl) (OutFixed_sp bo x (l ++ num4 b.length) bad _ b (by rw [List.length_append, num4_len]; omega) h hb) rfl rfl rfl ?_ ?_ ?_; (· (exact to_)); (· intro _ _ hle; (exact to_)); intro x px hle)
  repeat' (first|(refine ycf ?_;apply ybk;(·first|(first|(apply qv_neq_pnil<;>rfl)|(apply qv_nilCheck;rfl)));(·rfl);(·rfl))|refine t1_ ?_|(refine ta_ ?_;intro _)|((fail_if_success (refine ybi rfl ?_));refine ybj rfl ?_ ?_<;>(intro ht;rw [ht];first|replace ht := oet_ ht|replace ht := oef_ ht|skip))|(refine ych ?_;first|(refine ybw rfl ?_ ?_<;>intro ht)|(refine ybx rfl ?_ ?_<;>intro ht)))
  exact nx_ret1 rfl (rv_tmp rfl) (fun w' s' => ⟨x, rfl, s', trivial⟩)
section
variable {P : Program} {n : Nat} {F : List (Nat × Value)} {h : View} {L : List Res} {dst : Option Nat} {ty : Nat} {pos : String} {af : Array Edge} {gd : Option (Nat × Bool)}
end
theorem rBytes_sp (b : List Int) (hl : b.length ≤ 900000) (h : View) (w : World) (s : St ⟨w, h, []⟩ h [] w) :
    Calls Tryz.prog 48 [.string (bstr b)].toArray w fun e w' => e = .returned (.string (bstr (num4 b.length ++ b))) ∧ St ⟨w, h, []⟩ h [] w' := by
  have hw := wrap_u64 (n := (b.length : Int)) (by omega) (by omega)
  have hcat : bstr (num4 (b.length : Int)) ++ bstr b = bstr (num4 (b.length : Int) ++ b) := bstr_app _ _
  have hsz : (bstr (num4 (b.length : Int))).size + (bstr b).size < 1000000 := by rw [bstr_size, bstr_size, num4_len]; omega
  refine calls_enter Tryz.func48 rfl Tryz.ntmps48 rfl s ?_
  repeat' (first|(refine ycf ?_;apply ybk;(·first|(first|exact qv_len_bstr rfl|exact qv_convert_int' rfl hw|exact qv_str_add rfl rfl hcat hsz));(·rfl);(·rfl))|refine t1_ ?_|(refine ta_ ?_;intro _)|((fail_if_success (refine ybi rfl ?_));refine ybj rfl ?_ ?_<;>(intro ht;rw [ht];first|replace ht := oet_ ht|replace ht := oef_ ht|skip))|(refine ych ?_;first|(refine ybw rfl ?_ ?_<;>intro ht)|(refine ybx rfl ?_ ?_<;>intro ht)))
  (refine ycn (ycp Tryz.func76 rfl (by kernel_rfl) rfl) (Put_sp b.length 4 ⟨by omega, by omega⟩ (by omega) h) rfl rfl rfl ?_ ?_; (· (exact to_)))
  repeat' (first|(refine ycf ?_;apply ybk;(·first|(first|exact qv_len_bstr rfl|exact qv_convert_int' rfl hw|exact qv_str_add rfl rfl hcat hsz));(·rfl);(·rfl))|refine t1_ ?_|(refine ta_ ?_;intro _)|((fail_if_success (refine ybi rfl ?_));refine ybj rfl ?_ ?_<;>(intro ht;rw [ht];first|replace ht := oet_ ht|replace ht := oef_ ht|skip))|(refine ych ?_;first|(refine ybw rfl ?_ ?_<;>intro ht)|(refine ybx rfl ?_ ?_<;>intro ht)))
  exact nx_ret1 rfl (rv_tmp rfl) (fun w' s' => ⟨rfl, s'.nil⟩)
end Go.Proofs.YtkkjppeaaicgaaaGreatDoor
end

section
namespace Go.Proofs.YtkkjppeaaicgaaaGreatDoor
open Go Go.Ck Go.Shelf
set_option maxRecDepth 100000
set_option maxHeartbeats 1000000
set_option linter.unusedVariables false
theorem sorted_uniq {l m k : List Dt} (h1 : l.Perm k) (h2 : SortedD l) (h3 : m.Perm k) (h4 : SortedD m) : l = m := by
  refine List.Perm.eq_of_pairwise (le := fun x y => ¬ ordD y x < 0) (fun a b _ _ h5 h6 => ?_) h2 h4 (h1.trans h3.symm)
  have e1 := ord_lt b a
  have e2 := ord_lt a b
  unfold ltOf at e1 e2
  rw [decide_eq_decide] at e1 e2
  obtain ⟨a1, a2⟩ := a
  obtain ⟨b1, b2⟩ := b
  simp only at e1 e2 h5 h6
  have : a1 = b1 ∧ a2 = b2 := by omega
  rw [this.1, this.2]
end Go.Proofs.YtkkjppeaaicgaaaGreatDoor
end

section
namespace Go.Proofs.YtkkjppeaaicgaaaGreatDoor
open Go Go.Ck Go.Shelf
set_option maxRecDepth 100000
set_option maxHeartbeats 1000000
set_option linter.unusedVariables false
theorem cxc_fit' {u v : List Int} {x y : Value} (hu : u.length = 16) (hv : v.length = 16) : 0 + (Value.agg (cxc u x).toArray).cells.size ≤ (cxv v y).cells.size := by
  have h1 := cxc_sz (x := x) hu
  have h2 : (cxv v y).cells.size = 17 := cxc_sz hv
  omega
theorem cxc_all' {u v : List Int} {x y : Value} (hu : u.length = 16) (hv : v.length = 16) : (Value.agg (cxc u x).toArray).cells.toList.length = (cxv v y).cells.toList.length := by
  have h1 := cxc_all (x := x) hu
  have h2 : (cxv v y).cells.toList.length = 17 := cxc_all hv
  omega
theorem more_at {u : List Int} {l : List Dt} (hk : checkC u l = 0) {i : Nat} (hi : i < l.length) : uD u l[i] + 1 < l[i].2 ∧ (∀ (hj : i ≠ 0), ordD l[i - 1] l[i] < 0) := by
  unfold checkC at hk
  split at hk
  · cases hk
  split at hk
  · cases hk
  split at hk
  · cases hk
  · rename_i _ _ h3
    have h3 : moresOk u l = true := by simpa using h3
    have := List.all_eq_true.1 h3 i (List.mem_range.2 hi)
    simp only [moreB, Bool.and_eq_true, Bool.or_eq_true, decide_eq_true_iff] at this
    have e1 : l.getD i (0, 0) = l[i] := by simp [hi]
    have e2 : l.getD (i - 1) (0, 0) = l[i - 1] := by simp [show i - 1 < l.length by omega]
    rw [e1, e2] at this
    exact ⟨this.1.2, fun hj => this.2.resolve_left hj⟩
theorem ord_iff {x y : Dt} : ordD x y < 0 ↔ (x.1 < y.1 ∨ x.1 = y.1 ∧ x.2 < y.2) := by
  have := ord_lt x y
  unfold ltOf at this
  rwa [decide_eq_decide] at this
theorem more_sorted {u : List Int} {l : List Dt} (hk : checkC u l = 0) : ∀ (j i : Nat) (hj : j < l.length) (hij : i < j), ordD l[i] l[j] < 0 := by
  intro j
  induction j with
  | zero => intro i _ h; omega
  | succ j ih =>
    intro i hj hij
    have h1 := (more_at hk hj).2 (by omega)
    simp only [Nat.add_sub_cancel] at h1
    by_cases e : i = j
    · subst e; exact h1
    · have h2 := ih i (by omega) (by omega)
      rw [ord_iff] at h1 h2 ⊢
      omega
end Go.Proofs.YtkkjppeaaicgaaaGreatDoor
end

section
namespace Go.Ck
open Go
set_option linter.unusedVariables false
set_option linter.unusedSimpArgs false
section
variable {P : Program} {n : Nat} {K : Bs} {F : List (Nat × Value)} {h : View} {L : List Res} {Q : Exit → Act → World → Prop}
variable {dst : Option Nat} {ty : Nat} {pos : String} {af : Array Edge} {gd : Option (Nat × Bool)}
theorem own_cut {w : World} {e : TypeId} {sz m cap g j : Nat} {xs : List Value} (ho : w.ownsRow 0 e sz (.slice (some ⟨g, 0, none⟩) m cap) m xs) (hj : j ≤ m) : w.ownsRow 0 e sz (.slice (some ⟨g, 0, none⟩) j cap) j (xs.take (j * sz)) := by
  have hjm : j * sz ≤ m * sz := Nat.mul_le_mul_right _ hj
  refine ⟨by rw [List.length_take, ho.1]; omega, ?_⟩
  rcases ho.2 with ⟨q1, q2⟩ | ⟨g', cap', cur, q1, q2, q3, q4, q5, q6, q7⟩
  · cases q1
  · cases q1
    refine .inr ⟨g, cap, cur, rfl, q2, q3, by omega, q5, q6, ?_⟩
    rw [← q7, List.take_take]
    congr 1
    omega
theorem St.cut {w : World} {e : TypeId} {sz m cap g j k : Nat} {xs : List Value} (s : St K h L w) (hk : L[k]? = some (Res.row e sz (.slice (some ⟨g, 0, none⟩) m cap) m xs)) (hj : j ≤ m) : St K h (L.set k (Res.row e sz (.slice (some ⟨g, 0, none⟩) j cap) j (xs.take (j * sz)))) w := by
  have ho : w.ownsRow 0 e sz (.slice (some ⟨g, 0, none⟩) m cap) m xs := s.hd.own _ (List.mem_of_getElem? hk)
  refine s.swap hk rfl rfl rfl (Nat.le_refl _) (Nat.le_refl _) (fun _ _ _ => rfl) (own_cut ho hj) ?_ (fun b hb => .inl ?_)
  · simp [Res.row, Value.ownBlock]
  · have hb : b = g := by simpa [Res.row, Value.ownBlock] using hb
    subst hb
    simp [Res.row, Value.ownBlock]
theorem rx_cut {g' : Rg} {prs : List (Nat × Oper)} {e : TypeId} {sz m cap g : Nat} {xs : List Value} (k j : Nat) (hk : L[k]? = some (Res.row e sz (.slice (some ⟨g, 0, none⟩) m cap) m xs)) (hj : j ≤ m)
    (hx : RX P n K g' prs F h (L.set k (Res.row e sz (.slice (some ⟨g, 0, none⟩) j cap) j (xs.take (j * sz)))) Q) : RX P n K g' prs F h L Q := by
  unfold RX at *
  exact fun a w f s => hx a w f (s.cut hk hj)
theorem rx_row {g' : Rg} {prs : List (Nat × Oper)} (e : TypeId) (k : Nat) (hx : RX P n K g' prs F h (Res.row e k (.slice none 0 0) 0 [] :: L) Q) : RX P n K g' prs F h L Q := by
  unfold RX at *
  exact fun a w f s => hx a w f (s.rowNil e k)
theorem rx_grow_nil {g : Rg} {i : Nat} {r : List (Nat × Oper)} {T Ti e : Nat} {x y : Operand} {z : Value} {sz by' m : Nat} {kn : IntKind} (k : Nat) [tu : TyU P T (.slice e)] [ti : TyU P Ti (.int kn)] [tb : TyB P e z sz by'] (hx : ev F x = some (.slice none 0 0)) (hy : ev F y = some (.int .i64 m))
    (hk : L[k]? = some (Res.row e sz (.slice none 0 0) 0 [])) (hm : 0 < m) (hzs : z.cells.size = sz) (hsz : 0 < sz) (h63 : m ≤ maxLen) (hbytes : m * by' ≤ 140737488355328)
    (hw : wantedF g.ops F ⟨dst, .call ⟨.builtin .append, #[x, y], #[T, Ti]⟩, ty, pos, af, gd⟩ = some true) (hd : okd n dst = true) (hlo : g.lo i = true) (o1 : Owe g i h L)
    (o2 : ∀ b cap, Owe g i h (L.set k (Res.row e sz (.slice (some ⟨b, 0, none⟩) m cap) m (Builtin.zeroCells z.cells m).toList)))
    (hn : ∀ b cap, m ≤ cap → cap ≤ maxLen → RX P n K g r (putF dst (.slice (some ⟨b, 0, none⟩) m cap) F) h (L.set k (Res.row e sz (.slice (some ⟨b, 0, none⟩) m cap) m (Builtin.zeroCells z.cells m).toList)) Q) :
    RX P n K g ((i, ⟨dst, .call ⟨.builtin .append, #[x, y], #[T, Ti]⟩, ty, pos, af, gd⟩) :: r) F h L Q := by
  unfold RX at *
  intro a w f s
  obtain ⟨ii, hi, hz, hsize, hby⟩ := tb.ex
  subst hsize
  subst hby
  have h63i : (m : Int) ≤ 9223372036854775807 := by simp only [maxLen] at h63; omega
  have hr := Lib.run_append_nil_zeros (P := P) w T Ti ty e ii z .i64 kn tu.u ti.u hi hz m hm hsz h63i (by omega)
  have hge := grownCap_ge w m 0 e
  have hcm : grownCap w m 0 e ≤ maxLen := grownCap_le_maxLen w m 0 e h63
  generalize grownCap w m 0 e = cap at hr hge hcm
  have s' : St K h (L.set k (Res.row e ii.size (.slice (some ⟨w.heap.size, 0, none⟩) m cap) m (Builtin.zeroCells z.cells m).toList)) (w.drew.alloc (.cells (Builtin.zeroCells z.cells m ++ Builtin.zeroCells z.cells (cap - m)) e)) := by
    refine s.swap hk rfl rfl rfl (Nat.le_succ _) (by simp) (fun j hj _ => Go.RowKit.Below.heap_alloc w.drew _ j hj) ⟨?_, .inr ⟨w.heap.size, cap, _, rfl, Nat.zero_le _, heap_alloc_new w.drew _, hge, hcm, ?_, ?_⟩⟩ ?_ (fun b hb => .inr ?_)
    · simp [size_zeroCells, hzs]
    · simp only [Array.size_append, size_zeroCells, hzs, ← Nat.add_mul]
      congr 1
      omega
    · simp only [Array.toList_append]
      have : (Builtin.zeroCells z.cells m).toList.length = m * ii.size := by simp [size_zeroCells, hzs]
      rw [← this]
      exact List.take_left
    · simp [Res.row, Value.ownBlock]
    · have hb : b = w.heap.size := by simpa [Res.row, Value.ownBlock] using hb
      omega
  refine .inr (.inr ⟨wantedF_ok f hw, hlo, o1.out s, ?_⟩)
  unfold Oper.wp
  have : (execOp a.eval ⟨dst, .call ⟨.builtin .append, #[x, y], #[T, Ti]⟩, ty, pos, af, gd⟩).run P w = .ok (.value (.slice (some ⟨w.heap.size, 0, none⟩) m cap)) (w.drew.alloc (.cells (Builtin.zeroCells z.cells m ++ Builtin.zeroCells z.cells (cap - m)) e)) := by
    simp [execOp, resolve, invoke, builtin, f.ev hx, f.ev hy, hr]
  rw [this]
  exact ⟨(o2 _ cap).out s', hn _ cap hge hcm _ _ (f.put hd _) s'⟩
end
end Go.Ck
end

section
namespace Go.Proofs.YtkkjppeaaicgaaaGreatDoor
open Go Go.Ck
set_option maxRecDepth 100000
set_option maxHeartbeats 1000000
set_option linter.unusedVariables false
theorem qv_max' {P : Program} {n : Nat} {F : List (Nat × Value)} {h : View} {L : List Res} {dst : Option Nat} {ty : Nat} {pos : String} {af : Array Edge} {gd : Option (Nat × Bool)} {ts : Array TypeId} {x y : Operand} {k : IntKind} {i j r : Int} (hx : ev F x = some (.int k i)) (hy : ev F y = some (.int k j)) (hr : (if j > i then j else i) = r) :
    QV P n F h L ⟨dst, .call ⟨.builtin .max, #[x, y], ts⟩, ty, pos, af, gd⟩ (.int k r) := by
  subst hr
  exact .mk fun a w f s => by simp [execOp, resolve, invoke, builtin, Builtin.max_, f.ev hx, f.ev hy, Builtin.max2]
def maxI (i j : Int) : Int := if j > i then j else i
def maxU (u v : List Int) : List Int := List.zipWith maxI u v
def maxK (u v : List Int) (k : Nat) : List Int := (maxU u v).take k ++ u.drop k
theorem maxU_len {u v : List Int} (hu : u.length = 16) (hv : v.length = 16) : (maxU u v).length = 16 := by simp [maxU, hu, hv]
theorem maxU_at {u v : List Int} (hu : u.length = 16) (hv : v.length = 16) (i : Nat) : (maxU u v).getD i 0 = maxI (u.getD i 0) (v.getD i 0) := by
  by_cases hi : i < 16
  · have h1 : i < u.length := by omega
    have h2 : i < v.length := by omega
    simp [maxU, List.getElem?_zipWith, h1, h2]
  · have h1 : u[i]? = none := List.getElem?_eq_none (by omega)
    have h2 : v[i]? = none := List.getElem?_eq_none (by omega)
    have h3 : (maxU u v)[i]? = none := List.getElem?_eq_none (by rw [maxU_len hu hv]; omega)
    simp [List.getD_eq_getElem?_getD, h1, h2, h3, maxI]
theorem maxK_len {u v : List Int} {k : Nat} (hu : u.length = 16) (hv : v.length = 16) (hk : k ≤ 16) : (maxK u v k).length = 16 := by
  simp [maxK, maxU_len hu hv, hu]; omega
theorem maxK_at {u v : List Int} {k : Nat} (hu : u.length = 16) (hv : v.length = 16) (hk : k < 16) : (maxK u v k).getD k 0 = u.getD k 0 := by
  unfold maxK
  have h1 : ((maxU u v).take k).length = k := by simp [maxU_len hu hv]; omega
  rw [List.getD_eq_getElem?_getD, List.getElem?_append_right (by omega), h1, Nat.sub_self, List.getElem?_drop, Nat.add_zero, ← List.getD_eq_getElem?_getD]
theorem maxK_set {u v : List Int} {k : Nat} (hu : u.length = 16) (hv : v.length = 16) (hk : k < 16) : (maxK u v k).set k (maxI (u.getD k 0) (v.getD k 0)) = maxK u v (k + 1) := by
  unfold maxK
  have h1 : ((maxU u v).take k).length = k := by simp [maxU_len hu hv]; omega
  have hkm : k < (maxU u v).length := by rw [maxU_len hu hv]; omega
  rw [List.set_append_right _ _ (by omega), h1, Nat.sub_self, List.drop_eq_getElem_cons (by omega : k < u.length), List.set_cons_zero, List.take_succ_eq_append_getElem hkm, ← maxU_at hu hv k]
  rw [List.getD_eq_getElem?_getD, List.getElem?_eq_getElem hkm, Option.getD_some, List.append_assoc]
  rfl
theorem spl_up {u : List Int} {x : Int} {i o : Nat} (ho : o = i) (hi : i < u.length) : spl (up u).toArray.toList o (Value.int .i64 x).cells.toList = up (u.set i x) := by
  subst ho
  show (up u).take o ++ [Value.int .i64 x] ++ (up u).drop (o + 1) = up (u.set o x)
  have hl : (up u).length = u.length := by simp [up]
  unfold up
  rw [List.map_set, List.set_eq_take_append_cons_drop, if_pos (by simpa using hi)]
  simp
theorem cell_upx {h : View} {L : List Res} {b o : Nat} {u : List Int} (c : Cells h L ⟨b, 0, none⟩ (up u)) (i : Nat) (ho : o = 0 + i) (hi : i < u.length) : CellAt h L b o (.int .i64 (u.getD i 0)) := by
  rw [ho]
  exact c.cell (by simp [up, hi])
theorem cell_upy {h : View} {L : List Res} {b o i : Nat} {u : List Int} {x : Int} (hx : u.getD i 0 = x) (c : Cells h L ⟨b, 0, none⟩ (up u)) (ho : o = 0 + i) (hi : i < u.length) : CellAt h L b o (.int .i64 x) := by
  rw [← hx]
  exact cell_upx c i ho hi
theorem fit_up {u : List Int} {x : Int} {i o : Nat} (ho : o = i) (hi : i < u.length) : o + (Value.int .i64 x).cells.size ≤ (up u).toArray.size := by
  show o + 1 ≤ _
  simp [up]; omega
theorem max_bd {u v : List Int} (hu : u.length = 16) (hv : v.length = 16) (h1 : ∀ x ∈ u, 0 ≤ x ∧ x ≤ 1099511627776) (h2 : ∀ x ∈ v, 0 ≤ x ∧ x ≤ 1099511627776) : ∀ x ∈ maxU u v, 0 ≤ x ∧ x ≤ 1099511627776 := fun x hx => by
  obtain ⟨i, hi, rfl⟩ := List.getElem_of_mem hx
  have h16 : i < 16 := by rw [maxU_len hu hv] at hi; exact hi
  have e := maxU_at hu hv i
  rw [List.getD_eq_getElem?_getD, List.getElem?_eq_getElem hi] at e
  simp only [Option.getD_some] at e
  rw [e]
  have a := h1 _ (getD_mem (u := u) (i := i) (by omega))
  have b := h2 _ (getD_mem (u := v) (i := i) (by omega))
  unfold maxI
  split <;> assumption
theorem maxK_all {u v : List Int} (hu : u.length = 16) (hv : v.length = 16) : maxK u v 16 = maxU u v := by
  unfold maxK
  rw [List.take_of_length_le (by rw [maxU_len hu hv]; omega), List.drop_eq_nil_of_le (by omega), List.append_nil]
end Go.Proofs.YtkkjppeaaicgaaaGreatDoor
end

section
namespace Go.Proofs.YtkkjppeaaicgaaaGreatDoor
open Go Go.Ck
set_option maxRecDepth 100000
set_option maxHeartbeats 2000000
set_option linter.unusedVariables false
def rdS (l : List Int) : Bool × List Int × List Dt := if endC (rdC l).2.2 = 0 ∧ checkC (rdC l).1 (rdC l).2.1 = 0 then (true, (rdC l).1, (rdC l).2.1) else (false, zeroU, [])
theorem rdS_ok {l : List Int} (hb : Bytes l) (hl : l.length ≤ 1000000) : ((rdS l).1 = true → checkC (rdS l).2.1 (rdS l).2.2 = 0 ∧ encW (rdS l).2.1 (rdS l).2.2 = l) ∧ (rdS l).2.2.length ≤ 32 := by
  unfold rdS
  split
  · rename_i hx
    obtain ⟨h1, h2, h3⟩ := rd_took hb hl hx.1
    exact ⟨fun _ => ⟨hx.2, h1⟩, h3⟩
  · exact ⟨fun hx => (by cases hx), Nat.zero_le _⟩
theorem Read_s (sv : Value) (l : List Int) (hb : Bytes l) (hl : l.length ≤ 1000000) (h : View) (hs : Bs8 h sv l) (w : World) (s : St ⟨w, h, []⟩ h [] w) :
    Calls Tryz.prog 43 [sv].toArray w fun en w' => ∃ x : View × Value, en = .returned (.tuple #[x.2, .int .i64 (if (rdS l).1 = true then 0 else 2)]) ∧ St ⟨w, h, []⟩ x.1 [] w' ∧ Cx x.1 x.2 (rdS l).2.1 (rdS l).2.2 := by
  refine (Read_sp sv l hb hl h hs w s).mono ?_
  rintro en w' ⟨⟨h1, v, e⟩, he, hst, px⟩
  dsimp only at he hst px
  unfold rdS
  split at px <;> rename_i hx
  · obtain ⟨rfl, hc⟩ := px
    rw [if_pos hx]
    exact ⟨(h1, v), he, hst, hc⟩
  · obtain ⟨rfl, hc⟩ := px
    rw [if_neg hx]
    exact ⟨(h1, v), he, hst, hc⟩
end Go.Proofs.YtkkjppeaaicgaaaGreatDoor
end

section
namespace Go.Ck
open Go
set_option linter.unusedVariables false
section
variable {P : Program} {ops : Array Oper} {S : World → Prop} {lo bar : Nat → Bool} {fl : Nat → Bool}
def wpG (P : Program) (ops : Array Oper) (S : World → Prop) (lo bar fl : Nat → Bool) (Q : Act → World → Prop) : Nat → List (Nat × Oper) → Act → World → Prop
  | _, [], a, w => Q a w
  | 0, _ :: _, _, _ => False
  | n + 1, (i, o) :: r, a, w => R1 P ops S (lo i) (bar i) o (wpG P ops S lo bar fl Q n r) a w ∧
      (lo i = true → ∀ l1 y oy l2, r = l1 ++ (y, oy) :: l2 → fl y = true → R1 P ops S (lo y) (bar y) oy (wpG P ops S lo bar fl Q n ((i, o) :: (l1 ++ l2))) a w)
theorem R1_all {b : Bool} {o : Oper} {ι : Prop} {κ : Type} {K : Act → World → Prop} {K' : κ → Act → World → Prop} {a : Act} {w : World} (h1 : R1 P ops S false b o K a w) (h2 : ι → ∀ x, R1 P ops S false b o (K' x) a w) :
    R1 P ops S false b o (fun a w => K a w ∧ (ι → ∀ x, K' x a w)) a w := by
  rcases h1 with ⟨h0, hk⟩ | ⟨h0, hS, v, hv, hk⟩ | ⟨_, hl, _⟩
  · refine .inl ⟨h0, hk, fun hi x => ?_⟩
    rcases h2 hi x with ⟨_, k⟩ | ⟨g0, _⟩ | ⟨_, hl, _⟩
    · exact k
    · rw [h0] at g0; cases g0
    · cases hl
  · refine .inr (.inl ⟨h0, hS, v, hv, hk, fun hi x => ?_⟩)
    rcases h2 hi x with ⟨g0, _⟩ | ⟨_, gS, v', hv', k⟩ | ⟨_, hl, _⟩
    · rw [h0] at g0; cases g0
    · have e1 := (hv w hS).symm.trans (hv' w gS)
      have e2 : v = v' := by
        simp only [Result.ok.injEq, and_true] at e1
        cases e1; rfl
      rw [e2]; exact k
    · cases hl
  · cases hl
def Pass (ops : Array Oper) (lo bar : Nat → Bool) (p : Nat × Oper) (i : Nat) (o : Oper) : Prop :=
  p.2.apart ops o = true ∧ (lo i && lo p.1) = false ∧ bar i = false ∧ bar p.1 = false ∧ (∀ cs b, o.op ≠ .select cs b) ∧ (∀ cs b, p.2.op ≠ .select cs b)
theorem Pass.swap {p : Nat × Oper} {i : Nat} {o : Oper} (h : Pass ops lo bar p i o) {K : Act → World → Prop} {a : Act} {w : World}
    (hr : R1 P ops S (lo p.1) (bar p.1) p.2 (fun a w => R1 P ops S (lo i) (bar i) o K a w) a w) : R1 P ops S (lo i) (bar i) o (fun a w => R1 P ops S (lo p.1) (bar p.1) p.2 K a w) a w := by
  obtain ⟨e1, e2, e3, e4, e5, e6⟩ := h
  exact Ck.swap e1 e5 e6 e2 e3 e4 hr
theorem bringX {Q : Act → World → Prop} {i : Nat} {o : Oper} : ∀ (l1 l2 : List (Nat × Oper)) (n : Nat), (l1 ++ (i, o) :: l2).length = n + 1 → (∀ p ∈ l1, (lo p.1 = false ∧ Pass ops lo bar p i o) ∨ (lo p.1 = true ∧ fl i = true)) →
    ∀ a w, wpG P ops S lo bar fl Q (n + 1) (l1 ++ (i, o) :: l2) a w → R1 P ops S (lo i) (bar i) o (wpG P ops S lo bar fl Q n (l1 ++ l2)) a w
  | [], l2, n, hl, _, a, w, h => h.1
  | (j, oj) :: l1, l2, n, hl, hp, a, w, h => by
    rcases hp (j, oj) (List.mem_cons_self ..) with ⟨hq, hps⟩ | ⟨hq, hfl⟩
    · obtain ⟨m, rfl⟩ : ∃ m, n = m + 1 := ⟨n - 1, by simp at hl; omega⟩
      have h1 := R1.mono (fun a w h => bringX l1 l2 m (by simp at hl ⊢; omega) (fun p hm => hp p (List.mem_cons_of_mem _ hm)) a w h) h.1
      refine R1.mono (fun a' w' h' => ?_) (hps.swap h1)
      exact ⟨h', fun hlo => (by rw [hq] at hlo; cases hlo)⟩
    · exact h.2 hq l1 i o l2 rfl hfl
theorem bringQ {Q : Act → World → Prop} {i : Nat} {o : Oper} (hi : lo i = false) (hif : fl i = false) : ∀ (n : Nat) (l1 l2 : List (Nat × Oper)), (l1 ++ (i, o) :: l2).length = n + 1 → (∀ p ∈ l1, Pass ops lo bar p i o) → (∀ p ∈ l1 ++ l2, fl p.1 = true → Pass ops lo bar p i o) →
    ∀ a w, wpG P ops S lo bar fl Q (n + 1) (l1 ++ (i, o) :: l2) a w → R1 P ops S (lo i) (bar i) o (wpG P ops S lo bar fl Q n (l1 ++ l2)) a w := by
  intro n
  induction n with
  | zero =>
    intro l1 l2 hl hp hf a w h
    cases l1 with
    | nil => exact h.1
    | cons p l1 => simp at hl
  | succ m ih =>
    intro l1 l2 hl hp hf a w h
    cases l1 with
    | nil => exact h.1
    | cons p l1 =>
      obtain ⟨j, oj⟩ := p
      have hps := hp (j, oj) (List.mem_cons_self ..)
      have h1 := R1.mono (fun a w h => ih l1 l2 (by simp at hl ⊢; omega) (fun p hm => hp p (List.mem_cons_of_mem _ hm)) (fun p hm => hf p (List.mem_cons_of_mem _ hm)) a w h) h.1
      have h1' := hps.swap h1
      have h2 : lo j = true → ∀ (x : List (Nat × Oper) × Nat × Oper × List (Nat × Oper)), R1 P ops S (lo i) (bar i) o (fun a w => l1 ++ l2 = x.1 ++ (x.2.1, x.2.2.1) :: x.2.2.2 → fl x.2.1 = true → R1 P ops S (lo x.2.1) (bar x.2.1) x.2.2.1 (wpG P ops S lo bar fl Q m ((j, oj) :: (x.1 ++ x.2.2.2))) a w) a w := by
        rintro hlo ⟨k1, y, oy, k2⟩
        dsimp only
        by_cases hc : l1 ++ l2 = k1 ++ (y, oy) :: k2 ∧ fl y = true
        · obtain ⟨he, hy⟩ := hc
          have hym : (y, oy) ∈ l1 ++ l2 := by rw [he]; simp
          have hpy := hf (y, oy) (List.mem_cons_of_mem _ hym) hy
          have key : ∃ m1 m2 n1 n2, l1 ++ (i, o) :: l2 = m1 ++ (y, oy) :: m2 ∧ m1 ++ m2 = n1 ++ (i, o) :: n2 ∧ n1 ++ n2 = k1 ++ k2 ∧ (∀ p ∈ n1, p ∈ l1) := by
            rcases List.append_eq_append_iff.1 he with ⟨t, e1, e2⟩ | ⟨t, e1, e2⟩
            · exact ⟨l1 ++ (i, o) :: t, k2, l1, t ++ k2, by rw [e2]; simp, by simp, by rw [e1]; simp, fun p h => h⟩
            · cases t with
              | nil =>
                simp only [List.append_nil, List.nil_append] at e1 e2
                exact ⟨l1 ++ [(i, o)], k2, l1, k2, by rw [← e2]; simp, by simp, by rw [e1], fun p h => h⟩
              | cons z t =>
                simp only [List.cons_append, List.cons.injEq] at e2
                obtain ⟨rfl, e2⟩ := e2
                exact ⟨k1, t ++ (i, o) :: l2, k1 ++ t, l2, by rw [e1]; simp, by simp, by rw [e2]; simp, fun p h => by
                  rw [e1]
                  rcases List.mem_append.1 h with h | h
                  · exact List.mem_append_left _ h
                  · exact List.mem_append_right _ (List.mem_cons_of_mem _ h)⟩
          obtain ⟨m1, m2, n1, n2, e1, e2, e3, e4⟩ := key
          have hmem : ∀ p ∈ n1 ++ n2, p ∈ l1 ++ l2 := fun p hp' => by
            rw [e3] at hp'
            rw [he]
            rcases List.mem_append.1 hp' with h | h
            · exact List.mem_append_left _ h
            · exact List.mem_append_right _ (List.mem_cons_of_mem _ h)
          have hlen : (m1 ++ m2).length = (l1 ++ l2).length := by
            have := congrArg List.length e1
            simp at this ⊢; omega
          have hlen2 : (n1 ++ n2).length + 1 = (l1 ++ l2).length := by
            have := congrArg List.length e2
            simp at this hlen ⊢; omega
          have h3 := h.2 hlo m1 y oy m2 e1 hy
          rw [e2] at h3
          have h4 := R1.mono (fun a w h => ih ((j, oj) :: n1) n2 (by simp at hl hlen2 ⊢; omega) (fun p hm => by
            rcases List.mem_cons.1 hm with rfl | hm
            · exact hps
            · exact hp p (List.mem_cons_of_mem _ (e4 p hm))) (fun p hm hfp => by
            rcases List.mem_cons.1 hm with rfl | hm
            · exact hps
            · exact hf p (List.mem_cons_of_mem _ (hmem p hm)) hfp) a w h) h3
          have h5 := hpy.swap h4
          refine R1.mono (fun a' w' h' _ _ => ?_) h5
          have e5 : (j, oj) :: n1 ++ n2 = (j, oj) :: (k1 ++ k2) := by rw [← e3]; rfl
          rw [e5] at h'
          exact h'
        · refine R1.mono (fun a' w' _ e1 e2 => absurd ⟨e1, e2⟩ hc) h1'
      rw [hi] at h1' h2 ⊢
      refine R1.mono (fun a' w' h' => ?_) (R1_all h1' h2)
      exact ⟨h'.1, fun hlo k1 y oy k2 he hy => h'.2 hlo (k1, y, oy, k2) he hy⟩
theorem wpG_plain {Q : Act → World → Prop} : ∀ (l : List (Nat × Oper)), (∀ p ∈ l, fl p.1 = false) → ∀ a w, wpX P ops S lo bar Q l a w → wpG P ops S lo bar fl Q l.length l a w
  | [], _, a, w, h => h
  | (i, o) :: l, hf, a, w, h => ⟨R1.mono (fun a w h => wpG_plain l (fun p hp => hf p (List.mem_cons_of_mem _ hp)) a w h) h, fun _ l1 y oy l2 he hy => by
    have := hf (y, oy) (List.mem_cons_of_mem _ (by rw [he]; simp))
    rw [this] at hy; cases hy⟩
section
variable {ms : List Nat} {rk : Nat → Nat}
theorem float_any {Q : Exit → Act → World → Prop} (hB : lexOkR ops ms lo bar rk (fun j i => lo j && fl i) = true)
    (hF : ∀ i o y oy, ops[i]? = some o → ops[y]? = some oy → lo i = false → fl y = true → (∃ j, j < ops.size ∧ lo j = true ∧ rk j < rk i) → Pass ops lo bar (y, oy) i o) :
    ∀ (fuel : Nat) (prs : List (Nat × Oper)) (listed : Array Bool) (a : Act) (w : World), prs.length ≤ fuel → InvR ops rk listed prs →
      wpG P ops S lo bar fl (Q .normal) prs.length prs a w → wpAny P .any ops Q fuel listed a w := by
  intro fuel
  induction fuel with
  | zero =>
    intro prs listed a w hl inv h
    have : prs = [] := List.eq_nil_of_length_eq_zero (by omega)
    subst this
    refine ⟨?_, h⟩
    cases hr : Region.ready .any ops listed with
    | nil => rfl
    | cons i r =>
      have hi : i ∈ Region.ready .any ops listed := by rw [hr]; exact List.mem_cons_self ..
      obtain ⟨hun, o, ho, _⟩ := mem_ready.1 hi
      obtain ⟨_, hm2⟩ := (inv.left i (Array.getElem?_eq_some_iff.1 ho).1).1 hun
      cases hm2
  | succ fuel ih =>
    intro prs listed a w hl inv h
    refine ⟨fun hr => by rw [headR hB prs listed inv hr] at h; exact h, fun i hi => ?_⟩
    obtain ⟨hun, o, ho, hall⟩ := mem_ready.1 hi
    have hlt := (Array.getElem?_eq_some_iff.1 ho).1
    obtain ⟨o', hm2⟩ := (inv.left i hlt).1 hun
    have : o' = o := by have := inv.pr _ hm2; rw [ho] at this; cases this; rfl
    subst this
    obtain ⟨l1, l2, rfl⟩ := List.append_of_mem hm2
    have hs := inv.sorted
    rw [List.pairwise_append] at hs
    have hlen : (l1 ++ (i, o') :: l2).length = (l1 ++ l2).length + 1 := by simp; omega
    rw [hlen] at h
    have hpass : ∀ p ∈ l1, (lo p.1 && fl i) = false → Pass ops lo bar p i o' := fun p hp hx => passR hB inv ho hi (List.mem_append_left _ hp) (hs.2.2 p hp (i, o') (List.mem_cons_self ..)) hx
    have hb : R1 P ops S (lo i) (bar i) o' (wpG P ops S lo bar fl (Q .normal) (l1 ++ l2).length (l1 ++ l2)) a w := by
      by_cases hfi : fl i = true
      · refine bringX l1 l2 _ hlen (fun p hp => ?_) a w h
        cases hlp : lo p.1 with
        | false => exact .inl ⟨rfl, hpass p hp (by rw [hlp]; rfl)⟩
        | true => exact .inr ⟨rfl, hfi⟩
      · have hfi : fl i = false := by simpa using hfi
        have hpass' : ∀ p ∈ l1, Pass ops lo bar p i o' := fun p hp => hpass p hp (by rw [hfi, Bool.and_false])
        cases hli : lo i with
        | true =>
          rw [← hli]
          refine bringX l1 l2 _ hlen (fun p hp => .inl ⟨?_, hpass' p hp⟩) a w h
          have := (hpass' p hp).2.1
          rw [hli, Bool.true_and] at this
          exact this
        | false =>
          rw [← hli]
          by_cases hloud : ∃ p ∈ l1, lo p.1 = true
          rotate_left
          · refine bringX l1 l2 _ hlen (fun p hp => .inl ⟨?_, hpass' p hp⟩) a w h
            cases hlp : lo p.1 with
            | false => rfl
            | true => exact absurd ⟨p, hp, hlp⟩ hloud
          refine bringQ hli hfi _ l1 l2 hlen hpass' (fun p hp hfp => ?_) a w h
          have hpm : p ∈ l1 ++ (i, o') :: l2 := by
            rcases List.mem_append.1 hp with hp | hp
            · exact List.mem_append_left _ hp
            · exact List.mem_append_right _ (List.mem_cons_of_mem _ hp)
          obtain ⟨pl, hpl, hpl2⟩ := hloud
          have hplo := inv.pr pl (List.mem_append_left _ hpl)
          exact hF i o' p.1 p.2 ho (inv.pr p hpm) hli hfp ⟨pl.1, (Array.getElem?_eq_some_iff.1 hplo).1, hpl2, hs.2.2 pl hpl (i, o') (List.mem_cons_self ..)⟩
    exact (R1.mono (fun a' w' h' => ih (l1 ++ l2) (listed.setIfInBounds i true) a' w' (by simp at hl ⊢; omega) (inv.step hi) h') hb).op ho
end
def flOk (ops : Array Oper) (lo bar fl : Nat → Bool) (rk : Nat → Nat) : Bool :=
  (List.range ops.size).all fun y => !fl y || (!bar y && lo y && (List.range ops.size).all fun i => lo i || ((List.range ops.size).all fun j => !lo j || !decide (rk j < rk i)) || (!bar i && match ops[y]?, ops[i]? with
    | some oy, some oi => oy.apart ops oi
    | _, _ => true))
end
structure Flo where
  i : Nat
  o : Oper
  s : Nat
  f : Nat → Value
  ob : Obj
section
variable {P : Program} {n : Nat} {K : Bs} {g : Rg} {Y : List Flo} {F : List (Nat × Value)} {h : View} {L : List Res} {Q : Exit → Act → World → Prop}
structure FloOk (P : Program) (n : Nat) (g : Rg) (y : Flo) : Prop where
  dst : y.o.dst = some y.s
  okd : okd n (some y.s) = true
  gd : y.o.guard = none
  lo : g.lo y.i = true
  ma : ∀ F h L, MA P n F h L y.o y.f y.ob
end
end Go.Ck
end

section
namespace Go.Ck
open Go
set_option linter.unusedVariables false
section
variable {P : Program} {ops : Array Oper} {S : World → Prop} {lo bar : Nat → Bool}
def wpF (P : Program) (ops : Array Oper) (S : World → Prop) (lo bar : Nat → Bool) (Q : Act → World → Prop) (y : Nat × Oper) (r : List (Nat × Oper)) : List (Nat × Oper) → Act → World → Prop
  | [], a, w => wpX P ops S lo bar Q (y :: r) a w
  | (i, o) :: l, a, w => R1 P ops S (lo i) (bar i) o (wpF P ops S lo bar Q y r l) a w ∧ (lo i = true → wpX P ops S lo bar Q (y :: (i, o) :: (l ++ r)) a w)
theorem wpF_G {Q : Act → World → Prop} {y : Nat × Oper} {r : List (Nat × Oper)} (fl : Nat → Bool) (hr : ∀ p ∈ r, fl p.1 = false) : ∀ (l : List (Nat × Oper)), (∀ p ∈ l, fl p.1 = false) → ∀ a w, wpF P ops S lo bar Q y r l a w → wpG P ops S lo bar fl Q (l ++ y :: r).length (l ++ y :: r) a w
  | [], _, a, w, h => by
    obtain ⟨yi, yo⟩ := y
    refine ⟨R1.mono (fun a w h => wpG_plain r hr a w h) h, fun _ l1 z oz l2 he hz => ?_⟩
    have := hr (z, oz) (by rw [he]; simp)
    rw [this] at hz; cases hz
  | (i, o) :: l, hl, a, w, h => by
    have hl' : ∀ p ∈ l, fl p.1 = false := fun p hp => hl p (List.mem_cons_of_mem _ hp)
    refine ⟨R1.mono (fun a w h => wpF_G fl hr l hl' a w h) h.1, fun hlo l1 z oz l2 he hz => ?_⟩
    replace he : l ++ y :: r = l1 ++ (z, oz) :: l2 := he
    have key : l1 = l ∧ (z, oz) = y ∧ l2 = r := by
      clear h hl
      induction l generalizing l1 with
      | nil =>
        cases l1 with
        | nil =>
          simp only [List.nil_append, List.cons.injEq] at he
          exact ⟨rfl, he.1.symm, he.2.symm⟩
        | cons p l1 =>
          simp only [List.nil_append, List.cons_append, List.cons.injEq] at he
          have := hr (z, oz) (by rw [he.2]; simp)
          rw [this] at hz; cases hz
      | cons q l ih =>
        cases l1 with
        | nil =>
          simp only [List.cons_append, List.nil_append, List.cons.injEq] at he
          have := hl' q (List.mem_cons_self ..)
          rw [he.1] at this
          rw [this] at hz; cases hz
        | cons p l1 =>
          simp only [List.cons_append, List.cons.injEq] at he
          obtain ⟨e1, e2, e3⟩ := ih (fun p hp => hl' p (List.mem_cons_of_mem _ hp)) l1 he.2
          exact ⟨by rw [e1, he.1], e2, e3⟩
    obtain ⟨rfl, rfl, rfl⟩ := key
    have h2 := h.2 hlo
    have e : (l1 ++ (z, oz) :: l2).length = ((i, o) :: (l1 ++ l2)).length := by simp; omega
    show R1 P ops S (lo z) (bar z) oz (wpG P ops S lo bar fl Q (l1 ++ (z, oz) :: l2).length ((i, o) :: (l1 ++ l2))) a w
    rw [e]
    refine R1.mono (fun a w h => wpG_plain _ (fun p hp => ?_) a w h) h2
    rcases List.mem_cons.1 hp with rfl | hp
    · exact hl _ (List.mem_cons_self ..)
    · rcases List.mem_append.1 hp with hp | hp
      · exact hl' p hp
      · exact hr p hp
theorem wpF_app {Q : Act → World → Prop} {y : Nat × Oper} {r l : List (Nat × Oper)} : ∀ (pre : List (Nat × Oper)), (∀ p ∈ pre, lo p.1 = false) → ∀ a w, wpX P ops S lo bar (wpF P ops S lo bar Q y r l) pre a w → wpF P ops S lo bar Q y r (pre ++ l) a w
  | [], _, a, w, h => h
  | (i, o) :: pre, hq, a, w, h => ⟨R1.mono (fun a w h => wpF_app pre (fun p hp => hq p (List.mem_cons_of_mem _ hp)) a w h) h, fun hlo => by
    have := hq (i, o) (List.mem_cons_self ..)
    rw [this] at hlo; cases hlo⟩
def flo1Ok (ops : Array Oper) (ex : List Nat) (pre l : List Nat) (y : Nat) (r : List Nat) : Bool :=
  lexOkR ops (masks ops) (fun i => loOf ops i || ex.contains i) (barOf ops) (rkOf (pre ++ l ++ y :: r)) (fun j i => (loOf ops j || ex.contains j) && Nat.beq i y) && flOk ops (fun i => loOf ops i || ex.contains i) (barOf ops) (fun i => Nat.beq i y) (rkOf (pre ++ l ++ y :: r)) &&
  ((List.range ops.size).all fun i => (pre ++ l ++ y :: r).contains i) && (pre ++ l ++ y :: r).length == ops.size && ((pre ++ l ++ y :: r).all fun i => decide (i < ops.size)) && decide ((pre ++ l ++ y :: r).Pairwise fun i j => rkOf (pre ++ l ++ y :: r) i < rkOf (pre ++ l ++ y :: r) j) &&
  (pre.all fun i => !(loOf ops i || ex.contains i)) && ((pre ++ l ++ r).all fun i => !Nat.beq i y)
theorem wp_region_flo {id : Nat} {Q : Exit → Act → World → Prop} {a : Act} {w : World} (ex pre l : List Nat) (y : Nat) (r : List Nat) (hm : P.follows .mixedOrders = true) (hB : flo1Ok ops ex pre l y r = true)
    (h : wpX P ops S (fun i => loOf ops i || ex.contains i) (barOf ops) (wpF P ops S (fun i => loOf ops i || ex.contains i) (barOf ops) (Q .normal) (y, nthO ops.toList y) (pickL ops.toList r) (pickL ops.toList l)) (pickL ops.toList pre) a w.drew) : (Code.region id ops true).wp P Q a w := by
  simp only [flo1Ok, Bool.and_eq_true] at hB
  obtain ⟨⟨⟨⟨⟨⟨⟨b1, b2⟩, b3⟩, b4⟩, b5⟩, b6⟩, b7⟩, b8⟩ := hB
  have b4 : (pre ++ l ++ y :: r).length = ops.size := by simpa using b4
  have b6 := oet_ b6
  have hpq : ∀ p ∈ pickL ops.toList pre, (fun i => loOf ops i || ex.contains i) p.1 = false := fun p hp => by
    have := List.all_eq_true.1 b7 _ (pickL_mem.1 hp).1
    simpa using this
  have hfl : ∀ m : List Nat, (∀ i ∈ m, i ∈ pre ++ l ++ r) → ∀ p ∈ pickL ops.toList m, (fun i => Nat.beq i y) p.1 = false := fun m hmm p hp => by
    have := List.all_eq_true.1 b8 _ (hmm _ (pickL_mem.1 hp).1)
    simpa using this
  have hF := wpF_app (P := P) (ops := ops) (S := S) (Q := Q .normal) (y := (y, nthO ops.toList y)) (r := pickL ops.toList r) (l := pickL ops.toList l) (pickL ops.toList pre) hpq a w.drew h
  rw [← pickL_append] at hF
  have hG := wpF_G (fun i => Nat.beq i y) (hfl r (fun i hi => by simp [hi])) (pickL ops.toList (pre ++ l)) (hfl (pre ++ l) (fun i hi => List.mem_append_left _ hi)) a w.drew hF
  have hpk : pickL ops.toList (pre ++ l) ++ (y, nthO ops.toList y) :: pickL ops.toList r = pickL ops.toList (pre ++ l ++ y :: r) := by
    rw [pickL_append (pre ++ l)]; rfl
  rw [hpk] at hG
  refine wp_region_any hm (float_any (rk := rkOf (pre ++ l ++ y :: r)) b1 (fun i o y' oy hi hy hli hfy hlj => ?_) _ (pickL ops.toList (pre ++ l ++ y :: r)) _ a _ ?_ ⟨?_, ?_, ?_, ?_, ?_⟩ hG)
  · have hil := (Array.getElem?_eq_some_iff.1 hi).1
    have hyl := (Array.getElem?_eq_some_iff.1 hy).1
    have h1 := List.all_eq_true.1 b2 y' (List.mem_range.2 hyl)
    simp only [hfy, Bool.not_true, Bool.false_or, Bool.and_eq_true] at h1
    have h2 := List.all_eq_true.1 h1.2 i (List.mem_range.2 hil)
    obtain ⟨j, hj1, hj2, hj3⟩ := hlj
    have hnot : ((List.range ops.size).all fun j => !(loOf ops j || ex.contains j) || !decide (rkOf (pre ++ l ++ y :: r) j < rkOf (pre ++ l ++ y :: r) i)) = false := by
      rw [List.all_eq_false]
      exact ⟨j, List.mem_range.2 hj1, by simp only [hj2, hj3]; decide⟩
    simp only [hli, hnot, Bool.false_or, hi, hy, Bool.and_eq_true] at h2
    have hsel := lexOkR_sel b1
    exact ⟨h2.2, (by show ((loOf ops i || ex.contains i) && _) = false; rw [hli]; rfl), by simpa using h2.1, by simpa using h1.1.1, fun cs b => Region.noSelect_spec hsel i o cs b hi, fun cs b => Region.noSelect_spec hsel y' oy cs b hy⟩
  · rw [pickL_length]; omega
  · intro p hp
    obtain ⟨h1, h2⟩ := pickL_mem.1 hp
    have hlt : p.1 < ops.size := by simpa using List.all_eq_true.1 b5 _ h1
    have := nthO_ok ops.toList p.1 (by simpa using hlt)
    rw [h2]; simpa using this
  · exact pickL_pair b6
  · intro i hi
    simp only [Array.getD_eq_getD_getElem?, Array.getElem?_replicate, hi, if_true, Option.getD_some, true_iff]
    have := List.all_eq_true.1 b3 i (List.mem_range.2 hi)
    exact ⟨nthO ops.toList i, (pickL_mem (p := (i, nthO ops.toList i))).2 ⟨by simpa using this, rfl⟩⟩
  · intro i o ho hl
    simp only [Array.getD_eq_getD_getElem?, Array.getElem?_replicate] at hl
    split at hl <;> simp at hl
  · simp
end
section
variable {P : Program} {n : Nat} {K : Bs} {F : List (Nat × Value)} {h : View} {L : List Res} {Q : Exit → Act → World → Prop}
def FlQ (P : Program) (g : Rg) (Q : Exit → Act → World → Prop) (l : List Nat) (y : Nat) (r : List Nat) : Exit → Act → World → Prop := fun e a w =>
  e = .normal ∧ wpF P g.ops g.S g.lo g.bar (Q .normal) (y, nthO g.ops.toList y) (pickL g.ops.toList r) (pickL g.ops.toList l) a w
theorem cx_region_flo {id : Nat} {ops : Array Oper} (LS : List Res) (ex pre l : List Nat) (y : Nat) (r : List Nat) (hm : P.follows .mixedOrders = true) (hB : flo1Ok ops ex pre l y r = true)
    (hx : RX P n K ⟨ops, Hd h LS, fun i => loOf ops i || ex.contains i, barOf ops⟩ (pickL ops.toList pre) F h L (FlQ P ⟨ops, Hd h LS, fun i => loOf ops i || ex.contains i, barOf ops⟩ Q l y r)) : CX P n K (.region id ops true) F h L Q := by
  unfold CX
  unfold RX at hx
  exact fun a w f s => wp_region_flo ex pre l y r hm hB (wpX_mono (fun a w h => h.2) _ _ _ (hx a w.drew ⟨f.size, f.dfs, f.get⟩ s.drew))
theorem nx_flo {g : Rg} {y : Nat} {r : List Nat} (x : Nat) (sg l : List Nat) (hq : (sg.all fun i => !g.lo i) = true) (h1 : RX P n K g (pickL g.ops.toList (x :: sg)) F h L (FlQ P g Q l y r)) (h2 : RX P n K g (pickL g.ops.toList (y :: x :: (sg ++ l ++ r))) F h L Q) :
    NX n K .normal F h L (FlQ P g Q (x :: (sg ++ l)) y r) := by
  unfold NX
  unfold RX at h1 h2
  refine fun a w f s => ⟨rfl, ?_, fun _ => ?_⟩
  · have h3 := h1 a w f s
    refine R1.mono (fun a w hh => ?_) h3
    have h4 := wpF_app (P := P) (ops := g.ops) (S := g.S) (lo := g.lo) (bar := g.bar) (Q := Q .normal) (y := (y, nthO g.ops.toList y)) (r := pickL g.ops.toList r) (l := pickL g.ops.toList l) (pickL g.ops.toList sg) (fun p hp => by
      have := List.all_eq_true.1 hq _ (pickL_mem.1 hp).1
      simpa using this) a w (wpX_mono (fun a w h => h.2) _ _ _ hh)
    rw [← pickL_append] at h4
    exact h4
  · have h3 := h2 a w f s
    have e : pickL g.ops.toList (y :: x :: (sg ++ l ++ r)) = (y, nthO g.ops.toList y) :: (x, nthO g.ops.toList x) :: (pickL g.ops.toList (sg ++ l) ++ pickL g.ops.toList r) := by
      rw [← pickL_append]; rfl
    rw [e] at h3
    exact h3
theorem nx_flo_end {g : Rg} {y : Nat} {r : List Nat} (h1 : RX P n K g (pickL g.ops.toList (y :: r)) F h L Q) : NX n K .normal F h L (FlQ P g Q [] y r) := by
  unfold NX
  unfold RX at h1
  exact fun a w f s => ⟨rfl, h1 a w f s⟩
end
end Go.Ck
end

section
namespace Go.Proofs.YtkkjppeaaicgaaaGreatDoor
open Go Go.Ck Go.Shelf
set_option maxRecDepth 100000
set_option maxHeartbeats 1000000
set_option linter.unusedVariables false
theorem uD_set {u : List Int} {d e : Dt} {x : Int} (hu : u.length = 16) (hd : rightB d = true) (he : rightB e = true) : uD (u.set (d.1 - 1).toNat x) e = if e.1 = d.1 then x else uD u e := by
  have h1 := right_of hd
  have h2 := right_of he
  unfold uD
  by_cases h : e.1 = d.1
  · rw [if_pos h, h, List.getD_eq_getElem?_getD, List.getElem?_set_self (by omega)]
    rfl
  · rw [if_neg h, List.getD_eq_getElem?_getD, List.getElem?_set_ne (by omega), ← List.getD_eq_getElem?_getD]
theorem tstep_eq (u : List Int) (out : List Dt) (d : Dt) : tstep (u, out) d = if d.2 = uD u d + 1 then (u.set (d.1 - 1).toNat d.2, out) else if uD u d < d.2 ∧ d ∉ out then (u, out ++ [d]) else (u, out) := rfl
structure Inv (u : List Int) (out : List Dt) : Prop where
  len : u.length = 16
  bd : ∀ x ∈ u, 0 ≤ x ∧ x ≤ 1099511627776
  mor : ∀ e ∈ out, rightB e = true ∧ uD u e + 1 < e.2
  srt : out.Pairwise fun x y => ordD x y < 0
theorem ord_none {x y : Dt} (h1 : ¬ ordD x y < 0) (h2 : ¬ ordD y x < 0) : x = y := by
  rw [ord_iff] at h1 h2
  obtain ⟨a, b⟩ := x
  obtain ⟨c, d⟩ := y
  simp only at h1 h2
  have : a = c ∧ b = d := by omega
  rw [this.1, this.2]
theorem fold_inv : ∀ (rest : List Dt) (u : List Int) (out : List Dt), Inv u out → (∀ e ∈ out, ∀ x ∈ rest, ¬ ordD x e < 0) → SortedD rest → (∀ d ∈ rest, rightB d = true) →
    Inv (rest.foldl tstep (u, out)).1 (rest.foldl tstep (u, out)).2 ∧ ∀ x, rightB x = true → hasC (rest.foldl tstep (u, out)).1 (rest.foldl tstep (u, out)).2 x = (hasC u out x || decide (x ∈ rest)) := by
  intro rest
  induction rest with
  | nil => intro u out hi _ _ _; exact ⟨hi, fun x _ => by simp⟩
  | cons d rest ih =>
    intro u out hi hbef hsrt hr
    have hdr := hr d (by simp)
    have hd4 := right_of hdr
    have hs2 : SortedD rest := (List.pairwise_cons.1 hsrt).2
    have hs1 := (List.pairwise_cons.1 hsrt).1
    have hr2 : ∀ x ∈ rest, rightB x = true := fun x hx => hr x (List.mem_cons_of_mem _ hx)
    rw [List.foldl_cons]
    by_cases c1 : d.2 = uD u d + 1
    · have e1 : tstep (u, out) d = (u.set (d.1 - 1).toNat d.2, out) := by
        rw [tstep_eq, if_pos c1]
      rw [e1]
      have hnot : ∀ e ∈ out, e.1 ≠ d.1 := fun e he hc => by
        have h1 := hbef e he d (by simp)
        have h2 := (hi.mor e he).2
        rw [ord_iff] at h1
        have : uD u e = uD u d := by unfold uD; rw [hc]
        omega
      obtain ⟨g1, g2⟩ := ih (u.set (d.1 - 1).toNat d.2) out ⟨by simpa using hi.len, fun x hx => by
          rcases List.mem_or_eq_of_mem_set hx with hx | rfl
          · exact hi.bd x hx
          · omega, fun e he => ⟨(hi.mor e he).1, by
          rw [uD_set hi.len hdr (hi.mor e he).1, if_neg (hnot e he)]
          exact (hi.mor e he).2⟩, hi.srt⟩ (fun e he x hx => hbef e he x (List.mem_cons_of_mem _ hx)) hs2 hr2
      refine ⟨g1, fun x hx => ?_⟩
      rw [g2 x hx]
      have e2 : hasC (u.set (d.1 - 1).toNat d.2) out x = (hasC u out x || decide (x = d)) := by
        unfold hasC
        rw [uD_set hi.len hdr hx]
        by_cases hc : x.1 = d.1
        · rw [if_pos hc]
          have : uD u x = uD u d := by unfold uD; rw [hc]
          rw [this]
          have e3 : (x = d) ↔ x.2 = d.2 := ⟨fun h => by rw [h], fun h => Prod.ext hc h⟩
          have e4 : decide (x = d) = decide (x.2 = d.2) := by simp only [e3]
          rw [e4]
          have e5 : decide (x.2 ≤ d.2) = (decide (x.2 ≤ uD u d) || decide (x.2 = d.2)) := by
            rw [← Bool.decide_or, decide_eq_decide]; omega
          rw [e5]
          cases decide (x.2 ≤ uD u d)<;>cases decide (x.2 = d.2)<;>cases decide (x ∈ out)<;>rfl
        · rw [if_neg hc]
          have : decide (x = d) = false := decide_eq_false fun h => hc (by rw [h])
          rw [this, Bool.or_false]
      rw [e2]
      have e6 : decide (x ∈ d :: rest) = (decide (x = d) || decide (x ∈ rest)) := by
        rw [← Bool.decide_or, decide_eq_decide, List.mem_cons]
      rw [e6, Bool.or_assoc]
    · have e6 : ∀ x, decide (x ∈ d :: rest) = (decide (x = d) || decide (x ∈ rest)) := fun x => by
        rw [← Bool.decide_or, decide_eq_decide, List.mem_cons]
      by_cases c2 : uD u d < d.2 ∧ d ∉ out
      · have e1 : tstep (u, out) d = (u, out ++ [d]) := by
          rw [tstep_eq, if_neg c1, if_pos c2]
        rw [e1]
        obtain ⟨g1, g2⟩ := ih u (out ++ [d]) ⟨hi.len, hi.bd, fun e he => by
            rcases List.mem_append.1 he with he | he
            · exact hi.mor e he
            · rw [List.mem_singleton.1 he]
              exact ⟨hdr, by omega⟩, by
            refine List.pairwise_append.2 ⟨hi.srt, by simp, fun e he x hx => ?_⟩
            rw [List.mem_singleton.1 hx]
            have h1 := hbef e he d (by simp)
            refine Decidable.byContradiction fun h2 => c2.2 ?_
            rw [ord_none h1 h2]; exact he⟩ (fun e he x hx => by
            rcases List.mem_append.1 he with he | he
            · exact hbef e he x (List.mem_cons_of_mem _ hx)
            · rw [List.mem_singleton.1 he]
              exact hs1 x hx) hs2 hr2
        refine ⟨g1, fun x hx => ?_⟩
        rw [g2 x hx, e6]
        have e2 : hasC u (out ++ [d]) x = (hasC u out x || decide (x = d)) := by
          unfold hasC
          have : decide (x ∈ out ++ [d]) = (decide (x ∈ out) || decide (x = d)) := by
            rw [← Bool.decide_or, decide_eq_decide, List.mem_append, List.mem_singleton]
          rw [this, Bool.or_assoc]
        rw [e2, Bool.or_assoc]
      · have e1 : tstep (u, out) d = (u, out) := by
          rw [tstep_eq, if_neg c1, if_neg c2]
        rw [e1]
        obtain ⟨g1, g2⟩ := ih u out hi (fun e he x hx => hbef e he x (List.mem_cons_of_mem _ hx)) hs2 hr2
        refine ⟨g1, fun x hx => ?_⟩
        rw [g2 x hx, e6]
        have hd2 : hasC u out d = true := by
          unfold hasC
          rw [Bool.or_eq_true, decide_eq_true_iff, decide_eq_true_iff]
          by_cases h : d ∈ out
          · exact .inr h
          · refine .inl ?_
            have : ¬ uD u d < d.2 := fun h1 => c2 ⟨h1, h⟩
            omega
        by_cases hxd : x = d
        · rw [hxd, hd2]; rfl
        · rw [decide_eq_false hxd, Bool.false_or]
theorem check_inv {u : List Int} {l : List Dt} (hi : Inv u l) (hl : l.length ≤ 32) : checkC u l = 0 := by
  have h1 : upOk u = true := upOk_iff.2 hi.bd
  have h2 : moresOk u l = true := List.all_eq_true.2 fun i hi' => by
    have hil : i < l.length := List.mem_range.1 hi'
    have e1 : l.getD i (0, 0) = l[i] := by simp [hil]
    have e2 : i ≠ 0 → l.getD (i - 1) (0, 0) = l[i - 1] := fun h => by simp [show i - 1 < l.length by omega]
    unfold moreB
    simp only [Bool.and_eq_true, Bool.or_eq_true, decide_eq_true_iff]
    rw [e1]
    refine ⟨⟨(hi.mor _ (List.getElem_mem hil)).1, (hi.mor _ (List.getElem_mem hil)).2⟩, ?_⟩
    by_cases h0 : i = 0
    · exact .inl h0
    · right
      rw [e2 h0]
      exact List.pairwise_iff_getElem.1 hi.srt (i - 1) i (by omega) hil (by omega)
  unfold checkC
  rw [if_neg (by simp [h1]), if_neg (by omega), if_neg (by simp [h2])]
theorem inv_check {u : List Int} {l : List Dt} (hu : u.length = 16) (hk : checkC u l = 0) : Inv u l := by
  obtain ⟨h1, _, h3⟩ := check_right hk
  refine ⟨hu, h1, fun e he => ⟨h3 e he, ?_⟩, ?_⟩
  · obtain ⟨i, hi, rfl⟩ := List.getElem_of_mem he
    exact (more_at hk hi).1
  · refine List.pairwise_iff_getElem.2 fun i j hi hj hij => more_sorted hk j i hj hij
theorem up_le {u v : List Int} {l m : List Dt} (h1 : Inv u l) (h2 : Inv v m) (hs : ∀ x, rightB x = true → hasC v m x = true → hasC u l x = true) (i : Nat) (hi : i < 16) : v.getD i 0 ≤ u.getD i 0 := by
  refine Decidable.byContradiction fun hlt => ?_
  have b1 := h1.bd (u.getD i 0) (getD_mem (by have := h1.len; omega))
  have b2 := h2.bd (v.getD i 0) (getD_mem (by have := h2.len; omega))
  have hr : rightB ((i : Int) + 1, u.getD i 0 + 1) = true := by
    generalize u.getD i 0 = x at b1 hlt
    simp [rightB]; omega
  have eu : ∀ w : List Int, uD w ((i : Int) + 1, u.getD i 0 + 1) = w.getD i 0 := fun w => by
    unfold uD
    show w.getD ((i : Int) + 1 - 1).toNat 0 = _
    rw [show ((i : Int) + 1 - 1).toNat = i by omega]
  have e2 : hasC v m ((i : Int) + 1, u.getD i 0 + 1) = true := by
    unfold hasC
    rw [eu, decide_eq_true (by show u.getD i 0 + 1 ≤ _; omega)]; rfl
  have e1 := hs _ hr e2
  unfold hasC at e1
  rw [eu, decide_eq_false (by show ¬ u.getD i 0 + 1 ≤ _; omega), Bool.false_or, decide_eq_true_iff] at e1
  have := (h1.mor _ e1).2
  rw [eu] at this
  exact absurd this (by show ¬ u.getD i 0 + 1 < u.getD i 0 + 1; omega)
theorem ctx_uniq {u v : List Int} {l m : List Dt} (h1 : Inv u l) (h2 : Inv v m) (hs : ∀ x, rightB x = true → hasC u l x = hasC v m x) : u = v ∧ l = m := by
  have hu := h1.len
  have hv := h2.len
  have e : u = v := by
    refine List.ext_getElem (by omega) fun i hi hj => ?_
    have a1 := up_le h1 h2 (fun x hx hy => (hs x hx).trans hy) i (by omega)
    have a2 := up_le h2 h1 (fun x hx hy => (hs x hx).symm.trans hy) i (by omega)
    rw [List.getD_eq_getElem?_getD, List.getD_eq_getElem?_getD, List.getElem?_eq_getElem hi, List.getElem?_eq_getElem hj] at a1 a2
    simp only [Option.getD_some] at a1 a2
    omega
  subst e
  refine ⟨rfl, ?_⟩
  have hmem : ∀ {l m : List Dt}, Inv u l → Inv u m → (∀ x, rightB x = true → hasC u l x = hasC u m x) → ∀ x ∈ l, x ∈ m := fun {l m} k1 k2 k3 x hx => by
    have hm := k1.mor x hx
    have := k3 x hm.1
    unfold hasC at this
    rw [decide_eq_false (by omega : ¬ x.2 ≤ uD u x), Bool.false_or, Bool.false_or, decide_eq_true hx] at this
    exact oet_ this.symm
  have hnd : ∀ {l : List Dt}, Inv u l → l.Nodup := fun k => k.srt.imp fun {x y} h hxy => by
    rw [hxy, ord_iff] at h; omega
  have hsd : ∀ {l : List Dt}, Inv u l → SortedD l := fun k => k.srt.imp fun {x y} h => by
    rw [ord_iff] at h ⊢; omega
  have hp : l.Perm m := (List.perm_ext_iff_of_nodup (hnd h1) (hnd h2)).2 fun x => ⟨hmem h1 h2 hs x, hmem h2 h1 (fun x hx => (hs x hx).symm) x⟩
  exact sorted_uniq hp (hsd h1) (List.Perm.refl _) (hsd h2)
theorem fold_len : ∀ (l : List Dt) (u : List Int) (o : List Dt), (l.foldl tstep (u, o)).2.length ≤ o.length + l.length := by
  intro l
  induction l with
  | nil => intro u o; simp
  | cons d l ih =>
    intro u o
    rw [List.foldl_cons]
    have h := ih (tstep (u, o) d).1 (tstep (u, o) d).2
    have : (tstep (u, o) d).2.length ≤ o.length + 1 := by
      rw [tstep_eq]
      split
      · simp
      · split
        · simp
        · simp
    have e : ((tstep (u, o) d).1, (tstep (u, o) d).2) = tstep (u, o) d := rfl
    rw [e] at h
    simp only [List.length_cons]
    omega
theorem add_inv {u : List Int} {l srt : List Dt} {d : Dt} (hu : u.length = 16) (hk : checkC u l = 0) (hd : rightB d = true) (hp : srt.Perm (l ++ [d])) (hs : SortedD srt) :
    Inv (tfold u srt).1 (tfold u srt).2 ∧ (tfold u srt).2.length ≤ l.length + 1 ∧ ∀ x, rightB x = true → hasC (tfold u srt).1 (tfold u srt).2 x = (hasC u l x || decide (x = d)) := by
  have hi := inv_check hu hk
  obtain ⟨_, _, h3⟩ := check_right hk
  have hr : ∀ x ∈ srt, rightB x = true := fun x hx => by
    rcases List.mem_append.1 (hp.mem_iff.1 hx) with hx | hx
    · exact h3 x hx
    · rw [List.mem_singleton.1 hx]; exact hd
  obtain ⟨g1, g2⟩ := fold_inv srt u [] ⟨hu, hi.bd, by simp, by simp⟩ (by simp) hs hr
  refine ⟨g1, ?_, fun x hx => ?_⟩
  · have := fold_len srt u []
    have e := hp.length_eq
    simp at this e
    unfold tfold
    omega
  · show hasC (srt.foldl tstep (u, [])).1 (srt.foldl tstep (u, [])).2 x = _
    rw [g2 x hx]
    unfold hasC
    have : decide (x ∈ srt) = (decide (x ∈ l) || decide (x = d)) := by
      rw [← Bool.decide_or, decide_eq_decide, hp.mem_iff, List.mem_append, List.mem_singleton]
    rw [this, decide_eq_false (List.not_mem_nil (a := x)), Bool.or_false, Bool.or_assoc]
end Go.Proofs.YtkkjppeaaicgaaaGreatDoor
end
