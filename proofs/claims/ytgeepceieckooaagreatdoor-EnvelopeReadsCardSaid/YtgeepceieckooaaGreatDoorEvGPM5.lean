/-
  Part 5 of a proof: BitP ShB ShC ChA.
  Conditions: each theorem states its own.
-/
import Derived.Test.YtgeepceieckooaaGreatDoorEvGPM4
section
namespace Go.Proofs.YtgeepceieckooaaGreatDoor
open Go Go.Ck
set_option maxRecDepth 100000
set_option maxHeartbeats 2000000
set_option linter.unusedVariables false
def byC (s : RS) (most : Int) : List Int × RS :=
  if s.2 ≠ 0 then ([], s)
  else if (lookC s.1 4 most).2 ≠ 0 then ([], (s.1, (lookC s.1 4 most).2))
  else if s.1.length - 4 < (lookC s.1 4 most).1.toNat then ([], (s.1, 3))
  else ((s.1.drop 4).take (lookC s.1 4 most).1.toNat, ((s.1.drop 4).drop (lookC s.1 4 most).1.toNat, 0))
def num4 (x : Int) : List Int := (putLow 4 x).reverse
theorem num4_len (x : Int) : (num4 x).length = 4 := by simp [num4, putLow_len]
theorem lookC_bd {l : List Int} (hb : Bytes l) {size : Nat} {most : Int} (hm : 0 ≤ most) : 0 ≤ (lookC l size most).1 ∧ (lookC l size most).1 ≤ most := by
  unfold lookC
  split
  · exact ⟨by decide, hm⟩
  · split
    · exact ⟨by decide, hm⟩
    · exact ⟨(valB_bd hb size (by omega)).1, by dsimp only; omega⟩
theorem bytes_take {l : List Int} (hb : Bytes l) (k : Nat) : Bytes (l.take k) := fun b hx => hb b (List.mem_of_mem_take hx)
theorem bytes_drop {l : List Int} (hb : Bytes l) (k : Nat) : Bytes (l.drop k) := fun b hx => hb b (List.mem_of_mem_drop hx)
theorem RsOk.by {s : RS} (h : RsOk s) {most : Int} (hm : 0 ≤ most) : RsOk (byC s most).2 ∧ Bytes (byC s most).1 ∧ ((byC s most).1.length : Int) ≤ most := by
  have hbd := lookC_bd (size := 4) h.b hm
  unfold byC
  split
  · exact ⟨h, (fun b hx => by cases hx), hm⟩
  · split
    · exact ⟨⟨h.b, h.l⟩, (fun b hx => by cases hx), hm⟩
    · split
      · exact ⟨⟨h.b, h.l⟩, (fun b hx => by cases hx), hm⟩
      · refine ⟨⟨bytes_drop (bytes_drop h.b 4) _, ?_⟩, bytes_take (bytes_drop h.b 4) _, ?_⟩
        · have := h.l
          simp only [List.length_drop]; omega
        · simp only [List.length_take, List.length_drop]; omega
theorem skipr_sp (bi : Nat) (v : Value) (l : List Int) (e : Int) (size : Nat) (hsz : size ≤ l.length) (hl : l.length ≤ 1000000) (h : View) (hv : Bs8 h v l) (w : World) (s : St ⟨w, h, doms [inR bi v e]⟩ h [inR bi v e] w) :
    Calls Tryz.prog 79 [.pointer (some ⟨bi, 0, none⟩), .int .i64 size].toArray w fun en w' => ∃ x : View × Value × Value, en = .returned x.2.1 ∧ St ⟨w, h, doms [inR bi v e]⟩ x.1 [inR bi x.2.2 e] w' ∧ (Bs8 x.1 x.2.1 (l.take size) ∧ Bs8 x.1 x.2.2 (l.drop size)) := by
  obtain ⟨_, ad, cap, rfl, hcap, _⟩ := id hv
  have ht1 : Bs8 h (.slice ad size cap) (l.take size) := by
    have := sc_take hv hsz
    unfold Bs8
    rw [List.length_take, Nat.min_eq_left hsz]
    have e : bcs (l.take size) = (bcs l).take (size * 1) := by simp [bcs]
    rw [e]; exact this
  have hd1 : Bs8 h (.slice (cutF ad cap size 1) (l.length - size) (cap - size)) (l.drop size) := by
    have := sc_drop hv (by decide) hsz
    unfold Bs8
    rw [List.length_drop]
    have e : bcs (l.drop size) = (bcs l).drop (size * 1) := by simp [bcs]
    rw [e]; exact this
  refine calls_enter Tryz.func79 rfl Tryz.ntmps79 rfl s ?_
  repeat' (first|(refine ycf ?_;apply ybk;(·first|(first|(apply qv_nilCheck;rfl)|(apply qv_slice_to;(·rfl);(·rfl);(·omega);(·omega))|(apply qv_slice_from;(·rfl);(·rfl);(·omega))));(·rfl);(·rfl))|refine t1_ ?_|(refine ta_ ?_;intro _)|((fail_if_success (refine ybi rfl ?_));refine ybj rfl ?_ ?_<;>(intro ht;rw [ht];first|replace ht := oet_ ht|replace ht := oef_ ht|skip))|(refine ych ?_;first|(refine ybw rfl ?_ ?_<;>intro ht)|(refine ybx rfl ?_ ?_<;>intro ht)))
  (refine yco (ycp Tryz.func60 rfl (by kernel_rfl) rfl) (BClone_sp (.slice ad size cap) (l.take size) h ht1 (by simp; omega)) rfl rfl rfl ?_ ?_ ?_; (· (exact to_)); (· intro _ _ hle; (exact to_)); intro x px hle)
  repeat' (first|(refine ycf ?_;apply ybk;(·first|(first|(apply qv_nilCheck;rfl)|(apply qv_slice_to;(·rfl);(·rfl);(·omega);(·omega))|(apply qv_slice_from;(·rfl);(·rfl);(·omega))));(·rfl);(·rfl))|refine t1_ ?_|(refine ta_ ?_;intro _)|((fail_if_success (refine ybi rfl ?_));refine ybj rfl ?_ ?_<;>(intro ht;rw [ht];first|replace ht := oet_ ht|replace ht := oef_ ht|skip))|(refine ych ?_;first|(refine ybw rfl ?_ ?_<;>intro ht)|(refine ybx rfl ?_ ?_<;>intro ht)))
  refine nx_ret1 rfl (rv_tmp rfl) (fun w' s' => ?_)
  obtain ⟨h2, hle2, hs2, s2⟩ := s'.rowPersistA (by intro x hx; exact hx)
  exact ⟨(h2, x, .slice (cutF ad cap size 1) (l.length - size) (cap - size)), rfl, s2, hs2, hd1.mono hle2⟩
theorem InBytes_sp (bi : Nat) (v : Value) (l : List Int) (e : Int) (most : Int) (hb : Bytes l) (hm : 0 ≤ most ∧ most < 9223372036854775808) (hl : l.length ≤ 1000000) (h : View) (hv : Bs8 h v l) (w : World) (s : St ⟨w, h, doms [inR bi v e]⟩ h [inR bi v e] w) :
    Calls Tryz.prog 45 [.pointer (some ⟨bi, 0, none⟩), .int .i64 most].toArray w fun en w' => ∃ x : View × Value × Value, en = .returned x.2.1 ∧ St ⟨w, h, doms [inR bi v e]⟩ x.1 [inR bi x.2.2 (byC (l, e) most).2.2] w' ∧ (Bs8 x.1 x.2.1 (byC (l, e) most).1 ∧ Bs8 x.1 x.2.2 (byC (l, e) most).2.1) := by
  refine calls_enter Tryz.func45 rfl Tryz.ntmps45 rfl s ?_
  unfold byC
  dsimp only
  by_cases he : e = 0
  · subst he
    rw [if_neg (by simp)]
    have hdead := dead_sp bi v 0 h
    rw [show decide ((0 : Int) ≠ 0) = false by decide] at hdead
    repeat' (first|(refine ycf ?_;apply ybk;(·first|(first|(apply qv_nilCheck;rfl)|(apply qv_slice_to;(·rfl);(·rfl);(·omega);(·omega))|(apply qv_slice_from;(·rfl);(·rfl);(·omega))));(·rfl);(·rfl))|refine t1_ ?_|(refine ta_ ?_;intro _)|((fail_if_success (refine ybi rfl ?_));refine ybj rfl ?_ ?_<;>(intro ht;rw [ht];first|replace ht := oet_ ht|replace ht := oef_ ht|skip))|(refine ych ?_;first|(refine ybw rfl ?_ ?_<;>intro ht)|(refine ybx rfl ?_ ?_<;>intro ht)))
    (refine rx_call_m (ycp Tryz.func78 rfl (by kernel_rfl) rfl) (perm_at (k := 0) rfl) (hdead) rfl rfl rfl ?_ ?_ ?_; (· (exact to_)); (· intro _ _ hle; (exact to_)); intro x px hle)
    repeat' (first|(refine ycf ?_;apply ybk;(·first|(first|(apply qv_nilCheck;rfl)|(apply qv_slice_to;(·rfl);(·rfl);(·omega);(·omega))|(apply qv_slice_from;(·rfl);(·rfl);(·omega))));(·rfl);(·rfl))|refine t1_ ?_|(refine ta_ ?_;intro _)|((fail_if_success (refine ybi rfl ?_));refine ybj rfl ?_ ?_<;>(intro ht;rw [ht];first|replace ht := oet_ ht|replace ht := oef_ ht|skip))|(refine ych ?_;first|(refine ybw rfl ?_ ?_<;>intro ht)|(refine ybx rfl ?_ ?_<;>intro ht)))
    (refine rx_call_m (ycp Tryz.func81 rfl (by kernel_rfl) rfl) (perm_at (k := 0) rfl) (look_sp bi v l 4 most hb (by omega) (by omega) hm hl h hv) rfl rfl rfl ?_ ?_ ?_; (· (exact to_)); (· intro _ _ hle; (exact to_)); intro x px hle)
    have hbd := lookC_bd (size := 4) hb hm.1
    by_cases hz : (lookC l 4 most).2 = 0
    · have hsl := lookC_len hz
      rw [if_neg (by simpa using hz), hz]
      generalize (lookC l 4 most).1 = N at hbd ⊢
      obtain ⟨N, rfl⟩ : ∃ k : Nat, N = k := ⟨N.toNat, by omega⟩
      rw [Int.toNat_natCast]
      obtain ⟨_, ad, cap, rfl, hcap, _⟩ := id hv
      by_cases hN : l.length - 4 < N
      · rw [if_pos hN]
        repeat' (first|(refine ycf ?_;apply ybk;(·first|(exact tk_));(·rfl);(·rfl))|refine t1_ ?_|(refine ta_ ?_;intro _)|((fail_if_success (refine ybi rfl ?_));refine ybj rfl ?_ ?_<;>(intro ht;rw [ht];first|replace ht := oet_ ht|replace ht := oef_ ht|skip))|(refine ych ?_;first|(refine ybw rfl ?_ ?_<;>intro ht)|(refine ybx rfl ?_ ?_<;>intro ht)))
        exact nx_ret1 rfl (rv_tmp rfl) (fun w' s' => ⟨(h, .slice none 0 0, .slice ad l.length cap), rfl, s', Sc.nil h 1 none 0, hv⟩)
      · rw [if_neg hN]
        repeat' (first|(refine ycf ?_;apply ybk;(·first|(exact tk_));(·rfl);(·rfl))|refine t1_ ?_|(refine ta_ ?_;intro _)|((fail_if_success (refine ybi rfl ?_));refine ybj rfl ?_ ?_<;>(intro ht;rw [ht];first|replace ht := oet_ ht|replace ht := oef_ ht|skip))|(refine ych ?_;first|(refine ybw rfl ?_ ?_<;>intro ht)|(refine ybx rfl ?_ ?_<;>intro ht)))
        (refine rx_call_m (ycp Tryz.func79 rfl (by kernel_rfl) rfl) (perm_at (k := 0) rfl) (skipr_sp bi _ l 0 4 hsl hl h hv) rfl rfl rfl ?_ ?_ ?_; (· (exact to_)); (· intro _ _ hle; (exact to_)); intro x px hle)
        obtain ⟨h1, v1, v2⟩ := x
        obtain ⟨p1, p2⟩ := px
        dsimp only at p1 p2 hle ⊢
        have hle1 := hle
        repeat' (first|(refine ycf ?_;apply ybk;(·first|(exact tk_));(·rfl);(·rfl))|refine t1_ ?_|(refine ta_ ?_;intro _)|((fail_if_success (refine ybi rfl ?_));refine ybj rfl ?_ ?_<;>(intro ht;rw [ht];first|replace ht := oet_ ht|replace ht := oef_ ht|skip))|(refine ych ?_;first|(refine ybw rfl ?_ ?_<;>intro ht)|(refine ybx rfl ?_ ?_<;>intro ht)))
        (refine rx_call_m (ycp Tryz.func79 rfl (by kernel_rfl) rfl) (perm_at (k := 0) rfl) (skipr_sp bi v2 (l.drop 4) 0 N (by rw [List.length_drop]; omega) (by rw [List.length_drop]; omega) h1 p2) rfl rfl rfl ?_ ?_ ?_; (· (exact to_)); (· intro _ _ hle; (exact to_)); intro x px hle)
        repeat' (first|(refine ycf ?_;apply ybk;(·first|(exact tk_));(·rfl);(·rfl))|refine t1_ ?_|(refine ta_ ?_;intro _)|((fail_if_success (refine ybi rfl ?_));refine ybj rfl ?_ ?_<;>(intro ht;rw [ht];first|replace ht := oet_ ht|replace ht := oef_ ht|skip))|(refine ych ?_;first|(refine ybw rfl ?_ ?_<;>intro ht)|(refine ybx rfl ?_ ?_<;>intro ht)))
        exact nx_ret1 rfl (rv_tmp rfl) (fun w' s' => ⟨x, rfl, s', px⟩)
    · have hf := lookC_bad hz
      rw [if_pos hz, hf]
      generalize (lookC l 4 most).2 = E at hz ⊢
      repeat' (first|(refine ycf ?_;apply ybk;(·first|(exact tk_));(·rfl);(·rfl))|refine t1_ ?_|(refine ta_ ?_;intro _)|((fail_if_success (refine ybi rfl ?_));refine ybj rfl ?_ ?_<;>(intro ht;rw [ht];first|replace ht := oet_ ht|replace ht := oef_ ht|skip))|(refine ych ?_;first|(refine ybw rfl ?_ ?_<;>intro ht)|(refine ybx rfl ?_ ?_<;>intro ht)))
      exact nx_ret1 rfl (rv_tmp rfl) (fun w' s' => ⟨(h, .slice none 0 0, v), rfl, s', Sc.nil h 1 none 0, hv⟩)
  · rw [if_pos he]
    have hdead := dead_sp bi v e h
    rw [decide_eq_true he] at hdead
    repeat' (first|(refine ycf ?_;apply ybk;(·first|(exact tk_));(·rfl);(·rfl))|refine t1_ ?_|(refine ta_ ?_;intro _)|((fail_if_success (refine ybi rfl ?_));refine ybj rfl ?_ ?_<;>(intro ht;rw [ht];first|replace ht := oet_ ht|replace ht := oef_ ht|skip))|(refine ych ?_;first|(refine ybw rfl ?_ ?_<;>intro ht)|(refine ybx rfl ?_ ?_<;>intro ht)))
    (refine rx_call_m (ycp Tryz.func78 rfl (by kernel_rfl) rfl) (perm_at (k := 0) rfl) (hdead) rfl rfl rfl ?_ ?_ ?_; (· (exact to_)); (· intro _ _ hle; (exact to_)); intro x px hle)
    repeat' (first|(refine ycf ?_;apply ybk;(·first|(exact tk_));(·rfl);(·rfl))|refine t1_ ?_|(refine ta_ ?_;intro _)|((fail_if_success (refine ybi rfl ?_));refine ybj rfl ?_ ?_<;>(intro ht;rw [ht];first|replace ht := oet_ ht|replace ht := oef_ ht|skip))|(refine ych ?_;first|(refine ybw rfl ?_ ?_<;>intro ht)|(refine ybx rfl ?_ ?_<;>intro ht)))
    exact nx_ret1 rfl (rv_tmp rfl) (fun w' s' => ⟨(h, .slice none 0 0, v), rfl, s', Sc.nil h 1 none 0, hv⟩)
theorem qv_neq_pnil {P : Program} {n : Nat} {F : List (Nat × Value)} {h : View} {L : List Res} {dst : Option Nat} {ty : Nat} {pos : String} {af : Array Edge} {gd : Option (Nat × Bool)} {T T' e : Nat} {x y : Operand} {ad : Addr} [tu : TyU P T (.pointer e)] (hx : ev F x = some (.pointer (some ad))) (hy : ev F y = some (.pointer none)) :
    QV P n F h L ⟨dst, .binOp .neq T x y T', ty, pos, af, gd⟩ (.bool true) := by
  refine .mk fun a w f s => ?_
  have hp : P.underlying T = some (.pointer (P.pointee T)) := by
    have := tu.u
    simp [Program.pointee, this]
  have hg : (eqGuard .neq T x y (.pointer (some ad)) (.pointer none)).run P w = .ok () w := by simp [eqGuard]
  have he := run_equal_pointer_nil (P := P) (w := w) T (some ad) hp
  simp only [execOp, f.ev hx, f.ev hy, Sem.run_bind, hg, Result.andThen_ok, binOp, he]
  rfl
theorem OutFixed_sp (bo : Nat) (v : Value) (l : List Int) (bad : Bool) (bv : Value) (b : List Int) (hl : l.length + b.length ≤ 1000000) (h : View) (hb : Bs8 h bv b) (w : World) (s : St ⟨w, h, doms [outR bo v bad, rowB v l]⟩ h [outR bo v bad, rowB v l] w) :
    Calls Tryz.prog 58 [.pointer (some ⟨bo, 0, none⟩), bv].toArray w fun e w' => ∃ x : Value, e = .returned (.pointer (some ⟨bo, 0, none⟩)) ∧
      St ⟨w, h, doms [outR bo v bad, rowB v l]⟩ h [outR bo x bad, rowB x (l ++ b)] w' ∧ True := by
  obtain ⟨_, ad, cap, rfl, hcap, _⟩ := id hb
  refine calls_enter Tryz.func58 rfl Tryz.ntmps58 rfl s ?_
  repeat' (first|(refine ycf ?_;apply ybk;(·first|(first|(apply qv_neq_pnil<;>rfl)|(apply qv_nilCheck;rfl)));(·rfl);(·rfl))|refine t1_ ?_|(refine ta_ ?_;intro _)|((fail_if_success (refine ybi rfl ?_));refine ybj rfl ?_ ?_<;>(intro ht;rw [ht];first|replace ht := oet_ ht|replace ht := oef_ ht|skip))|(refine ych ?_;first|(refine ybw rfl ?_ ?_<;>intro ht)|(refine ybx rfl ?_ ?_<;>intro ht)))
  refine rx_append_sc (sz := 1) 1 rfl rfl rfl hb (bcs_one b) rfl (by omega) (by unfold maxLen; omega) (by omega) rfl rfl rfl ybf (fun _ => ybf) ?_
  intro v2 hv2
  refine rx_rowform 1 rfl (fun q1 q2 q3 => ?_) ?_
  · subst q1
    have hl0 : l = [] := List.eq_nil_of_length_eq_zero (by omega)
    have hb0 : b = [] := List.eq_nil_of_length_eq_zero (by omega)
    subst hl0
    subst hb0
    repeat' (first|(refine ycf ?_;apply ybk;(·first|(first|(apply qv_neq_pnil<;>rfl)|(apply qv_nilCheck;rfl)));(·rfl);(·rfl))|refine t1_ ?_|(refine ta_ ?_;intro _)|((fail_if_success (refine ybi rfl ?_));refine ybj rfl ?_ ?_<;>(intro ht;rw [ht];first|replace ht := oet_ ht|replace ht := oef_ ht|skip))|(refine ych ?_;first|(refine ybw rfl ?_ ?_<;>intro ht)|(refine ybx rfl ?_ ?_<;>intro ht)))
    exact nx_ret1 rfl (rv_tmp rfl) (fun w' s' => ⟨_, rfl, s', trivial⟩)
  rintro g2 cap2 rfl
  repeat' (first|(refine ycf ?_;apply ybk;(·first|(first|(apply qv_neq_pnil<;>rfl)|(apply qv_nilCheck;rfl)));(·rfl);(·rfl))|refine t1_ ?_|(refine ta_ ?_;intro _)|((fail_if_success (refine ybi rfl ?_));refine ybj rfl ?_ ?_<;>(intro ht;rw [ht];first|replace ht := oet_ ht|replace ht := oef_ ht|skip))|(refine ych ?_;first|(refine ybw rfl ?_ ?_<;>intro ht)|(refine ybx rfl ?_ ?_<;>intro ht)))
  refine nx_ret1 rfl (rv_tmp rfl) (fun w' s' => ⟨.slice (some ⟨g2, 0, none⟩) (l.length + b.length) cap2, rfl, ?_, trivial⟩)
  unfold rowB
  rw [List.length_append, bcs_app]
  exact s'
theorem OutBytes_sp (bo : Nat) (v : Value) (l : List Int) (bad : Bool) (bv : Value) (b : List Int) (hl : l.length + 4 + b.length ≤ 1000000) (h : View) (hb : Bs8 h bv b) (w : World) (s : St ⟨w, h, doms [outR bo v bad, rowB v l]⟩ h [outR bo v bad, rowB v l] w) :
    Calls Tryz.prog 51 [.pointer (some ⟨bo, 0, none⟩), bv].toArray w fun e w' => ∃ x : Value, e = .returned (.pointer (some ⟨bo, 0, none⟩)) ∧
      St ⟨w, h, doms [outR bo v bad, rowB v l]⟩ h [outR bo x bad, rowB x (l ++ num4 b.length ++ b)] w' ∧ True := by
  obtain ⟨_, ad, cap, rfl, hcap, _⟩ := id hb
  refine calls_enter Tryz.func51 rfl Tryz.ntmps51 rfl s ?_
  repeat' (first|(refine ycf ?_;apply ybk;(·first|(first|(apply qv_neq_pnil<;>rfl)|(apply qv_nilCheck;rfl)));(·rfl);(·rfl))|refine t1_ ?_|(refine ta_ ?_;intro _)|((fail_if_success (refine ybi rfl ?_));refine ybj rfl ?_ ?_<;>(intro ht;rw [ht];first|replace ht := oet_ ht|replace ht := oef_ ht|skip))|(refine ych ?_;first|(refine ybw rfl ?_ ?_<;>intro ht)|(refine ybx rfl ?_ ?_<;>intro ht)))
  (refine rx_call_2 (ycp Tryz.func84 rfl (by kernel_rfl) rfl) (put_sp bo v l bad b.length 4 true (fun _ => by omega) (by omega) (by omega) (by omega) (by omega) h) rfl rfl rfl ?_ ?_ ?_; (· (exact to_)); (· intro _ _ hle; (exact to_)); intro x px hle)
  rw [Bool.not_true, Bool.or_false, if_pos rfl]
  repeat' (first|(refine ycf ?_;apply ybk;(·first|(first|(apply qv_neq_pnil<;>rfl)|(apply qv_nilCheck;rfl)));(·rfl);(·rfl))|refine t1_ ?_|(refine ta_ ?_;intro _)|((fail_if_success (refine ybi rfl ?_));refine ybj rfl ?_ ?_<;>(intro ht;rw [ht];first|replace ht := oet_ ht|replace ht := oef_ ht|skip))|(refine ych ?_;first|(refine ybw rfl ?_ ?_<;>intro ht)|(refine ybx rfl ?_ ?_<;>intro ht)))
  (refine rx_call_2 (ycp Tryz.func58 rfl (by kernel_rfl) rfl) (OutFixed_sp bo x (l ++ num4 b.length) bad _ b (by rw [List.length_append, num4_len]; omega) h hb) rfl rfl rfl ?_ ?_ ?_; (· (exact to_)); (· intro _ _ hle; (exact to_)); intro x px hle)
  repeat' (first|(refine ycf ?_;apply ybk;(·first|(first|(apply qv_neq_pnil<;>rfl)|(apply qv_nilCheck;rfl)));(·rfl);(·rfl))|refine t1_ ?_|(refine ta_ ?_;intro _)|((fail_if_success (refine ybi rfl ?_));refine ybj rfl ?_ ?_<;>(intro ht;rw [ht];first|replace ht := oet_ ht|replace ht := oef_ ht|skip))|(refine ych ?_;first|(refine ybw rfl ?_ ?_<;>intro ht)|(refine ybx rfl ?_ ?_<;>intro ht)))
  exact nx_ret1 rfl (rv_tmp rfl) (fun w' s' => ⟨x, rfl, s', trivial⟩)
theorem bstr_mid (l : List Int) (i k : Nat) : (bstr l).extract i (i + k) = bstr ((l.drop i).take k) := by
  apply ByteArray.ext
  rw [ByteArray.data_extract]
  simp only [bstr]
  apply Array.ext'
  simp [List.map_take, List.map_drop]
section
variable {P : Program} {n : Nat} {F : List (Nat × Value)} {h : View} {L : List Res} {dst : Option Nat} {ty : Nat} {pos : String} {af : Array Edge} {gd : Option (Nat × Bool)}
theorem qv_str_mid {T : Nat} {x y z : Operand} {l : List Int} {i k : Nat} {j : Int} {ki kj : IntKind} [tu : TyU P T .string] (hx : ev F x = some (.string (bstr l))) (hy : ev F y = some (.int ki i)) (hz : ev F z = some (.int kj j)) (hj : j = ((i + k : Nat) : Int)) (h1 : i + k ≤ l.length) :
    QV P n F h L ⟨dst, .slice T x (some y) (some z) none, ty, pos, af, gd⟩ (.string (bstr ((l.drop i).take k))) := .mk fun a w f s => by
  subst hj
  have h2 : i + k ≤ (bstr l).size := by rw [bstr_size]; exact h1
  have h3 : 0 ≤ (i : Int) + k ∧ (i : Int) + k ≤ ((bstr l).size : Int) := by omega
  have h4 : ((i : Int) + k).toNat = i + k := by omega
  simp [execOp, f.ev hx, f.ev hy, f.ev hz, Instr.sliceAt, Instr.slice, Instr.sliceBounds, Instr.sliceBound, asIntOf, run_underlying tu.u, h3, h4]
  exact bstr_mid l i k
end
theorem rInBytes_sp (bi : Nat) (l : List Int) (e : Int) (most : Int) (hb : Bytes l) (hm : 0 ≤ most ∧ most < 9223372036854775808) (hl : l.length ≤ 1000000) (h : View) (w : World) (s : St ⟨w, h, doms [rinR bi l e]⟩ h [rinR bi l e] w) :
    Calls Tryz.prog 49 [.pointer (some ⟨bi, 0, none⟩), .int .i64 most].toArray w fun en w' => ∃ x : Unit, en = .returned (.string (bstr (byC (l, e) most).1)) ∧ St ⟨w, h, doms [rinR bi l e]⟩ h [rinR bi (byC (l, e) most).2.1 (byC (l, e) most).2.2] w' ∧ True := by
  refine calls_enter Tryz.func49 rfl Tryz.ntmps49 rfl s ?_
  unfold byC
  dsimp only
  by_cases he : e = 0
  · subst he
    rw [if_neg (by simp)]
    repeat' (first|(refine ycf ?_;apply ybk;(·first|(first|(apply qv_nilCheck;rfl)));(·rfl);(·rfl))|refine t1_ ?_|(refine ta_ ?_;intro _)|((fail_if_success (refine ybi rfl ?_));refine ybj rfl ?_ ?_<;>(intro ht;rw [ht];first|replace ht := oet_ ht|replace ht := oef_ ht|skip))|(refine ych ?_;first|(refine ybw rfl ?_ ?_<;>intro ht)|(refine ybx rfl ?_ ?_<;>intro ht)))
    (refine rx_call_m (ycp Tryz.func83 rfl (by kernel_rfl) rfl) (perm_at (k := 0) rfl) (rnumber_sp bi l 4 most hb (by omega) (by omega) hm h) rfl rfl rfl ?_ ?_ ?_; (· (exact to_)); (· intro _ _ hle; (exact to_)); intro x px hle)
    have hbd := lookC_bd (size := 4) hb hm.1
    by_cases hz : (lookC l 4 most).2 = 0
    · have hsl := lookC_len hz
      rw [if_neg (by simpa using hz), hz]
      generalize (lookC l 4 most).1 = N at hbd ⊢
      obtain ⟨N, rfl⟩ : ∃ k : Nat, N = k := ⟨N.toNat, by omega⟩
      rw [Int.toNat_natCast]
      by_cases hN : l.length - 4 < N
      · rw [if_pos hN]
        repeat' (first|(refine ycf ?_;apply ybk;(·first|(first|(apply qv_nilCheck;rfl)|exact qv_len_bstr rfl|exact tk_));(·rfl);(·rfl))|refine t1_ ?_|(refine ta_ ?_;intro _)|((fail_if_success (refine ybi rfl ?_));refine ybj rfl ?_ ?_<;>(intro ht;rw [ht];first|replace ht := oet_ ht|replace ht := oef_ ht|skip))|(refine ych ?_;first|(refine ybw rfl ?_ ?_<;>intro ht)|(refine ybx rfl ?_ ?_<;>intro ht)))
        exact nx_ret1 rfl (rv_tmp rfl) (fun w' s' => ⟨(), rfl, s', trivial⟩)
      · rw [if_neg hN]
        have hcat : (l.drop 4).drop N = l.drop (4 + N) := by rw [List.drop_drop]
        have hw : IntKind.i64.wrap (4 + (N : Int)) = ((4 + N : Nat) : Int) := by rw [IntKind.wrap_i64]; omega
        rw [hcat]
        repeat' (first|(refine ycf ?_;apply ybk;(·first|(first|(apply qv_nilCheck;rfl)|exact qv_len_bstr rfl|exact qv_add' rfl rfl hw|exact qv_str_mid (i := 4) (k := N) rfl rfl rfl rfl (by omega)|exact qv_str_from (i := 4 + N) rfl rfl (by omega)|exact tk_));(·rfl);(·rfl))|refine t1_ ?_|(refine ta_ ?_;intro _)|((fail_if_success (refine ybi rfl ?_));refine ybj rfl ?_ ?_<;>(intro ht;rw [ht];first|replace ht := oet_ ht|replace ht := oef_ ht|skip))|(refine ych ?_;first|(refine ybw rfl ?_ ?_<;>intro ht)|(refine ybx rfl ?_ ?_<;>intro ht)))
        exact nx_ret1 rfl (rv_tmp rfl) (fun w' s' => ⟨(), rfl, s', trivial⟩)
    · rw [if_pos hz, lookC_bad hz]
      generalize (lookC l 4 most).2 = E at hz ⊢
      repeat' (first|(refine ycf ?_;apply ybk;(·first|(first|(apply qv_nilCheck;rfl)|exact tk_));(·rfl);(·rfl))|refine t1_ ?_|(refine ta_ ?_;intro _)|((fail_if_success (refine ybi rfl ?_));refine ybj rfl ?_ ?_<;>(intro ht;rw [ht];first|replace ht := oet_ ht|replace ht := oef_ ht|skip))|(refine ych ?_;first|(refine ybw rfl ?_ ?_<;>intro ht)|(refine ybx rfl ?_ ?_<;>intro ht)))
      exact nx_ret1 rfl (rv_tmp rfl) (fun w' s' => ⟨(), rfl, s', trivial⟩)
  · rw [if_pos he]
    repeat' (first|(refine ycf ?_;apply ybk;(·first|(first|(apply qv_nilCheck;rfl)|exact tk_));(·rfl);(·rfl))|refine t1_ ?_|(refine ta_ ?_;intro _)|((fail_if_success (refine ybi rfl ?_));refine ybj rfl ?_ ?_<;>(intro ht;rw [ht];first|replace ht := oet_ ht|replace ht := oef_ ht|skip))|(refine ych ?_;first|(refine ybw rfl ?_ ?_<;>intro ht)|(refine ybx rfl ?_ ?_<;>intro ht)))
    exact nx_ret1 rfl (rv_tmp rfl) (fun w' s' => ⟨(), rfl, s', trivial⟩)
end Go.Proofs.YtgeepceieckooaaGreatDoor
end

section
namespace Go.Proofs.YtgeepceieckooaaGreatDoor
open Go Go.Ck
set_option maxRecDepth 100000
set_option maxHeartbeats 2000000
set_option linter.unusedVariables false
def up32 (l : List W32) : List Value := l.map v32
def pad32 (n : Nat) (l : List W32) : List W32 := l ++ List.replicate (n - l.length) 0
theorem up32_len (l : List W32) : (up32 l).length = l.length := by simp [up32]
theorem pad32_len {n : Nat} {l : List W32} (h : l.length ≤ n) : (pad32 n l).length = n := by simp [pad32]; omega
theorem pad32_full {n : Nat} {l : List W32} (h : l.length = n) : pad32 n l = l := by simp [pad32, h]
theorem pad32_set {n k : Nat} {l : List W32} {x : W32} (hk : l.length = k) (h : k < n) : (pad32 n l).set k x = pad32 n (l ++ [x]) := by
  subst hk
  unfold pad32
  rw [List.set_append_right _ _ (Nat.le_refl _), Nat.sub_self, show n - l.length = (n - (l ++ [x]).length) + 1 by simp; omega, List.replicate_succ, List.set_cons_zero]
  simp
theorem up32_at {l : List W32} {k : Nat} {x : W32} (h : l[k]? = some x) : (up32 l)[k]? = some (v32 x) := by
  unfold up32
  rw [List.getElem?_map, h]
  rfl
theorem cell_w {h : View} {L : List Res} {b k : Nat} {l : List W32} {x : W32} {i : Nat} (c : Cells h L ⟨b, 0, none⟩ (up32 l)) (hk : l[k]? = some x) (hi : i = k) : CellAt h L b i (v32 x) := by
  subst hi
  have := c.cell (up32_at hk)
  rwa [Nat.zero_add] at this
theorem spl_w {l : List W32} {x : W32} {i o : Nat} (ho : o = i) (hi : i < l.length) : spl (up32 l).toArray.toList o (v32 x).cells.toList = up32 (l.set i x) := by
  subst ho
  show spl (up32 l) o [v32 x] = _
  unfold spl up32
  rw [List.map_set, List.set_eq_take_append_cons_drop]
  simp [hi]
theorem fit_w {l : List W32} {x : W32} {n i o : Nat} (hu : l.length = n) (ho : o = i) (hi : i < n) : o + (v32 x).cells.size ≤ (up32 l).toArray.size := by
  subst ho
  show o + 1 ≤ (up32 l).toArray.size
  simp [up32_len, hu]
  omega
theorem w_sz {l : List W32} {n : Nat} (h : l.length = n) : (Value.agg (up32 l).toArray).cells.size = n := by
  show (up32 l).toArray.size = n
  simp [up32_len, h]
theorem w_fit {l : List W32} {cs : Array Value} {n : Nat} (h : l.length = n) (hc : cs.size = n) : 0 + (Value.agg (up32 l).toArray).cells.size ≤ cs.size := by rw [w_sz h, hc]; omega
theorem w_all {l : List W32} {cs : List Value} {n : Nat} (h : l.length = n) (hc : cs.length = n) : (Value.agg (up32 l).toArray).cells.toList.length = cs.length := by
  rw [hc]
  show (up32 l).length = n
  rw [up32_len, h]
theorem w_one (l : List W32) : (Value.agg (up32 l).toArray).cells.toList.all Value.oneCell' = true := by
  show (up32 l).all Value.oneCell' = true
  refine List.all_eq_true.2 fun x hx => ?_
  obtain ⟨a, _, rfl⟩ := List.mem_map.1 hx
  rfl
section
variable {P : Program} {n : Nat} {F : List (Nat × Value)} {h : View} {L : List Res} {dst : Option Nat} {ty : Nat} {pos : String} {af : Array Edge} {gd : Option (Nat × Bool)}
end
theorem bs_mid {h : View} {ad : Option Addr} {cap : Nat} {l : List Int} (s : Bs8 h (.slice ad l.length cap) l) {i j : Nat} (hij : i ≤ j) (hj : j ≤ l.length) : Bs8 h (.slice (cutF ad cap i 1) (j - i) (cap - i)) ((l.drop i).take (j - i)) := by
  have h1 := sc_drop s (by decide) (j := i) (by omega)
  have h2 := sc_take h1 (j := j - i) (by omega)
  unfold Bs8
  have e1 : ((l.drop i).take (j - i)).length = j - i := by simp; omega
  have e2 : bcs ((l.drop i).take (j - i)) = ((bcs l).drop (i * 1)).take ((j - i) * 1) := by simp [bcs]
  rw [e1, e2]
  exact h2
end Go.Proofs.YtgeepceieckooaaGreatDoor
end

section
namespace Go.Proofs.YtgeepceieckooaaGreatDoor
open Go Go.Ck
set_option maxRecDepth 100000
set_option maxHeartbeats 4000000
set_option linter.unusedVariables false
def shK : List W32 := [1116352408, 1899447441, 3049323471, 3921009573, 961987163, 1508970993, 2453635748, 2870763221, 3624381080, 310598401, 607225278, 1426881987, 1925078388, 2162078206, 2614888103, 3248222580, 3835390401, 4022224774, 264347078, 604807628, 770255983, 1249150122, 1555081692, 1996064986, 2554220882, 2821834349, 2952996808, 3210313671, 3336571891, 3584528711, 113926993, 338241895, 666307205, 773529912, 1294757372, 1396182291, 1695183700, 1986661051, 2177026350, 2456956037, 2730485921, 2820302411, 3259730800, 3345764771, 3516065817, 3600352804, 4094571909, 275423344, 430227734, 506948616, 659060556, 883997877, 958139571, 1322822218, 1537002063, 1747873779, 1955562222, 2024104815, 2227730452, 2361852424, 2428436474, 2756734187, 3204031479, 3329325298]
def shH : List W32 := [1779033703, 3144134277, 1013904242, 2773480762, 1359893119, 2600822924, 528734635, 1541459225]
def ShG (h : View) : Prop := (∃ e fz, h 1 = some (.cells (up32 shK).toArray e fz)) ∧ ∃ e fz, h 0 = some (.cells (up32 shH).toArray e fz)
theorem ShG.mono {h h' : View} (g : ShG h) (hl : Le h h') : ShG h' := by
  obtain ⟨⟨e, fz, g1⟩, e', fz', g2⟩ := g
  exact ⟨⟨e, fz, hl _ _ g1⟩, e', fz', hl _ _ g2⟩
theorem getD_at {l : List W32} {i : Nat} (h : i < l.length) : l[i]? = some (l.getD i 0) := by
  rw [List.getD_eq_getElem?_getD, List.getElem?_eq_getElem h]
  rfl
end Go.Proofs.YtgeepceieckooaaGreatDoor
end

section
namespace Go.Proofs.YtgeepceieckooaaGreatDoor
open Go Go.Ck
set_option maxRecDepth 100000
set_option maxHeartbeats 4000000
set_option linter.unusedVariables false
def qstep (s : List W32) (a b c d : Nat) (x y : Int) : List W32 :=
  let s := s.set a (s.getD a 0 + s.getD b 0)
  let s := s.set d (rotL (s.getD d 0 ^^^ s.getD a 0) (turnK x))
  let s := s.set c (s.getD c 0 + s.getD d 0)
  s.set b (rotL (s.getD b 0 ^^^ s.getD c 0) (turnK y))
theorem qstep_len (s : List W32) (a b c d : Nat) (x y : Int) : (qstep s a b c d x y).length = s.length := by simp [qstep]
def quarterF (s : List W32) (a b c d : Nat) : List W32 := qstep (qstep s a b c d 16 12) a b c d 8 7
theorem quarterF_len (s : List W32) (a b c d : Nat) : (quarterF s a b c d).length = s.length := by simp [quarterF, qstep_len]
section
variable {P : Program} {n : Nat} {F : List (Nat × Value)} {h : View} {L : List Res} {dst : Option Nat} {ty : Nat} {pos : String} {af : Array Edge} {gd : Option (Nat × Bool)}
theorem qv_index_agg {T : Nat} {x y : Operand} {cs vs : Array Value} {len : Nat} {ki : IntKind} {i : Int} {e k : Nat} [tu : TyU P T (.array len e)] [ta : TyA P e true] [ts : TyS P e k] (hx : ev F x = some (.agg cs)) (hy : ev F y = some (.int ki i))
    (h0 : 0 ≤ i) (h1 : i < len) (hv : cs.extract (i.toNat * k) (i.toNat * k + k) = vs) : QV P n F h L ⟨dst, .index T x y, ty, pos, af, gd⟩ (.agg vs) := .mk fun a w f s => by
  simp [execOp, f.ev hx, f.ev hy, Instr.index, asIntOf, run_underlying tu.u, h0, h1, ts.s, part, ta.a, hv]
end
def qby (k : Nat) : Int × Int := if k = 0 then (16, 12) else (8, 7)
def qF (st : List W32) (a b c d : Nat) : Nat → List W32
  | 0 => st
  | k + 1 => qstep (qF st a b c d k) a b c d (qby k).1 (qby k).2
theorem qF_len (st : List W32) (a b c d : Nat) : ∀ k, (qF st a b c d k).length = st.length
  | 0 => rfl
  | k + 1 => by rw [qF, qstep_len, qF_len st a b c d k]
theorem quarter_sp (bs : Nat) (e : TypeId) (st : List W32) (a b c d : Nat) (h16 : st.length = 16) (ha : a < 16) (hb : b < 16) (hc : c < 16) (hd : d < 16) (h : View) (w : World) (s : St ⟨w, h, doms [Res.blk bs (.cells (up32 st).toArray e (0, 0))]⟩ h [Res.blk bs (.cells (up32 st).toArray e (0, 0))] w) :
    Calls Tryz.prog 137 [.pointer (some ⟨bs, 0, none⟩), .int .i64 (a : Nat), .int .i64 (b : Nat), .int .i64 (c : Nat), .int .i64 (d : Nat)].toArray w fun r w' => r = .returned (.tuple #[]) ∧ St ⟨w, h, doms [Res.blk bs (.cells (up32 st).toArray e (0, 0))]⟩ h [Res.blk bs (.cells (up32 (quarterF st a b c d)).toArray e (0, 0))] w' := by
  refine calls_enter Tryz.func137 rfl Tryz.ntmps137 rfl s ?_
  repeat' (first|(refine ycf ?_;apply ybk;(·first|(apply qv_build_arr<;>rfl));(·rfl);(·rfl))|refine t1_ ?_|(refine ta_ ?_;intro _)|((fail_if_success (refine ybi rfl ?_));refine ybj rfl ?_ ?_<;>(intro ht;rw [ht];first|replace ht := oet_ ht|replace ht := oef_ ht|skip))|(refine ych ?_;first|(refine ybw rfl ?_ ?_<;>intro ht)|(refine ybx rfl ?_ ?_<;>intro ht)))
  refine cx_loop (X := Nat) (fun k => [(0, .pointer (some ⟨bs, 0, none⟩)), (1, .int .i64 (a : Nat)), (2, .int .i64 (b : Nat)), (3, .int .i64 (c : Nat)), (4, .int .i64 (d : Nat)), (14, .agg #[.int .i64 16, .int .i64 12, .int .i64 8, .int .i64 7]), (15, .int .i64 (k : Nat))]) (fun _ => h)
    (fun k => [Res.blk bs (.cells (up32 (qF st a b c d k)).toArray e (0, 0))]) (fun k => k ≤ 2) (fun k => 2 - k) 0 (Nat.zero_le _) ts_ (fun _ s => s) ?_
  intro k hk
  have l0 : (qF st a b c d k).length = 16 := by rw [qF_len, h16]
  by_cases hk2 : k < 2
  · have hix : (#[Value.int .i64 16, .int .i64 12, .int .i64 8, .int .i64 7] : Array Value).extract ((k : Int).toNat * 2) ((k : Int).toNat * 2 + 2) = #[.int .i64 (qby k).1, .int .i64 (qby k).2] := by
      rcases (by omega : k = 0 ∨ k = 1) with rfl | rfl <;> rfl
    have hnx : qF st a b c d (k + 1) = qstep (qF st a b c d k) a b c d (qby k).1 (qby k).2 := rfl
    generalize qF st a b c d k = s0 at l0 hnx ⊢
    generalize (qby k).1 = x at hix hnx
    generalize (qby k).2 = y at hix hnx
    have ca := getD_at (l := s0) (i := a) (by omega)
    have cb := getD_at (l := s0) (i := b) (by omega)
    obtain ⟨s1, e1⟩ : ∃ s1, s1 = s0.set a (s0.getD a 0 + s0.getD b 0) := ⟨_, rfl⟩
    have l1 : s1.length = 16 := by rw [e1, List.length_set, l0]
    have cd1 := getD_at (l := s1) (i := d) (by omega)
    have ca1 := getD_at (l := s1) (i := a) (by omega)
    obtain ⟨s2, e2⟩ : ∃ s2, s2 = s1.set d (rotL (s1.getD d 0 ^^^ s1.getD a 0) (turnK x)) := ⟨_, rfl⟩
    have l2 : s2.length = 16 := by rw [e2, List.length_set, l1]
    have cc2 := getD_at (l := s2) (i := c) (by omega)
    have cd2 := getD_at (l := s2) (i := d) (by omega)
    obtain ⟨s3, e3⟩ : ∃ s3, s3 = s2.set c (s2.getD c 0 + s2.getD d 0) := ⟨_, rfl⟩
    have l3 : s3.length = 16 := by rw [e3, List.length_set, l2]
    have cb3 := getD_at (l := s3) (i := b) (by omega)
    have cc3 := getD_at (l := s3) (i := c) (by omega)
    obtain ⟨s4, e4⟩ : ∃ s4, s4 = s3.set b (rotL (s3.getD b 0 ^^^ s3.getD c 0) (turnK y)) := ⟨_, rfl⟩
    have e5 : qstep s0 a b c d x y = s4 := by rw [e4, e3, e2, e1]; rfl
    rw [e5] at hnx
    repeat' (first|(refine ycf ?_;apply ybk;(·first|(first|exact tk_|(apply qv_addw<;>rfl)|(apply qv_xorw<;>rfl)|(refine qv_index_agg rfl rfl (by omega) (by omega) hix))|(apply yae;(·rfl);(·(first|exact cell_w (yaz 1 rfl) ca (by omega)|exact cell_w (yaz 1 rfl) cb (by omega)))));(·rfl);(·rfl))|(refine ybg 1 rfl rfl rfl rfl (fit_w (n := 16) (i := a) l0 (by omega) (by omega)) rfl ((spl_w (i := a) (by omega) (by omega)).trans (congrArg up32 e1.symm)) rfl rfl ?_ ?_ ?_;(·(exact to_));(·(exact to_)))|refine t1_ ?_|(refine ta_ ?_;intro _)|((fail_if_success (refine ybi rfl ?_));refine ybj rfl ?_ ?_<;>(intro ht;rw [ht];first|replace ht := oet_ ht|replace ht := oef_ ht|skip))|(refine ych ?_;first|(refine ybw rfl ?_ ?_<;>intro ht)|(refine ybx rfl ?_ ?_<;>intro ht)))
    refine cx_region_draw' rfl (by kernel_rfl) ?_
    repeat' (refine ycf ?_;(first|(first|(apply ybm;(·(first|(first|exact tk_|(apply qv_addw<;>rfl)|(apply qv_xorw<;>rfl)|(refine qv_index_agg rfl rfl (by omega) (by omega) hix))|(apply yae;(·rfl);(·(first|exact cell_w (yaz 1 rfl) ca (by omega)|exact cell_w (yaz 1 rfl) cb (by omega))))|exact tq_));(·rfl);(·rfl);(·(exact th_)))|refine ybl rfl rfl ?_|((fail_if_success (refine ybi rfl ?_));refine ybj rfl ?_ ?_<;>(intro ht;rw [ht];first|replace ht := oet_ ht|replace ht := oef_ ht|skip))|(refine tb_ ?_ ?_ ?_;(·(exact to_));(·intro _;(exact to_));intro _)|(first|(refine ybg 1 rfl rfl rfl rfl (fit_w (n := 16) (i := a) l0 (by omega) (by omega)) rfl ((spl_w (i := a) (by omega) (by omega)).trans (congrArg up32 e1.symm)) rfl rfl ?_ ?_ ?_;(·(exact to_));(·(exact to_)))|(refine tqs_ ?_ ?_ ?_;(·(exact to_));(·(exact to_))))|(apply ybn;(·(first|(first|exact tk_|(apply qv_addw<;>rfl)|(apply qv_xorw<;>rfl)|(refine qv_index_agg rfl rfl (by omega) (by omega) hix))|(apply yae;(·rfl);(·(first|exact cell_w (yaz 1 rfl) ca (by omega)|exact cell_w (yaz 1 rfl) cb (by omega))))|exact tq_));(·rfl);(·rfl);(·rfl);(·(exact to_))))|refine ycg ?_))
    repeat' (first|(refine ycf ?_;apply ybk;(·first|(first|exact tk_|(apply qv_addw<;>rfl)|(apply qv_xorw<;>rfl)|(refine qv_index_agg rfl rfl (by omega) (by omega) hix))|(apply yae;(·rfl);(·(first|exact cell_w (yaz 1 rfl) ca1 (by omega)|exact cell_w (yaz 1 rfl) cd1 (by omega)))));(·rfl);(·rfl))|(refine ybg 1 rfl rfl rfl rfl (fit_w (n := 16) (i := d) l1 (by omega) (by omega)) rfl ((spl_w (i := d) (by omega) (by omega)).trans (congrArg up32 e2.symm)) rfl rfl ?_ ?_ ?_;(·(exact to_));(·(exact to_)))|refine t1_ ?_|(refine ta_ ?_;intro _)|((fail_if_success (refine ybi rfl ?_));refine ybj rfl ?_ ?_<;>(intro ht;rw [ht];first|replace ht := oet_ ht|replace ht := oef_ ht|skip))|(refine ych ?_;first|(refine ybw rfl ?_ ?_<;>intro ht)|(refine ybx rfl ?_ ?_<;>intro ht)))
    refine cx_region_draw' rfl (by kernel_rfl) ?_
    repeat' (refine ycf ?_;(first|(first|(apply ybm;(·(first|(first|exact tk_|(apply qv_addw<;>rfl)|(apply qv_xorw<;>rfl)|(refine qv_index_agg rfl rfl (by omega) (by omega) hix))|(apply yae;(·rfl);(·(first|exact cell_w (yaz 1 rfl) ca1 (by omega)|exact cell_w (yaz 1 rfl) cd1 (by omega))))|exact tq_));(·rfl);(·rfl);(·(exact th_)))|refine ybl rfl rfl ?_|((fail_if_success (refine ybi rfl ?_));refine ybj rfl ?_ ?_<;>(intro ht;rw [ht];first|replace ht := oet_ ht|replace ht := oef_ ht|skip))|(refine tb_ ?_ ?_ ?_;(·(exact to_));(·intro _;(exact to_));intro _)|(first|(refine ybg 1 rfl rfl rfl rfl (fit_w (n := 16) (i := d) l1 (by omega) (by omega)) rfl ((spl_w (i := d) (by omega) (by omega)).trans (congrArg up32 e2.symm)) rfl rfl ?_ ?_ ?_;(·(exact to_));(·(exact to_)))|(refine tqs_ ?_ ?_ ?_;(·(exact to_));(·(exact to_))))|(apply ybn;(·(first|(first|exact tk_|(apply qv_addw<;>rfl)|(apply qv_xorw<;>rfl)|(refine qv_index_agg rfl rfl (by omega) (by omega) hix))|(apply yae;(·rfl);(·(first|exact cell_w (yaz 1 rfl) ca1 (by omega)|exact cell_w (yaz 1 rfl) cd1 (by omega))))|exact tq_));(·rfl);(·rfl);(·rfl);(·(exact to_))))|refine ycg ?_))
    (refine ycn (ycp Tryz.func145 rfl (by kernel_rfl) rfl) (Left_sp (s1.getD d 0 ^^^ s1.getD a 0) x h) rfl rfl rfl ?_ ?_; (· (exact to_)))
    repeat' (refine ycf ?_;(first|(first|(apply ybm;(·(first|(first|exact tk_|(apply qv_addw<;>rfl)|(apply qv_xorw<;>rfl)|(refine qv_index_agg rfl rfl (by omega) (by omega) hix))|(apply yae;(·rfl);(·(first|exact cell_w (yaz 1 rfl) ca1 (by omega)|exact cell_w (yaz 1 rfl) cd1 (by omega))))|exact tq_));(·rfl);(·rfl);(·(exact th_)))|refine ybl rfl rfl ?_|((fail_if_success (refine ybi rfl ?_));refine ybj rfl ?_ ?_<;>(intro ht;rw [ht];first|replace ht := oet_ ht|replace ht := oef_ ht|skip))|(refine tb_ ?_ ?_ ?_;(·(exact to_));(·intro _;(exact to_));intro _)|(first|(refine ybg 1 rfl rfl rfl rfl (fit_w (n := 16) (i := d) l1 (by omega) (by omega)) rfl ((spl_w (i := d) (by omega) (by omega)).trans (congrArg up32 e2.symm)) rfl rfl ?_ ?_ ?_;(·(exact to_));(·(exact to_)))|(refine tqs_ ?_ ?_ ?_;(·(exact to_));(·(exact to_))))|(apply ybn;(·(first|(first|exact tk_|(apply qv_addw<;>rfl)|(apply qv_xorw<;>rfl)|(refine qv_index_agg rfl rfl (by omega) (by omega) hix))|(apply yae;(·rfl);(·(first|exact cell_w (yaz 1 rfl) ca1 (by omega)|exact cell_w (yaz 1 rfl) cd1 (by omega))))|exact tq_));(·rfl);(·rfl);(·rfl);(·(exact to_))))|refine ycg ?_))
    repeat' (first|(refine ycf ?_;apply ybk;(·first|(first|exact tk_|(apply qv_addw<;>rfl)|(apply qv_xorw<;>rfl)|(refine qv_index_agg rfl rfl (by omega) (by omega) hix))|(apply yae;(·rfl);(·(first|exact cell_w (yaz 1 rfl) cc2 (by omega)|exact cell_w (yaz 1 rfl) cd2 (by omega)))));(·rfl);(·rfl))|(refine ybg 1 rfl rfl rfl rfl (fit_w (n := 16) (i := c) l2 (by omega) (by omega)) rfl ((spl_w (i := c) (by omega) (by omega)).trans (congrArg up32 e3.symm)) rfl rfl ?_ ?_ ?_;(·(exact to_));(·(exact to_)))|refine t1_ ?_|(refine ta_ ?_;intro _)|((fail_if_success (refine ybi rfl ?_));refine ybj rfl ?_ ?_<;>(intro ht;rw [ht];first|replace ht := oet_ ht|replace ht := oef_ ht|skip))|(refine ych ?_;first|(refine ybw rfl ?_ ?_<;>intro ht)|(refine ybx rfl ?_ ?_<;>intro ht)))
    refine cx_region_draw' rfl (by kernel_rfl) ?_
    repeat' (refine ycf ?_;(first|(first|(apply ybm;(·(first|(first|exact tk_|(apply qv_addw<;>rfl)|(apply qv_xorw<;>rfl)|(refine qv_index_agg rfl rfl (by omega) (by omega) hix))|(apply yae;(·rfl);(·(first|exact cell_w (yaz 1 rfl) cc2 (by omega)|exact cell_w (yaz 1 rfl) cd2 (by omega))))|exact tq_));(·rfl);(·rfl);(·(exact th_)))|refine ybl rfl rfl ?_|((fail_if_success (refine ybi rfl ?_));refine ybj rfl ?_ ?_<;>(intro ht;rw [ht];first|replace ht := oet_ ht|replace ht := oef_ ht|skip))|(refine tb_ ?_ ?_ ?_;(·(exact to_));(·intro _;(exact to_));intro _)|(first|(refine ybg 1 rfl rfl rfl rfl (fit_w (n := 16) (i := c) l2 (by omega) (by omega)) rfl ((spl_w (i := c) (by omega) (by omega)).trans (congrArg up32 e3.symm)) rfl rfl ?_ ?_ ?_;(·(exact to_));(·(exact to_)))|(refine tqs_ ?_ ?_ ?_;(·(exact to_));(·(exact to_))))|(apply ybn;(·(first|(first|exact tk_|(apply qv_addw<;>rfl)|(apply qv_xorw<;>rfl)|(refine qv_index_agg rfl rfl (by omega) (by omega) hix))|(apply yae;(·rfl);(·(first|exact cell_w (yaz 1 rfl) cc2 (by omega)|exact cell_w (yaz 1 rfl) cd2 (by omega))))|exact tq_));(·rfl);(·rfl);(·rfl);(·(exact to_))))|refine ycg ?_))
    repeat' (first|(refine ycf ?_;apply ybk;(·first|(first|exact tk_|(apply qv_addw<;>rfl)|(apply qv_xorw<;>rfl)|(refine qv_index_agg rfl rfl (by omega) (by omega) hix))|(apply yae;(·rfl);(·(first|exact cell_w (yaz 1 rfl) cb3 (by omega)|exact cell_w (yaz 1 rfl) cc3 (by omega)))));(·rfl);(·rfl))|(refine ybg 1 rfl rfl rfl rfl (fit_w (n := 16) (i := b) l3 (by omega) (by omega)) rfl ((spl_w (i := b) (by omega) (by omega)).trans (congrArg up32 e4.symm)) rfl rfl ?_ ?_ ?_;(·(exact to_));(·(exact to_)))|refine t1_ ?_|(refine ta_ ?_;intro _)|((fail_if_success (refine ybi rfl ?_));refine ybj rfl ?_ ?_<;>(intro ht;rw [ht];first|replace ht := oet_ ht|replace ht := oef_ ht|skip))|(refine ych ?_;first|(refine ybw rfl ?_ ?_<;>intro ht)|(refine ybx rfl ?_ ?_<;>intro ht)))
    refine cx_region_draw' rfl (by kernel_rfl) ?_
    repeat' (refine ycf ?_;(first|(first|(apply ybm;(·(first|(first|exact tk_|(apply qv_addw<;>rfl)|(apply qv_xorw<;>rfl)|(refine qv_index_agg rfl rfl (by omega) (by omega) hix))|(apply yae;(·rfl);(·(first|exact cell_w (yaz 1 rfl) cb3 (by omega)|exact cell_w (yaz 1 rfl) cc3 (by omega))))|exact tq_));(·rfl);(·rfl);(·(exact th_)))|refine ybl rfl rfl ?_|((fail_if_success (refine ybi rfl ?_));refine ybj rfl ?_ ?_<;>(intro ht;rw [ht];first|replace ht := oet_ ht|replace ht := oef_ ht|skip))|(refine tb_ ?_ ?_ ?_;(·(exact to_));(·intro _;(exact to_));intro _)|(first|(refine ybg 1 rfl rfl rfl rfl (fit_w (n := 16) (i := b) l3 (by omega) (by omega)) rfl ((spl_w (i := b) (by omega) (by omega)).trans (congrArg up32 e4.symm)) rfl rfl ?_ ?_ ?_;(·(exact to_));(·(exact to_)))|(refine tqs_ ?_ ?_ ?_;(·(exact to_));(·(exact to_))))|(apply ybn;(·(first|(first|exact tk_|(apply qv_addw<;>rfl)|(apply qv_xorw<;>rfl)|(refine qv_index_agg rfl rfl (by omega) (by omega) hix))|(apply yae;(·rfl);(·(first|exact cell_w (yaz 1 rfl) cb3 (by omega)|exact cell_w (yaz 1 rfl) cc3 (by omega))))|exact tq_));(·rfl);(·rfl);(·rfl);(·(exact to_))))|refine ycg ?_))
    (refine ycn (ycp Tryz.func145 rfl (by kernel_rfl) rfl) (Left_sp (s3.getD b 0 ^^^ s3.getD c 0) y h) rfl rfl rfl ?_ ?_; (· (exact to_)))
    repeat' (refine ycf ?_;(first|(first|(apply ybm;(·(first|(first|exact tk_|(apply qv_addw<;>rfl)|(apply qv_xorw<;>rfl)|(refine qv_index_agg rfl rfl (by omega) (by omega) hix))|(apply yae;(·rfl);(·(first|exact cell_w (yaz 1 rfl) cb3 (by omega)|exact cell_w (yaz 1 rfl) cc3 (by omega))))|exact tq_));(·rfl);(·rfl);(·(exact th_)))|refine ybl rfl rfl ?_|((fail_if_success (refine ybi rfl ?_));refine ybj rfl ?_ ?_<;>(intro ht;rw [ht];first|replace ht := oet_ ht|replace ht := oef_ ht|skip))|(refine tb_ ?_ ?_ ?_;(·(exact to_));(·intro _;(exact to_));intro _)|(first|(refine ybg 1 rfl rfl rfl rfl (fit_w (n := 16) (i := b) l3 (by omega) (by omega)) rfl ((spl_w (i := b) (by omega) (by omega)).trans (congrArg up32 e4.symm)) rfl rfl ?_ ?_ ?_;(·(exact to_));(·(exact to_)))|(refine tqs_ ?_ ?_ ?_;(·(exact to_));(·(exact to_))))|(apply ybn;(·(first|(first|exact tk_|(apply qv_addw<;>rfl)|(apply qv_xorw<;>rfl)|(refine qv_index_agg rfl rfl (by omega) (by omega) hix))|(apply yae;(·rfl);(·(first|exact cell_w (yaz 1 rfl) cb3 (by omega)|exact cell_w (yaz 1 rfl) cc3 (by omega))))|exact tq_));(·rfl);(·rfl);(·rfl);(·(exact to_))))|refine ycg ?_))
    repeat' (first|(refine ycf ?_;apply ybk;(·first|(first|exact tk_|(apply qv_addw<;>rfl)|(apply qv_xorw<;>rfl)|(refine qv_index_agg rfl rfl (by omega) (by omega) hix)));(·rfl);(·rfl))|refine t1_ ?_|(refine ta_ ?_;intro _)|((fail_if_success (refine ybi rfl ?_));refine ybj rfl ?_ ?_<;>(intro ht;rw [ht];first|replace ht := oet_ ht|replace ht := oef_ ht|skip))|(refine ych ?_;first|(refine ybw rfl ?_ ?_<;>intro ht)|(refine ybx rfl ?_ ?_<;>intro ht)))
    refine nx_round (k + 1) (by show k + 1 ≤ 2; omega) (by show 2 - (k + 1) < 2 - k; omega) ts_ (fun _ s => ?_)
    rw [hnx]
    exact s.tl
  · have ek : k = 2 := by omega
    subst ek
    repeat' (first|(refine ycf ?_;apply ybk;(·first|(exact tk_));(·rfl);(·rfl))|refine t1_ ?_|(refine ta_ ?_;intro _)|((fail_if_success (refine ybi rfl ?_));refine ybj rfl ?_ ?_<;>(intro ht;rw [ht];first|replace ht := oet_ ht|replace ht := oef_ ht|skip))|(refine ych ?_;first|(refine ybw rfl ?_ ?_<;>intro ht)|(refine ybx rfl ?_ ?_<;>intro ht)))
    exact nx_end0 rfl (fun w' s' => ⟨rfl, s'⟩)
theorem quarter_spi (ia ib ic id' : Int) (bs : Nat) (e : TypeId) (st : List W32) (a b c d : Nat) (h16 : st.length = 16) (ha : a < 16) (hb : b < 16) (hc : c < 16) (hd : d < 16) (ea : ia = (a : Nat)) (eb : ib = (b : Nat)) (ec : ic = (c : Nat)) (ed : id' = (d : Nat)) (h : View) (w : World) (s : St ⟨w, h, doms [Res.blk bs (.cells (up32 st).toArray e (0, 0))]⟩ h [Res.blk bs (.cells (up32 st).toArray e (0, 0))] w) :
    Calls Tryz.prog 137 [.pointer (some ⟨bs, 0, none⟩), .int .i64 ia, .int .i64 ib, .int .i64 ic, .int .i64 id'].toArray w fun r w' => ∃ x : Unit, r = .returned ((fun _ => .tuple #[]) x) ∧ St ⟨w, h, doms [Res.blk bs (.cells (up32 st).toArray e (0, 0))]⟩ ((fun _ => h) x) ((fun _ => [Res.blk bs (.cells (up32 (quarterF st a b c d)).toArray e (0, 0))]) x) w' ∧ (fun _ => True) x := by
  subst ea eb ec ed
  exact (quarter_sp bs e st a b c d h16 ha hb hc hd h w s).mono fun r w' ⟨h1, h2⟩ => ⟨(), h1, h2, trivial⟩
def colsF (s : List W32) : Nat → List W32
  | 0 => s
  | i + 1 => quarterF (colsF s i) i (4 + i) (8 + i) (12 + i)
def diaF (s : List W32) : Nat → List W32
  | 0 => s
  | i + 1 => quarterF (diaF s i) i (4 + (i + 1) % 4) (8 + (i + 2) % 4) (12 + (i + 3) % 4)
def roundF (s : List W32) : List W32 := diaF (colsF s 4) 4
theorem colsF_len (s : List W32) : ∀ k, (colsF s k).length = s.length
  | 0 => rfl
  | k + 1 => by rw [colsF, quarterF_len, colsF_len s k]
theorem diaF_len (s : List W32) : ∀ k, (diaF s k).length = s.length
  | 0 => rfl
  | k + 1 => by rw [diaF, quarterF_len, diaF_len s k]
theorem roundF_len (s : List W32) : (roundF s).length = s.length := by rw [roundF, diaF_len, colsF_len]
theorem rounds_sp (bs : Nat) (e : TypeId) (st : List W32) (h16 : st.length = 16) (h : View) (w : World) (s : St ⟨w, h, doms [Res.blk bs (.cells (up32 st).toArray e (0, 0))]⟩ h [Res.blk bs (.cells (up32 st).toArray e (0, 0))] w) :
    Calls Tryz.prog 118 [.pointer (some ⟨bs, 0, none⟩)].toArray w fun r w' => r = .returned (.tuple #[]) ∧ St ⟨w, h, doms [Res.blk bs (.cells (up32 st).toArray e (0, 0))]⟩ h [Res.blk bs (.cells (up32 (roundF st)).toArray e (0, 0))] w' := by
  refine calls_enter Tryz.func118 rfl Tryz.ntmps118 rfl s ?_
  repeat' (first|(refine ycf ?_;apply ybk;(·first|(exact tk_));(·rfl);(·rfl))|refine t1_ ?_|(refine ta_ ?_;intro _)|((fail_if_success (refine ybi rfl ?_));refine ybj rfl ?_ ?_<;>(intro ht;rw [ht];first|replace ht := oet_ ht|replace ht := oef_ ht|skip))|(refine ych ?_;first|(refine ybw rfl ?_ ?_<;>intro ht)|(refine ybx rfl ?_ ?_<;>intro ht)))
  refine cx_loop (X := Nat) (fun k => [(0, .pointer (some ⟨bs, 0, none⟩)), (4, .int .i64 (k : Nat))]) (fun _ => h) (fun k => [Res.blk bs (.cells (up32 (colsF st k)).toArray e (0, 0))]) (fun k => k ≤ 4) (fun k => 4 - k) 0 (Nat.zero_le _) ts_ (fun _ s => s) ?_
  intro k hk
  have hl := (colsF_len st k).trans h16
  by_cases hk4 : k < 4
  · --(exact tk_):= (exact tk_)
    repeat' (first|(refine ycf ?_;apply ybk;(·first|(exact tk_));(·rfl);(·rfl))|refine t1_ ?_|(refine ta_ ?_;intro _)|((fail_if_success (refine ybi rfl ?_));refine ybj rfl ?_ ?_<;>(intro ht;rw [ht];first|replace ht := oet_ ht|replace ht := oef_ ht|skip))|(refine ych ?_;first|(refine ybw rfl ?_ ?_<;>intro ht)|(refine ybx rfl ?_ ?_<;>intro ht)))
    (refine rx_call_m (ycp Tryz.func137 rfl (by kernel_rfl) rfl) (perm_at (k := 0) rfl) (quarter_spi (k : Nat) (4 + (k : Nat)) (8 + (k : Nat)) (12 + (k : Nat)) bs e (colsF st k) k (4 + k) (8 + k) (12 + k) hl (by omega) (by omega) (by omega) (by omega) rfl (by omega) (by omega) (by omega) h) rfl rfl rfl ?_ ?_ ?_; (· (exact to_)); (· intro _ _ hle; (exact to_)); intro x px hle)
    repeat' (first|(refine ycf ?_;apply ybk;(·first|(exact tk_));(·rfl);(·rfl))|refine t1_ ?_|(refine ta_ ?_;intro _)|((fail_if_success (refine ybi rfl ?_));refine ybj rfl ?_ ?_<;>(intro ht;rw [ht];first|replace ht := oet_ ht|replace ht := oef_ ht|skip))|(refine ych ?_;first|(refine ybw rfl ?_ ?_<;>intro ht)|(refine ybx rfl ?_ ?_<;>intro ht)))
    exact nx_round (k + 1) (by show k + 1 ≤ 4; omega) (by show 4 - (k + 1) < 4 - k; omega) ts_ (fun _ s => s)
  · have ek : k = 4 := by omega
    subst ek
    have hl0 := hl
    obtain ⟨s0, hs0⟩ : ∃ s0, s0 = colsF st 4 := ⟨_, rfl⟩
    have hR : roundF st = diaF s0 4 := by rw [hs0]; rfl
    rw [← hs0] at hl0
    rw [← hs0, hR]
    repeat' (first|(refine ycf ?_;apply ybk;(·first|(exact tk_));(·rfl);(·rfl))|refine t1_ ?_|(refine ta_ ?_;intro _)|((fail_if_success (refine ybi rfl ?_));refine ybj rfl ?_ ?_<;>(intro ht;rw [ht];first|replace ht := oet_ ht|replace ht := oef_ ht|skip))|(refine ych ?_;first|(refine ybw rfl ?_ ?_<;>intro ht)|(refine ybx rfl ?_ ?_<;>intro ht)))
    refine cx_loop (X := Nat) (fun k => [(0, .pointer (some ⟨bs, 0, none⟩)), (17, .int .i64 (k : Nat))]) (fun _ => h) (fun k => [Res.blk bs (.cells (up32 (diaF s0 k)).toArray e (0, 0))]) (fun k => k ≤ 4) (fun k => 4 - k) 0 (Nat.zero_le _) ts_ (fun _ s => s) ?_
    intro k hk
    have hl := (diaF_len s0 k).trans hl0
    by_cases hk4 : k < 4
    · have m1 : ((k : Int) + 1).tmod 4 = ((k + 1) % 4 : Nat) := by rw [Int.tmod_eq_emod_of_nonneg (by omega)]; omega
      have m2 : ((k : Int) + 2).tmod 4 = ((k + 2) % 4 : Nat) := by rw [Int.tmod_eq_emod_of_nonneg (by omega)]; omega
      have m3 : ((k : Int) + 3).tmod 4 = ((k + 3) % 4 : Nat) := by rw [Int.tmod_eq_emod_of_nonneg (by omega)]; omega
      repeat' (first|(refine ycf ?_;apply ybk;(·first|(first|exact tk_|(refine qv_remr rfl rfl (by decide) m1)|(refine qv_remr rfl rfl (by decide) m2)|(refine qv_remr rfl rfl (by decide) m3)));(·rfl);(·rfl))|refine t1_ ?_|(refine ta_ ?_;intro _)|((fail_if_success (refine ybi rfl ?_));refine ybj rfl ?_ ?_<;>(intro ht;rw [ht];first|replace ht := oet_ ht|replace ht := oef_ ht|skip))|(refine ych ?_;first|(refine ybw rfl ?_ ?_<;>intro ht)|(refine ybx rfl ?_ ?_<;>intro ht)))
      (refine rx_call_m (ycp Tryz.func137 rfl (by kernel_rfl) rfl) (perm_at (k := 0) rfl) (quarter_spi (k : Nat) (4 + ((k + 1) % 4 : Nat)) (8 + ((k + 2) % 4 : Nat)) (12 + ((k + 3) % 4 : Nat)) bs e (diaF s0 k) k (4 + (k + 1) % 4) (8 + (k + 2) % 4) (12 + (k + 3) % 4) hl (by omega) (by omega) (by omega) (by omega) rfl (by omega) (by omega) (by omega) h) rfl rfl rfl ?_ ?_ ?_; (· (exact to_)); (· intro _ _ hle; (exact to_)); intro x px hle)
      repeat' (first|(refine ycf ?_;apply ybk;(·first|(first|exact tk_|(refine qv_remr rfl rfl (by decide) m1)|(refine qv_remr rfl rfl (by decide) m2)|(refine qv_remr rfl rfl (by decide) m3)));(·rfl);(·rfl))|refine t1_ ?_|(refine ta_ ?_;intro _)|((fail_if_success (refine ybi rfl ?_));refine ybj rfl ?_ ?_<;>(intro ht;rw [ht];first|replace ht := oet_ ht|replace ht := oef_ ht|skip))|(refine ych ?_;first|(refine ybw rfl ?_ ?_<;>intro ht)|(refine ybx rfl ?_ ?_<;>intro ht)))
      exact nx_round (k + 1) (by show k + 1 ≤ 4; omega) (by show 4 - (k + 1) < 4 - k; omega) ts_ (fun _ s => s)
    · have ek : k = 4 := by omega
      subst ek
      repeat' (first|(refine ycf ?_;apply ybk;(·first|(exact tk_));(·rfl);(·rfl))|refine t1_ ?_|(refine ta_ ?_;intro _)|((fail_if_success (refine ybi rfl ?_));refine ybj rfl ?_ ?_<;>(intro ht;rw [ht];first|replace ht := oet_ ht|replace ht := oef_ ht|skip))|(refine ych ?_;first|(refine ybw rfl ?_ ?_<;>intro ht)|(refine ybx rfl ?_ ?_<;>intro ht)))
      exact nx_end0 rfl (fun w' s' => ⟨rfl, s'⟩)
end Go.Proofs.YtgeepceieckooaaGreatDoor
end
