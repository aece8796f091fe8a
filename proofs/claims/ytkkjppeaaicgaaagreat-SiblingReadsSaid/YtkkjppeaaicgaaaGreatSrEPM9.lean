/-
  Part 9 of a proof: BitP DotM DotN CkGrow DotT DotU BitL BitM.
  Conditions: each theorem states its own.
-/
import Derived.Lib.AppendZerosOnto
import Derived.Test.YtkkjppeaaicgaaaGreatSrEPM8
section
namespace Go.Proofs.YtkkjppeaaicgaaaGreat
open Go Go.Ck
set_option maxRecDepth 100000
set_option maxHeartbeats 2000000
set_option linter.unusedVariables false

/-- the bytes with their count ahead: what comes of them, and what is left -/
def byC (s : RS) (most : Int) : List Int × RS :=
  if s.2 ≠ 0 then ([], s)
  else if (lookC s.1 4 most).2 ≠ 0 then ([], (s.1, (lookC s.1 4 most).2))
  else if s.1.length - 4 < (lookC s.1 4 most).1.toNat then ([], (s.1, 3))
  else ((s.1.drop 4).take (lookC s.1 4 most).1.toNat, ((s.1.drop 4).drop (lookC s.1 4 most).1.toNat, 0))
def num4 (x : Int) : List Int := (putLow 4 x).reverse
theorem num4_len (x : Int) : (num4 x).length = 4 := by simp [num4, putLow_len]
theorem byC_err {s : RS} (h : s.2 ≠ 0) (most : Int) : byC s most = ([], s) := by unfold byC; rw [if_pos h]
theorem lookC_bd {l : List Int} (hb : Bytes l) {size : Nat} {most : Int} (hm : 0 ≤ most) : 0 ≤ (lookC l size most).1 ∧ (lookC l size most).1 ≤ most := by
  unfold lookC
  split
  · exact ⟨by decide, hm⟩
  · split
    · exact ⟨by decide, hm⟩
    · exact ⟨(valB_bd hb size (by omega)).1, by dsimp only; omega⟩
theorem bytes_take {l : List Int} (hb : Bytes l) (k : Nat) : Bytes (l.take k) := fun b hx => hb b (List.mem_of_mem_take hx)
theorem bytes_drop {l : List Int} (hb : Bytes l) (k : Nat) : Bytes (l.drop k) := fun b hx => hb b (List.mem_of_mem_drop hx)
theorem RsOk.by {s : RS} (h : RsOk s) {most : Int} (hm : 0 ≤ most) : RsOk (byC s most).2 ∧ Bytes (byC s most).1 ∧ ((byC s most).1.length : Int) ≤ most := by
  have hbd := lookC_bd (size := 4) h.b hm
  unfold byC
  split
  · exact ⟨h, (fun b hx => by cases hx), hm⟩
  · split
    · exact ⟨⟨h.b, h.l⟩, (fun b hx => by cases hx), hm⟩
    · split
      · exact ⟨⟨h.b, h.l⟩, (fun b hx => by cases hx), hm⟩
      · refine ⟨⟨bytes_drop (bytes_drop h.b 4) _, ?_⟩, bytes_take (bytes_drop h.b 4) _, ?_⟩
        · have := h.l
          simp only [List.length_drop]; omega
        · simp only [List.length_take, List.length_drop]; omega

theorem skipr_sp (bi : Nat) (v : Value) (l : List Int) (e : Int) (size : Nat) (hsz : size ≤ l.length) (hl : l.length ≤ 1000000) (h : View) (hv : Bs8 h v l) (w : World) (s : St ⟨w, h, doms [inR bi v e]⟩ h [inR bi v e] w) :
    Calls Tryz.prog 36 [.pointer (some ⟨bi, 0, none⟩), .int .i64 size].toArray w fun en w' => ∃ x : View × Value × Value, en = .returned x.2.1 ∧ St ⟨w, h, doms [inR bi v e]⟩ x.1 [inR bi x.2.2 e] w' ∧ (Bs8 x.1 x.2.1 (l.take size) ∧ Bs8 x.1 x.2.2 (l.drop size)) := by
  obtain ⟨_, ad, cap, rfl, hcap, _⟩ := id hv
  have ht1 : Bs8 h (.slice ad size cap) (l.take size) := by
    have := sc_take hv hsz
    unfold Bs8
    rw [List.length_take, Nat.min_eq_left hsz]
    have e : bcs (l.take size) = (bcs l).take (size * 1) := by simp [bcs]
    rw [e]; exact this
  have hd1 : Bs8 h (.slice (cutF ad cap size 1) (l.length - size) (cap - size)) (l.drop size) := by
    have := sc_drop hv (by decide) hsz
    unfold Bs8
    rw [List.length_drop]
    have e : bcs (l.drop size) = (bcs l).drop (size * 1) := by simp [bcs]
    rw [e]; exact this
  refine calls_enter Tryz.func36 rfl Tryz.ntmps36 rfl s ?_
  repeat' (first | (refine ycf ?_; apply ybk; (· first | (first | (apply qv_nilCheck; rfl) | (apply qv_slice_to; (· rfl); (· rfl); (· omega); (· omega)) | (apply qv_slice_from; (· rfl); (· rfl); (· omega)))); (· rfl); (· rfl)) | refine t1_ ?_ | (refine ta_ ?_; intro _) | ((fail_if_success (refine ybi rfl ?_)); refine ybj rfl ?_ ?_ <;> (intro ht; rw [ht]; first | replace ht := of_decide_eq_true ht | replace ht := of_decide_eq_false ht | skip)) | (refine ych ?_; first | (refine ybw rfl ?_ ?_ <;> intro ht) | (refine ybx rfl ?_ ?_ <;> intro ht)))
  (refine yco (ycp Tryz.func31 rfl (by kernel_rfl) rfl) (BClone_sp (.slice ad size cap) (l.take size) h ht1 (by simp; omega)) rfl rfl rfl ?_ ?_ ?_; (· (exact to_)); (· intro _ _ hle; (exact to_)); intro x px hle)
  repeat' (first | (refine ycf ?_; apply ybk; (· first | (first | (apply qv_nilCheck; rfl) | (apply qv_slice_to; (· rfl); (· rfl); (· omega); (· omega)) | (apply qv_slice_from; (· rfl); (· rfl); (· omega)))); (· rfl); (· rfl)) | refine t1_ ?_ | (refine ta_ ?_; intro _) | ((fail_if_success (refine ybi rfl ?_)); refine ybj rfl ?_ ?_ <;> (intro ht; rw [ht]; first | replace ht := of_decide_eq_true ht | replace ht := of_decide_eq_false ht | skip)) | (refine ych ?_; first | (refine ybw rfl ?_ ?_ <;> intro ht) | (refine ybx rfl ?_ ?_ <;> intro ht)))
  refine nx_ret1 rfl (rv_tmp rfl) (fun w' s' => ?_)
  obtain ⟨h2, hle2, hs2, s2⟩ := s'.rowPersistA (by intro x hx; exact hx)
  exact ⟨(h2, x, .slice (cutF ad cap size 1) (l.length - size) (cap - size)), rfl, s2, hs2, hd1.mono hle2⟩

theorem InBytes_sp (bi : Nat) (v : Value) (l : List Int) (e : Int) (most : Int) (hb : Bytes l) (hm : 0 ≤ most ∧ most < 9223372036854775808) (hl : l.length ≤ 1000000) (h : View) (hv : Bs8 h v l) (w : World) (s : St ⟨w, h, doms [inR bi v e]⟩ h [inR bi v e] w) :
    Calls Tryz.prog 14 [.pointer (some ⟨bi, 0, none⟩), .int .i64 most].toArray w fun en w' => ∃ x : View × Value × Value, en = .returned x.2.1 ∧ St ⟨w, h, doms [inR bi v e]⟩ x.1 [inR bi x.2.2 (byC (l, e) most).2.2] w' ∧ (Bs8 x.1 x.2.1 (byC (l, e) most).1 ∧ Bs8 x.1 x.2.2 (byC (l, e) most).2.1) := by
  refine calls_enter Tryz.func14 rfl Tryz.ntmps14 rfl s ?_
  unfold byC
  dsimp only
  by_cases he : e = 0
  · subst he
    rw [if_neg (by simp)]
    have hdead := dead_sp bi v 0 h
    rw [show decide ((0 : Int) ≠ 0) = false by decide] at hdead
    repeat' (first | (refine ycf ?_; apply ybk; (· first | (first | (apply qv_nilCheck; rfl) | (apply qv_slice_to; (· rfl); (· rfl); (· omega); (· omega)) | (apply qv_slice_from; (· rfl); (· rfl); (· omega)))); (· rfl); (· rfl)) | refine t1_ ?_ | (refine ta_ ?_; intro _) | ((fail_if_success (refine ybi rfl ?_)); refine ybj rfl ?_ ?_ <;> (intro ht; rw [ht]; first | replace ht := of_decide_eq_true ht | replace ht := of_decide_eq_false ht | skip)) | (refine ych ?_; first | (refine ybw rfl ?_ ?_ <;> intro ht) | (refine ybx rfl ?_ ?_ <;> intro ht)))
    (refine rx_call_m (ycp Tryz.func34 rfl (by kernel_rfl) rfl) (perm_at (k := 0) rfl) (hdead) rfl rfl rfl ?_ ?_ ?_; (· (exact to_)); (· intro _ _ hle; (exact to_)); intro x px hle)
    repeat' (first | (refine ycf ?_; apply ybk; (· first | (first | (apply qv_nilCheck; rfl) | (apply qv_slice_to; (· rfl); (· rfl); (· omega); (· omega)) | (apply qv_slice_from; (· rfl); (· rfl); (· omega)))); (· rfl); (· rfl)) | refine t1_ ?_ | (refine ta_ ?_; intro _) | ((fail_if_success (refine ybi rfl ?_)); refine ybj rfl ?_ ?_ <;> (intro ht; rw [ht]; first | replace ht := of_decide_eq_true ht | replace ht := of_decide_eq_false ht | skip)) | (refine ych ?_; first | (refine ybw rfl ?_ ?_ <;> intro ht) | (refine ybx rfl ?_ ?_ <;> intro ht)))
    (refine rx_call_m (ycp Tryz.func35 rfl (by kernel_rfl) rfl) (perm_at (k := 0) rfl) (look_sp bi v l 4 most hb (by omega) (by omega) hm hl h hv) rfl rfl rfl ?_ ?_ ?_; (· (exact to_)); (· intro _ _ hle; (exact to_)); intro x px hle)
    have hbd := lookC_bd (size := 4) hb hm.1
    by_cases hz : (lookC l 4 most).2 = 0
    · have hsl := lookC_len hz
      rw [if_neg (by simpa using hz), hz]
      generalize (lookC l 4 most).1 = N at hbd ⊢
      obtain ⟨N, rfl⟩ : ∃ k : Nat, N = k := ⟨N.toNat, by omega⟩
      rw [Int.toNat_natCast]
      obtain ⟨_, ad, cap, rfl, hcap, _⟩ := id hv
      by_cases hN : l.length - 4 < N
      · rw [if_pos hN]
        repeat' (first | (refine ycf ?_; apply ybk; (· first | (exact tk_)); (· rfl); (· rfl)) | refine t1_ ?_ | (refine ta_ ?_; intro _) | ((fail_if_success (refine ybi rfl ?_)); refine ybj rfl ?_ ?_ <;> (intro ht; rw [ht]; first | replace ht := of_decide_eq_true ht | replace ht := of_decide_eq_false ht | skip)) | (refine ych ?_; first | (refine ybw rfl ?_ ?_ <;> intro ht) | (refine ybx rfl ?_ ?_ <;> intro ht)))
        exact nx_ret1 rfl (rv_tmp rfl) (fun w' s' => ⟨(h, .slice none 0 0, .slice ad l.length cap), rfl, s', Sc.nil h 1 none 0, hv⟩)
      · rw [if_neg hN]
        repeat' (first | (refine ycf ?_; apply ybk; (· first | (exact tk_)); (· rfl); (· rfl)) | refine t1_ ?_ | (refine ta_ ?_; intro _) | ((fail_if_success (refine ybi rfl ?_)); refine ybj rfl ?_ ?_ <;> (intro ht; rw [ht]; first | replace ht := of_decide_eq_true ht | replace ht := of_decide_eq_false ht | skip)) | (refine ych ?_; first | (refine ybw rfl ?_ ?_ <;> intro ht) | (refine ybx rfl ?_ ?_ <;> intro ht)))
        (refine rx_call_m (ycp Tryz.func36 rfl (by kernel_rfl) rfl) (perm_at (k := 0) rfl) (skipr_sp bi _ l 0 4 hsl hl h hv) rfl rfl rfl ?_ ?_ ?_; (· (exact to_)); (· intro _ _ hle; (exact to_)); intro x px hle)
        obtain ⟨h1, v1, v2⟩ := x
        obtain ⟨p1, p2⟩ := px
        dsimp only at p1 p2 hle ⊢
        have hle1 := hle
        repeat' (first | (refine ycf ?_; apply ybk; (· first | (exact tk_)); (· rfl); (· rfl)) | refine t1_ ?_ | (refine ta_ ?_; intro _) | ((fail_if_success (refine ybi rfl ?_)); refine ybj rfl ?_ ?_ <;> (intro ht; rw [ht]; first | replace ht := of_decide_eq_true ht | replace ht := of_decide_eq_false ht | skip)) | (refine ych ?_; first | (refine ybw rfl ?_ ?_ <;> intro ht) | (refine ybx rfl ?_ ?_ <;> intro ht)))
        (refine rx_call_m (ycp Tryz.func36 rfl (by kernel_rfl) rfl) (perm_at (k := 0) rfl) (skipr_sp bi v2 (l.drop 4) 0 N (by rw [List.length_drop]; omega) (by rw [List.length_drop]; omega) h1 p2) rfl rfl rfl ?_ ?_ ?_; (· (exact to_)); (· intro _ _ hle; (exact to_)); intro x px hle)
        repeat' (first | (refine ycf ?_; apply ybk; (· first | (exact tk_)); (· rfl); (· rfl)) | refine t1_ ?_ | (refine ta_ ?_; intro _) | ((fail_if_success (refine ybi rfl ?_)); refine ybj rfl ?_ ?_ <;> (intro ht; rw [ht]; first | replace ht := of_decide_eq_true ht | replace ht := of_decide_eq_false ht | skip)) | (refine ych ?_; first | (refine ybw rfl ?_ ?_ <;> intro ht) | (refine ybx rfl ?_ ?_ <;> intro ht)))
        exact nx_ret1 rfl (rv_tmp rfl) (fun w' s' => ⟨x, rfl, s', px⟩)
    · have hf := lookC_bad hz
      rw [if_pos hz, hf]
      generalize (lookC l 4 most).2 = E at hz ⊢
      repeat' (first | (refine ycf ?_; apply ybk; (· first | (exact tk_)); (· rfl); (· rfl)) | refine t1_ ?_ | (refine ta_ ?_; intro _) | ((fail_if_success (refine ybi rfl ?_)); refine ybj rfl ?_ ?_ <;> (intro ht; rw [ht]; first | replace ht := of_decide_eq_true ht | replace ht := of_decide_eq_false ht | skip)) | (refine ych ?_; first | (refine ybw rfl ?_ ?_ <;> intro ht) | (refine ybx rfl ?_ ?_ <;> intro ht)))
      exact nx_ret1 rfl (rv_tmp rfl) (fun w' s' => ⟨(h, .slice none 0 0, v), rfl, s', Sc.nil h 1 none 0, hv⟩)
  · rw [if_pos he]
    have hdead := dead_sp bi v e h
    rw [decide_eq_true he] at hdead
    repeat' (first | (refine ycf ?_; apply ybk; (· first | (exact tk_)); (· rfl); (· rfl)) | refine t1_ ?_ | (refine ta_ ?_; intro _) | ((fail_if_success (refine ybi rfl ?_)); refine ybj rfl ?_ ?_ <;> (intro ht; rw [ht]; first | replace ht := of_decide_eq_true ht | replace ht := of_decide_eq_false ht | skip)) | (refine ych ?_; first | (refine ybw rfl ?_ ?_ <;> intro ht) | (refine ybx rfl ?_ ?_ <;> intro ht)))
    (refine rx_call_m (ycp Tryz.func34 rfl (by kernel_rfl) rfl) (perm_at (k := 0) rfl) (hdead) rfl rfl rfl ?_ ?_ ?_; (· (exact to_)); (· intro _ _ hle; (exact to_)); intro x px hle)
    repeat' (first | (refine ycf ?_; apply ybk; (· first | (exact tk_)); (· rfl); (· rfl)) | refine t1_ ?_ | (refine ta_ ?_; intro _) | ((fail_if_success (refine ybi rfl ?_)); refine ybj rfl ?_ ?_ <;> (intro ht; rw [ht]; first | replace ht := of_decide_eq_true ht | replace ht := of_decide_eq_false ht | skip)) | (refine ych ?_; first | (refine ybw rfl ?_ ?_ <;> intro ht) | (refine ybx rfl ?_ ?_ <;> intro ht)))
    exact nx_ret1 rfl (rv_tmp rfl) (fun w' s' => ⟨(h, .slice none 0 0, v), rfl, s', Sc.nil h 1 none 0, hv⟩)

theorem qv_neq_pnil {P : Program} {n : Nat} {F : List (Nat × Value)} {h : View} {L : List Res} {dst : Option Nat} {ty : Nat} {pos : String} {af : Array Edge} {gd : Option (Nat × Bool)} {T T' e : Nat} {x y : Operand} {ad : Addr} [tu : TyU P T (.pointer e)] (hx : ev F x = some (.pointer (some ad))) (hy : ev F y = some (.pointer none)) :
    QV P n F h L ⟨dst, .binOp .neq T x y T', ty, pos, af, gd⟩ (.bool true) := by
  refine .mk fun a w f s => ?_
  have hp : P.underlying T = some (.pointer (P.pointee T)) := by
    have := tu.u
    simp [Program.pointee, this]
  have hg : (eqGuard .neq T x y (.pointer (some ad)) (.pointer none)).run P w = .ok () w := by simp [eqGuard]
  have he := run_equal_pointer_nil (P := P) (w := w) T (some ad) hp
  simp only [execOp, f.ev hx, f.ev hy, Sem.run_bind, hg, Result.andThen_ok, binOp, he]
  rfl

theorem OutFixed_sp (bo : Nat) (v : Value) (l : List Int) (bad : Bool) (bv : Value) (b : List Int) (hl : l.length + b.length ≤ 1000000) (h : View) (hb : Bs8 h bv b) (w : World) (s : St ⟨w, h, doms [outR bo v bad, rowB v l]⟩ h [outR bo v bad, rowB v l] w) :
    Calls Tryz.prog 56 [.pointer (some ⟨bo, 0, none⟩), bv].toArray w fun e w' => ∃ x : Value, e = .returned (.pointer (some ⟨bo, 0, none⟩)) ∧
      St ⟨w, h, doms [outR bo v bad, rowB v l]⟩ h [outR bo x bad, rowB x (l ++ b)] w' ∧ True := by
  obtain ⟨_, ad, cap, rfl, hcap, _⟩ := id hb
  refine calls_enter Tryz.func56 rfl Tryz.ntmps56 rfl s ?_
  repeat' (first | (refine ycf ?_; apply ybk; (· first | (first | (apply qv_neq_pnil <;> rfl) | (apply qv_nilCheck; rfl))); (· rfl); (· rfl)) | refine t1_ ?_ | (refine ta_ ?_; intro _) | ((fail_if_success (refine ybi rfl ?_)); refine ybj rfl ?_ ?_ <;> (intro ht; rw [ht]; first | replace ht := of_decide_eq_true ht | replace ht := of_decide_eq_false ht | skip)) | (refine ych ?_; first | (refine ybw rfl ?_ ?_ <;> intro ht) | (refine ybx rfl ?_ ?_ <;> intro ht)))
  refine rx_append_sc (sz := 1) 1 rfl rfl rfl hb (bcs_one b) rfl (by omega) (by unfold maxLen; omega) (by omega) rfl rfl rfl ybf (fun _ => ybf) ?_
  intro v2 hv2
  refine rx_rowform 1 rfl (fun q1 q2 q3 => ?_) ?_
  · subst q1
    have hl0 : l = [] := List.eq_nil_of_length_eq_zero (by omega)
    have hb0 : b = [] := List.eq_nil_of_length_eq_zero (by omega)
    subst hl0
    subst hb0
    repeat' (first | (refine ycf ?_; apply ybk; (· first | (first | (apply qv_neq_pnil <;> rfl) | (apply qv_nilCheck; rfl))); (· rfl); (· rfl)) | refine t1_ ?_ | (refine ta_ ?_; intro _) | ((fail_if_success (refine ybi rfl ?_)); refine ybj rfl ?_ ?_ <;> (intro ht; rw [ht]; first | replace ht := of_decide_eq_true ht | replace ht := of_decide_eq_false ht | skip)) | (refine ych ?_; first | (refine ybw rfl ?_ ?_ <;> intro ht) | (refine ybx rfl ?_ ?_ <;> intro ht)))
    exact nx_ret1 rfl (rv_tmp rfl) (fun w' s' => ⟨_, rfl, s', trivial⟩)
  rintro g2 cap2 rfl
  repeat' (first | (refine ycf ?_; apply ybk; (· first | (first | (apply qv_neq_pnil <;> rfl) | (apply qv_nilCheck; rfl))); (· rfl); (· rfl)) | refine t1_ ?_ | (refine ta_ ?_; intro _) | ((fail_if_success (refine ybi rfl ?_)); refine ybj rfl ?_ ?_ <;> (intro ht; rw [ht]; first | replace ht := of_decide_eq_true ht | replace ht := of_decide_eq_false ht | skip)) | (refine ych ?_; first | (refine ybw rfl ?_ ?_ <;> intro ht) | (refine ybx rfl ?_ ?_ <;> intro ht)))
  refine nx_ret1 rfl (rv_tmp rfl) (fun w' s' => ⟨.slice (some ⟨g2, 0, none⟩) (l.length + b.length) cap2, rfl, ?_, trivial⟩)
  unfold rowB
  rw [List.length_append, bcs_app]
  exact s'

theorem OutBytes_sp (bo : Nat) (v : Value) (l : List Int) (bad : Bool) (bv : Value) (b : List Int) (hl : l.length + 4 + b.length ≤ 1000000) (h : View) (hb : Bs8 h bv b) (w : World) (s : St ⟨w, h, doms [outR bo v bad, rowB v l]⟩ h [outR bo v bad, rowB v l] w) :
    Calls Tryz.prog 29 [.pointer (some ⟨bo, 0, none⟩), bv].toArray w fun e w' => ∃ x : Value, e = .returned (.pointer (some ⟨bo, 0, none⟩)) ∧
      St ⟨w, h, doms [outR bo v bad, rowB v l]⟩ h [outR bo x bad, rowB x (l ++ num4 b.length ++ b)] w' ∧ True := by
  obtain ⟨_, ad, cap, rfl, hcap, _⟩ := id hb
  refine calls_enter Tryz.func29 rfl Tryz.ntmps29 rfl s ?_
  repeat' (first | (refine ycf ?_; apply ybk; (· first | (first | (apply qv_neq_pnil <;> rfl) | (apply qv_nilCheck; rfl))); (· rfl); (· rfl)) | refine t1_ ?_ | (refine ta_ ?_; intro _) | ((fail_if_success (refine ybi rfl ?_)); refine ybj rfl ?_ ?_ <;> (intro ht; rw [ht]; first | replace ht := of_decide_eq_true ht | replace ht := of_decide_eq_false ht | skip)) | (refine ych ?_; first | (refine ybw rfl ?_ ?_ <;> intro ht) | (refine ybx rfl ?_ ?_ <;> intro ht)))
  (refine rx_call_2 (ycp Tryz.func55 rfl (by kernel_rfl) rfl) (put_sp bo v l bad b.length 4 true (fun _ => by omega) (by omega) (by omega) (by omega) (by omega) h) rfl rfl rfl ?_ ?_ ?_; (· (exact to_)); (· intro _ _ hle; (exact to_)); intro x px hle)
  rw [Bool.not_true, Bool.or_false, if_pos rfl]
  repeat' (first | (refine ycf ?_; apply ybk; (· first | (first | (apply qv_neq_pnil <;> rfl) | (apply qv_nilCheck; rfl))); (· rfl); (· rfl)) | refine t1_ ?_ | (refine ta_ ?_; intro _) | ((fail_if_success (refine ybi rfl ?_)); refine ybj rfl ?_ ?_ <;> (intro ht; rw [ht]; first | replace ht := of_decide_eq_true ht | replace ht := of_decide_eq_false ht | skip)) | (refine ych ?_; first | (refine ybw rfl ?_ ?_ <;> intro ht) | (refine ybx rfl ?_ ?_ <;> intro ht)))
  (refine rx_call_2 (ycp Tryz.func56 rfl (by kernel_rfl) rfl) (OutFixed_sp bo x (l ++ num4 b.length) bad _ b (by rw [List.length_append, num4_len]; omega) h hb) rfl rfl rfl ?_ ?_ ?_; (· (exact to_)); (· intro _ _ hle; (exact to_)); intro x px hle)
  repeat' (first | (refine ycf ?_; apply ybk; (· first | (first | (apply qv_neq_pnil <;> rfl) | (apply qv_nilCheck; rfl))); (· rfl); (· rfl)) | refine t1_ ?_ | (refine ta_ ?_; intro _) | ((fail_if_success (refine ybi rfl ?_)); refine ybj rfl ?_ ?_ <;> (intro ht; rw [ht]; first | replace ht := of_decide_eq_true ht | replace ht := of_decide_eq_false ht | skip)) | (refine ych ?_; first | (refine ybw rfl ?_ ?_ <;> intro ht) | (refine ybx rfl ?_ ?_ <;> intro ht)))
  exact nx_ret1 rfl (rv_tmp rfl) (fun w' s' => ⟨x, rfl, s', trivial⟩)

theorem bstr_mid (l : List Int) (i k : Nat) : (bstr l).extract i (i + k) = bstr ((l.drop i).take k) := by
  apply ByteArray.ext
  rw [ByteArray.data_extract]
  simp only [bstr]
  apply Array.ext'
  simp [List.map_take, List.map_drop]
section
variable {P : Program} {n : Nat} {F : List (Nat × Value)} {h : View} {L : List Res} {dst : Option Nat} {ty : Nat} {pos : String} {af : Array Edge} {gd : Option (Nat × Bool)}
theorem qv_str_mid {T : Nat} {x y z : Operand} {l : List Int} {i k : Nat} {j : Int} {ki kj : IntKind} [tu : TyU P T .string] (hx : ev F x = some (.string (bstr l))) (hy : ev F y = some (.int ki i)) (hz : ev F z = some (.int kj j)) (hj : j = ((i + k : Nat) : Int)) (h1 : i + k ≤ l.length) :
    QV P n F h L ⟨dst, .slice T x (some y) (some z) none, ty, pos, af, gd⟩ (.string (bstr ((l.drop i).take k))) := .mk fun a w f s => by
  subst hj
  have h2 : i + k ≤ (bstr l).size := by rw [bstr_size]; exact h1
  have h3 : 0 ≤ (i : Int) + k ∧ (i : Int) + k ≤ ((bstr l).size : Int) := by omega
  have h4 : ((i : Int) + k).toNat = i + k := by omega
  simp [execOp, f.ev hx, f.ev hy, f.ev hz, Instr.sliceAt, Instr.slice, Instr.sliceBounds, Instr.sliceBound, asIntOf, run_underlying tu.u, h3, h4]
  exact bstr_mid l i k
end

theorem rInBytes_sp (bi : Nat) (l : List Int) (e : Int) (most : Int) (hb : Bytes l) (hm : 0 ≤ most ∧ most < 9223372036854775808) (hl : l.length ≤ 1000000) (h : View) (w : World) (s : St ⟨w, h, doms [rinR bi l e]⟩ h [rinR bi l e] w) :
    Calls Tryz.prog 20 [.pointer (some ⟨bi, 0, none⟩), .int .i64 most].toArray w fun en w' => ∃ x : Unit, en = .returned (.string (bstr (byC (l, e) most).1)) ∧ St ⟨w, h, doms [rinR bi l e]⟩ h [rinR bi (byC (l, e) most).2.1 (byC (l, e) most).2.2] w' ∧ True := by
  refine calls_enter Tryz.func20 rfl Tryz.ntmps20 rfl s ?_
  unfold byC
  dsimp only
  by_cases he : e = 0
  · subst he
    rw [if_neg (by simp)]
    repeat' (first | (refine ycf ?_; apply ybk; (· first | (first | (apply qv_nilCheck; rfl))); (· rfl); (· rfl)) | refine t1_ ?_ | (refine ta_ ?_; intro _) | ((fail_if_success (refine ybi rfl ?_)); refine ybj rfl ?_ ?_ <;> (intro ht; rw [ht]; first | replace ht := of_decide_eq_true ht | replace ht := of_decide_eq_false ht | skip)) | (refine ych ?_; first | (refine ybw rfl ?_ ?_ <;> intro ht) | (refine ybx rfl ?_ ?_ <;> intro ht)))
    (refine rx_call_m (ycp Tryz.func44 rfl (by kernel_rfl) rfl) (perm_at (k := 0) rfl) (rnumber_sp bi l 4 most hb (by omega) (by omega) hm h) rfl rfl rfl ?_ ?_ ?_; (· (exact to_)); (· intro _ _ hle; (exact to_)); intro x px hle)
    have hbd := lookC_bd (size := 4) hb hm.1
    by_cases hz : (lookC l 4 most).2 = 0
    · have hsl := lookC_len hz
      rw [if_neg (by simpa using hz), hz]
      generalize (lookC l 4 most).1 = N at hbd ⊢
      obtain ⟨N, rfl⟩ : ∃ k : Nat, N = k := ⟨N.toNat, by omega⟩
      rw [Int.toNat_natCast]
      by_cases hN : l.length - 4 < N
      · rw [if_pos hN]
        repeat' (first | (refine ycf ?_; apply ybk; (· first | (first | (apply qv_nilCheck; rfl) | exact qv_len_bstr rfl | exact tk_)); (· rfl); (· rfl)) | refine t1_ ?_ | (refine ta_ ?_; intro _) | ((fail_if_success (refine ybi rfl ?_)); refine ybj rfl ?_ ?_ <;> (intro ht; rw [ht]; first | replace ht := of_decide_eq_true ht | replace ht := of_decide_eq_false ht | skip)) | (refine ych ?_; first | (refine ybw rfl ?_ ?_ <;> intro ht) | (refine ybx rfl ?_ ?_ <;> intro ht)))
        exact nx_ret1 rfl (rv_tmp rfl) (fun w' s' => ⟨(), rfl, s', trivial⟩)
      · rw [if_neg hN]
        have hcat : (l.drop 4).drop N = l.drop (4 + N) := by rw [List.drop_drop]
        have hw : IntKind.i64.wrap (4 + (N : Int)) = ((4 + N : Nat) : Int) := by rw [IntKind.wrap_i64]; omega
        rw [hcat]
        repeat' (first | (refine ycf ?_; apply ybk; (· first | (first | (apply qv_nilCheck; rfl) | exact qv_len_bstr rfl | exact qv_add' rfl rfl hw | exact qv_str_mid (i := 4) (k := N) rfl rfl rfl rfl (by omega) | exact qv_str_from (i := 4 + N) rfl rfl (by omega) | exact tk_)); (· rfl); (· rfl)) | refine t1_ ?_ | (refine ta_ ?_; intro _) | ((fail_if_success (refine ybi rfl ?_)); refine ybj rfl ?_ ?_ <;> (intro ht; rw [ht]; first | replace ht := of_decide_eq_true ht | replace ht := of_decide_eq_false ht | skip)) | (refine ych ?_; first | (refine ybw rfl ?_ ?_ <;> intro ht) | (refine ybx rfl ?_ ?_ <;> intro ht)))
        exact nx_ret1 rfl (rv_tmp rfl) (fun w' s' => ⟨(), rfl, s', trivial⟩)
    · rw [if_pos hz, lookC_bad hz]
      generalize (lookC l 4 most).2 = E at hz ⊢
      repeat' (first | (refine ycf ?_; apply ybk; (· first | (first | (apply qv_nilCheck; rfl) | exact tk_)); (· rfl); (· rfl)) | refine t1_ ?_ | (refine ta_ ?_; intro _) | ((fail_if_success (refine ybi rfl ?_)); refine ybj rfl ?_ ?_ <;> (intro ht; rw [ht]; first | replace ht := of_decide_eq_true ht | replace ht := of_decide_eq_false ht | skip)) | (refine ych ?_; first | (refine ybw rfl ?_ ?_ <;> intro ht) | (refine ybx rfl ?_ ?_ <;> intro ht)))
      exact nx_ret1 rfl (rv_tmp rfl) (fun w' s' => ⟨(), rfl, s', trivial⟩)
  · rw [if_pos he]
    repeat' (first | (refine ycf ?_; apply ybk; (· first | (first | (apply qv_nilCheck; rfl) | exact tk_)); (· rfl); (· rfl)) | refine t1_ ?_ | (refine ta_ ?_; intro _) | ((fail_if_success (refine ybi rfl ?_)); refine ybj rfl ?_ ?_ <;> (intro ht; rw [ht]; first | replace ht := of_decide_eq_true ht | replace ht := of_decide_eq_false ht | skip)) | (refine ych ?_; first | (refine ybw rfl ?_ ?_ <;> intro ht) | (refine ybx rfl ?_ ?_ <;> intro ht)))
    exact nx_ret1 rfl (rv_tmp rfl) (fun w' s' => ⟨(), rfl, s', trivial⟩)

end Go.Proofs.YtkkjppeaaicgaaaGreat
end

section
namespace Go.Proofs.YtkkjppeaaicgaaaGreat
open Go Go.Ck Go.Shelf
set_option maxRecDepth 100000
set_option maxHeartbeats 1000000
set_option linter.unusedVariables false

theorem sorted_uniq {l m k : List Dt} (h1 : l.Perm k) (h2 : SortedD l) (h3 : m.Perm k) (h4 : SortedD m) : l = m := by
  refine List.Perm.eq_of_pairwise (le := fun x y => ¬ ordD y x < 0) (fun a b _ _ h5 h6 => ?_) h2 h4 (h1.trans h3.symm)
  have e1 := ord_lt b a
  have e2 := ord_lt a b
  unfold ltOf at e1 e2
  rw [decide_eq_decide] at e1 e2
  obtain ⟨a1, a2⟩ := a
  obtain ⟨b1, b2⟩ := b
  simp only at e1 e2 h5 h6
  have : a1 = b1 ∧ a2 = b2 := by omega
  rw [this.1, this.2]

end Go.Proofs.YtkkjppeaaicgaaaGreat
end

section
namespace Go.Proofs.YtkkjppeaaicgaaaGreat
open Go Go.Ck Go.Shelf
set_option maxRecDepth 100000
set_option maxHeartbeats 1000000
set_option linter.unusedVariables false

theorem cxc_fit' {u v : List Int} {x y : Value} (hu : u.length = 16) (hv : v.length = 16) : 0 + (Value.agg (cxc u x).toArray).cells.size ≤ (cxv v y).cells.size := by
  have h1 := cxc_sz (x := x) hu
  have h2 : (cxv v y).cells.size = 17 := cxc_sz hv
  omega
theorem cxc_all' {u v : List Int} {x y : Value} (hu : u.length = 16) (hv : v.length = 16) : (Value.agg (cxc u x).toArray).cells.toList.length = (cxv v y).cells.toList.length := by
  have h1 := cxc_all (x := x) hu
  have h2 : (cxv v y).cells.toList.length = 17 := cxc_all hv
  omega

theorem rem_fact (m : Int) : ∃ r, IntKind.i64.wrap ((IntKind.u64.wrap m).tmod 1000) = r ∧ 0 ≤ r ∧ r < 1000 := by
  refine ⟨_, rfl, ?_⟩
  have h1 : 0 ≤ IntKind.u64.wrap m := by
    simp only [IntKind.wrap, IntKind.bits, IntKind.signed]
    simp
    omega
  rw [Int.tmod_eq_emod_of_nonneg h1]
  generalize IntKind.u64.wrap m = x at h1
  simp only [IntKind.wrap, IntKind.bits, IntKind.signed]
  simp
  omega

theorem more_at {u : List Int} {l : List Dt} (hk : checkC u l = 0) {i : Nat} (hi : i < l.length) : uD u l[i] + 1 < l[i].2 ∧ (∀ (hj : i ≠ 0), ordD l[i - 1] l[i] < 0) := by
  unfold checkC at hk
  split at hk
  · cases hk
  split at hk
  · cases hk
  split at hk
  · cases hk
  · rename_i _ _ h3
    have h3 : moresOk u l = true := by simpa using h3
    have := List.all_eq_true.1 h3 i (List.mem_range.2 hi)
    simp only [moreB, Bool.and_eq_true, Bool.or_eq_true, decide_eq_true_iff] at this
    have e1 : l.getD i (0, 0) = l[i] := by simp [hi]
    have e2 : l.getD (i - 1) (0, 0) = l[i - 1] := by simp [show i - 1 < l.length by omega]
    rw [e1, e2] at this
    exact ⟨this.1.2, fun hj => this.2.resolve_left hj⟩
theorem ord_iff {x y : Dt} : ordD x y < 0 ↔ (x.1 < y.1 ∨ x.1 = y.1 ∧ x.2 < y.2) := by
  have := ord_lt x y
  unfold ltOf at this
  rwa [decide_eq_decide] at this
theorem more_sorted {u : List Int} {l : List Dt} (hk : checkC u l = 0) : ∀ (j i : Nat) (hj : j < l.length) (hij : i < j), ordD l[i] l[j] < 0 := by
  intro j
  induction j with
  | zero => intro i _ h; omega
  | succ j ih =>
    intro i hj hij
    have h1 := (more_at hk hj).2 (by omega)
    simp only [Nat.add_sub_cancel] at h1
    by_cases e : i = j
    · subst e; exact h1
    · have h2 := ih i (by omega) (by omega)
      rw [ord_iff] at h1 h2 ⊢
      omega
theorem lastN_max {u : List Int} {l : List Dt} (hk : checkC u l = 0) (c : Int) : u.getD (c - 1).toNat 0 ≤ lastN u l c ∧ (∀ d ∈ l, d.1 = c → d.2 ≤ lastN u l c) ∧ (lastN u l c ≤ u.getD (c - 1).toNat 0 ∨ (c, lastN u l c) ∈ l) := by
  have key : ∀ k, k ≤ l.length → u.getD (c - 1).toNat 0 ≤ lastN u (l.take k) c ∧ (∀ i (hi : i < l.length), i < k → l[i].1 = c → l[i].2 ≤ lastN u (l.take k) c) ∧ (lastN u (l.take k) c ≤ u.getD (c - 1).toNat 0 ∨ ∃ (i : Nat) (hi : i < l.length), i < k ∧ l[i] = (c, lastN u (l.take k) c)) := by
    intro k
    induction k with
    | zero => intro _; exact ⟨by simp [lastN], fun i hi h => by omega, .inl (by simp [lastN])⟩
    | succ k ih =>
      intro hkl
      obtain ⟨a1, a2, a3⟩ := ih (by omega)
      have hk1 : k < l.length := by omega
      rw [lastN_take hk1]
      by_cases hc : l[k].1 = c
      · rw [if_pos hc]
        have hu := (more_at hk hk1).1
        unfold uD at hu
        rw [hc] at hu
        refine ⟨by omega, fun i hi hik hic => ?_, .inr ⟨k, hk1, by omega, by rw [← hc]⟩⟩
        by_cases e : i = k
        · subst e; exact Int.le_refl _
        · have := ord_iff.1 (more_sorted hk k i hk1 (by omega))
          rw [hic, hc] at this
          omega
      · rw [if_neg hc]
        refine ⟨a1, fun i hi hik hic => ?_, ?_⟩
        · by_cases e : i = k
          · subst e; exact absurd hic hc
          · exact a2 i hi (by omega) hic
        · rcases a3 with h | ⟨i, hi, h1, h2⟩
          · exact .inl h
          · exact .inr ⟨i, hi, by omega, h2⟩
  have := key l.length (Nat.le_refl _)
  rw [List.take_length] at this
  obtain ⟨a1, a2, a3⟩ := this
  refine ⟨a1, fun d hd hdc => ?_, ?_⟩
  · obtain ⟨i, hi, rfl⟩ := List.getElem_of_mem hd
    exact a2 i hi hi hdc
  · rcases a3 with h | ⟨i, hi, _, h⟩
    · exact .inl h
    · exact .inr (by rw [← h]; exact List.getElem_mem hi)

theorem next_facts (u : List Int) (l : List Dt) (c : Int) : (nextC u l c).2 = 0 → 1 ≤ (nextC u l c).1 ∧ (nextC u l c).1 ≤ 1099511627776 ∧
    (∀ k, (nextC u l c).1 ≤ k → (decide (checkC u l = 0) && rightB (c, k) && hasC u l (c, k)) = false) ∧ ((nextC u l c).1 ≠ 1 → (decide (checkC u l = 0) && rightB (c, (nextC u l c).1 - 1) && hasC u l (c, (nextC u l c).1 - 1)) = true) := by
  intro h0
  have hN : checkC u l = 0 ∧ 1 ≤ c ∧ c ≤ 16 ∧ lastN u l c ≠ 1099511627776 ∧ nextC u l c = (lastN u l c + 1, 0) := by
    unfold nextC at h0 ⊢
    by_cases g1 : checkC u l ≠ 0 ∨ c < 1 ∨ 16 < c
    · rw [if_pos g1] at h0; cases h0
    · rw [if_neg g1] at h0 ⊢
      by_cases g2 : lastN u l c = 1099511627776
      · rw [if_pos g2] at h0; cases h0
      · rw [if_neg g2]
        exact ⟨by omega, by omega, by omega, g2, rfl⟩
  obtain ⟨hk, hc1, hc2, hf, he⟩ := hN
  rw [he]
  dsimp only
  obtain ⟨q1, q2, q3⟩ := check_right hk
  have hb := lastN_bd (c := c) q1 l q3
  have hmax := lastN_max hk c
  refine ⟨by omega, by omega, fun k hk2 => ?_, fun hn => ?_⟩
  · have : hasC u l (c, k) = false := by
      unfold hasC uD
      simp only [Bool.or_eq_false_iff, decide_eq_false_iff_not]
      refine ⟨by have := hmax.1; omega, fun hm => ?_⟩
      have := hmax.2.1 (c, k) hm rfl
      simp only at this
      omega
    rw [this, Bool.and_false]
  · have e1 : lastN u l c + 1 - 1 = lastN u l c := by omega
    rw [e1]
    have h1 : rightB (c, lastN u l c) = true := by simp [rightB]; omega
    have h2 : hasC u l (c, lastN u l c) = true := by
      unfold hasC uD
      simp only [Bool.or_eq_true, decide_eq_true_iff]
      rcases hmax.2.2 with h | h
      · exact .inl (by omega)
      · exact .inr h
    simp [hk, h1, h2]

end Go.Proofs.YtkkjppeaaicgaaaGreat
end

section
namespace Go.Ck
open Go
set_option linter.unusedVariables false
set_option linter.unusedSimpArgs false
section
variable {P : Program} {n : Nat} {K : Bs} {F : List (Nat × Value)} {h : View} {L : List Res} {Q : Exit → Act → World → Prop}
variable {dst : Option Nat} {ty : Nat} {pos : String} {af : Array Edge} {gd : Option (Nat × Bool)}

theorem own_cut {w : World} {e : TypeId} {sz m cap g j : Nat} {xs : List Value} (ho : w.ownsRow 0 e sz (.slice (some ⟨g, 0, none⟩) m cap) m xs) (hj : j ≤ m) : w.ownsRow 0 e sz (.slice (some ⟨g, 0, none⟩) j cap) j (xs.take (j * sz)) := by
  have hjm : j * sz ≤ m * sz := Nat.mul_le_mul_right _ hj
  refine ⟨by rw [List.length_take, ho.1]; omega, ?_⟩
  rcases ho.2 with ⟨q1, q2⟩ | ⟨g', cap', cur, q1, q2, q3, q4, q5, q6, q7⟩
  · cases q1
  · cases q1
    refine .inr ⟨g, cap, cur, rfl, q2, q3, by omega, q5, q6, ?_⟩
    rw [← q7, List.take_take]
    congr 1
    omega
theorem St.cut {w : World} {e : TypeId} {sz m cap g j k : Nat} {xs : List Value} (s : St K h L w) (hk : L[k]? = some (Res.row e sz (.slice (some ⟨g, 0, none⟩) m cap) m xs)) (hj : j ≤ m) : St K h (L.set k (Res.row e sz (.slice (some ⟨g, 0, none⟩) j cap) j (xs.take (j * sz)))) w := by
  have ho : w.ownsRow 0 e sz (.slice (some ⟨g, 0, none⟩) m cap) m xs := s.hd.own _ (List.mem_of_getElem? hk)
  refine s.swap hk rfl rfl rfl (Nat.le_refl _) (Nat.le_refl _) (fun _ _ _ => rfl) (own_cut ho hj) ?_ (fun b hb => .inl ?_)
  · simp [Res.row, Value.ownBlock]
  · have hb : b = g := by simpa [Res.row, Value.ownBlock] using hb
    subst hb
    simp [Res.row, Value.ownBlock]
theorem rx_cut {g' : Rg} {prs : List (Nat × Oper)} {e : TypeId} {sz m cap g : Nat} {xs : List Value} (k j : Nat) (hk : L[k]? = some (Res.row e sz (.slice (some ⟨g, 0, none⟩) m cap) m xs)) (hj : j ≤ m)
    (hx : RX P n K g' prs F h (L.set k (Res.row e sz (.slice (some ⟨g, 0, none⟩) j cap) j (xs.take (j * sz)))) Q) : RX P n K g' prs F h L Q := by
  unfold RX at *
  exact fun a w f s => hx a w f (s.cut hk hj)

theorem rx_row {g' : Rg} {prs : List (Nat × Oper)} (e : TypeId) (k : Nat) (hx : RX P n K g' prs F h (Res.row e k (.slice none 0 0) 0 [] :: L) Q) : RX P n K g' prs F h L Q := by
  unfold RX at *
  exact fun a w f s => hx a w f (s.rowNil e k)
theorem rx_grow_nil {g : Rg} {i : Nat} {r : List (Nat × Oper)} {T Ti e : Nat} {x y : Operand} {z : Value} {sz by' m : Nat} {kn : IntKind} (k : Nat) [tu : TyU P T (.slice e)] [ti : TyU P Ti (.int kn)] [tb : TyB P e z sz by'] (hx : ev F x = some (.slice none 0 0)) (hy : ev F y = some (.int .i64 m))
    (hk : L[k]? = some (Res.row e sz (.slice none 0 0) 0 [])) (hm : 0 < m) (hzs : z.cells.size = sz) (hsz : 0 < sz) (h63 : m ≤ maxLen) (hbytes : m * by' ≤ 140737488355328)
    (hw : wantedF g.ops F ⟨dst, .call ⟨.builtin .append, #[x, y], #[T, Ti]⟩, ty, pos, af, gd⟩ = some true) (hd : okd n dst = true) (hlo : g.lo i = true) (o1 : Owe g i h L)
    (o2 : ∀ b cap, Owe g i h (L.set k (Res.row e sz (.slice (some ⟨b, 0, none⟩) m cap) m (Builtin.zeroCells z.cells m).toList)))
    (hn : ∀ b cap, m ≤ cap → cap ≤ maxLen → RX P n K g r (putF dst (.slice (some ⟨b, 0, none⟩) m cap) F) h (L.set k (Res.row e sz (.slice (some ⟨b, 0, none⟩) m cap) m (Builtin.zeroCells z.cells m).toList)) Q) :
    RX P n K g ((i, ⟨dst, .call ⟨.builtin .append, #[x, y], #[T, Ti]⟩, ty, pos, af, gd⟩) :: r) F h L Q := by
  unfold RX at *
  intro a w f s
  obtain ⟨ii, hi, hz, hsize, hby⟩ := tb.ex
  subst hsize
  subst hby
  have h63i : (m : Int) ≤ 9223372036854775807 := by simp only [maxLen] at h63; omega
  have hr := Lib.run_append_nil_zeros (P := P) w T Ti ty e ii z .i64 kn tu.u ti.u hi hz m hm hsz h63i (by omega)
  have hge := grownCap_ge w m 0 e
  have hcm : grownCap w m 0 e ≤ maxLen := grownCap_le_maxLen w m 0 e h63
  generalize grownCap w m 0 e = cap at hr hge hcm
  have s' : St K h (L.set k (Res.row e ii.size (.slice (some ⟨w.heap.size, 0, none⟩) m cap) m (Builtin.zeroCells z.cells m).toList)) (w.drew.alloc (.cells (Builtin.zeroCells z.cells m ++ Builtin.zeroCells z.cells (cap - m)) e)) := by
    refine s.swap hk rfl rfl rfl (Nat.le_succ _) (by simp) (fun j hj _ => Go.RowKit.Below.heap_alloc w.drew _ j hj) ⟨?_, .inr ⟨w.heap.size, cap, _, rfl, Nat.zero_le _, heap_alloc_new w.drew _, hge, hcm, ?_, ?_⟩⟩ ?_ (fun b hb => .inr ?_)
    · simp [size_zeroCells, hzs]
    · simp only [Array.size_append, size_zeroCells, hzs, ← Nat.add_mul]
      congr 1
      omega
    · simp only [Array.toList_append]
      have : (Builtin.zeroCells z.cells m).toList.length = m * ii.size := by simp [size_zeroCells, hzs]
      rw [← this]
      exact List.take_left
    · simp [Res.row, Value.ownBlock]
    · have hb : b = w.heap.size := by simpa [Res.row, Value.ownBlock] using hb
      omega
  refine .inr (.inr ⟨wantedF_ok f hw, hlo, o1.out s, ?_⟩)
  unfold Oper.wp
  have : (execOp a.eval ⟨dst, .call ⟨.builtin .append, #[x, y], #[T, Ti]⟩, ty, pos, af, gd⟩).run P w = .ok (.value (.slice (some ⟨w.heap.size, 0, none⟩) m cap)) (w.drew.alloc (.cells (Builtin.zeroCells z.cells m ++ Builtin.zeroCells z.cells (cap - m)) e)) := by
    simp [execOp, resolve, invoke, builtin, f.ev hx, f.ev hy, hr]
  rw [this]
  exact ⟨(o2 _ cap).out s', hn _ cap hge hcm _ _ (f.put hd _) s'⟩
end
end Go.Ck
end

section
namespace Go.Proofs.YtkkjppeaaicgaaaGreat
open Go Go.Ck
set_option maxRecDepth 100000
set_option maxHeartbeats 1000000
set_option linter.unusedVariables false

def flatP (parts : List (Value × List Dt)) (k : Nat) : List Dt := (parts.take k).flatMap (·.2)
theorem flatP_succ {parts : List (Value × List Dt)} {k : Nat} (hk : k < parts.length) : flatP parts (k + 1) = flatP parts k ++ parts[k].2 := by
  unfold flatP
  rw [List.take_succ_eq_append_getElem hk, List.flatMap_append]
  simp
theorem flatP_le {parts : List (Value × List Dt)} {k : Nat} (hk : k ≤ parts.length) : (flatP parts k).length ≤ (flatP parts parts.length).length := by
  unfold flatP
  rw [List.take_length]
  conv => rhs; rw [← List.take_append_drop k parts]
  rw [List.flatMap_append, List.length_append]
  omega

end Go.Proofs.YtkkjppeaaicgaaaGreat
end

section
namespace Go.Proofs.YtkkjppeaaicgaaaGreat
open Go Go.Ck
set_option maxRecDepth 100000
set_option maxHeartbeats 1000000
set_option linter.unusedVariables false

theorem qv_max' {P : Program} {n : Nat} {F : List (Nat × Value)} {h : View} {L : List Res} {dst : Option Nat} {ty : Nat} {pos : String} {af : Array Edge} {gd : Option (Nat × Bool)} {ts : Array TypeId} {x y : Operand} {k : IntKind} {i j r : Int} (hx : ev F x = some (.int k i)) (hy : ev F y = some (.int k j)) (hr : (if j > i then j else i) = r) :
    QV P n F h L ⟨dst, .call ⟨.builtin .max, #[x, y], ts⟩, ty, pos, af, gd⟩ (.int k r) := by
  subst hr
  exact .mk fun a w f s => by simp [execOp, resolve, invoke, builtin, Builtin.max_, f.ev hx, f.ev hy, Builtin.max2]

def maxI (i j : Int) : Int := if j > i then j else i
def maxU (u v : List Int) : List Int := List.zipWith maxI u v
def maxK (u v : List Int) (k : Nat) : List Int := (maxU u v).take k ++ u.drop k
theorem maxU_len {u v : List Int} (hu : u.length = 16) (hv : v.length = 16) : (maxU u v).length = 16 := by simp [maxU, hu, hv]
theorem maxU_at {u v : List Int} (hu : u.length = 16) (hv : v.length = 16) (i : Nat) : (maxU u v).getD i 0 = maxI (u.getD i 0) (v.getD i 0) := by
  by_cases hi : i < 16
  · have h1 : i < u.length := by omega
    have h2 : i < v.length := by omega
    simp [maxU, List.getElem?_zipWith, h1, h2]
  · have h1 : u[i]? = none := List.getElem?_eq_none (by omega)
    have h2 : v[i]? = none := List.getElem?_eq_none (by omega)
    have h3 : (maxU u v)[i]? = none := List.getElem?_eq_none (by rw [maxU_len hu hv]; omega)
    simp [List.getD_eq_getElem?_getD, h1, h2, h3, maxI]
theorem maxK_len {u v : List Int} {k : Nat} (hu : u.length = 16) (hv : v.length = 16) (hk : k ≤ 16) : (maxK u v k).length = 16 := by
  simp [maxK, maxU_len hu hv, hu]; omega
theorem maxK_at {u v : List Int} {k : Nat} (hu : u.length = 16) (hv : v.length = 16) (hk : k < 16) : (maxK u v k).getD k 0 = u.getD k 0 := by
  unfold maxK
  have h1 : ((maxU u v).take k).length = k := by simp [maxU_len hu hv]; omega
  rw [List.getD_eq_getElem?_getD, List.getElem?_append_right (by omega), h1, Nat.sub_self, List.getElem?_drop, Nat.add_zero, ← List.getD_eq_getElem?_getD]
theorem maxK_set {u v : List Int} {k : Nat} (hu : u.length = 16) (hv : v.length = 16) (hk : k < 16) : (maxK u v k).set k (maxI (u.getD k 0) (v.getD k 0)) = maxK u v (k + 1) := by
  unfold maxK
  have h1 : ((maxU u v).take k).length = k := by simp [maxU_len hu hv]; omega
  have hkm : k < (maxU u v).length := by rw [maxU_len hu hv]; omega
  rw [List.set_append_right _ _ (by omega), h1, Nat.sub_self, List.drop_eq_getElem_cons (by omega : k < u.length), List.set_cons_zero, List.take_succ_eq_append_getElem hkm, ← maxU_at hu hv k]
  rw [List.getD_eq_getElem?_getD, List.getElem?_eq_getElem hkm, Option.getD_some, List.append_assoc]
  rfl
theorem spl_up {u : List Int} {x : Int} {i o : Nat} (ho : o = i) (hi : i < u.length) : spl (up u).toArray.toList o (Value.int .i64 x).cells.toList = up (u.set i x) := by
  subst ho
  show (up u).take o ++ [Value.int .i64 x] ++ (up u).drop (o + 1) = up (u.set o x)
  have hl : (up u).length = u.length := by simp [up]
  unfold up
  rw [List.map_set, List.set_eq_take_append_cons_drop, if_pos (by simpa using hi)]
  simp
theorem up_sz {u : List Int} (hu : u.length = 16) : (Value.agg (up u).toArray).cells.size = 16 := by
  show (up u).toArray.size = 16
  simp [up, hu]
theorem up_fit {u : List Int} (hu : u.length = 16) : 0 + (Value.agg (up u).toArray).cells.size ≤ 16 := by rw [up_sz hu]; omega
theorem up_all {u : List Int} (hu : u.length = 16) : (Value.agg (up u).toArray).cells.toList.length = 16 := by
  show (up u).toArray.toList.length = 16
  simp [up, hu]
theorem up_one {u : List Int} : (Value.agg (up u).toArray).cells.toList.all Value.oneCell' = true := by
  show (up u).toArray.toList.all Value.oneCell' = true
  simp [up, Value.oneCell']
theorem cell_upx {h : View} {L : List Res} {b o : Nat} {u : List Int} (c : Cells h L ⟨b, 0, none⟩ (up u)) (i : Nat) (ho : o = 0 + i) (hi : i < u.length) : CellAt h L b o (.int .i64 (u.getD i 0)) := by
  rw [ho]
  exact c.cell (by simp [up, hi])
theorem cell_upy {h : View} {L : List Res} {b o i : Nat} {u : List Int} {x : Int} (hx : u.getD i 0 = x) (c : Cells h L ⟨b, 0, none⟩ (up u)) (ho : o = 0 + i) (hi : i < u.length) : CellAt h L b o (.int .i64 x) := by
  rw [← hx]
  exact cell_upx c i ho hi
theorem fit_up {u : List Int} {x : Int} {i o : Nat} (ho : o = i) (hi : i < u.length) : o + (Value.int .i64 x).cells.size ≤ (up u).toArray.size := by
  show o + 1 ≤ _
  simp [up]; omega
theorem max_bd {u v : List Int} (hu : u.length = 16) (hv : v.length = 16) (h1 : ∀ x ∈ u, 0 ≤ x ∧ x ≤ 1099511627776) (h2 : ∀ x ∈ v, 0 ≤ x ∧ x ≤ 1099511627776) : ∀ x ∈ maxU u v, 0 ≤ x ∧ x ≤ 1099511627776 := fun x hx => by
  obtain ⟨i, hi, rfl⟩ := List.getElem_of_mem hx
  have h16 : i < 16 := by rw [maxU_len hu hv] at hi; exact hi
  have e := maxU_at hu hv i
  rw [List.getD_eq_getElem?_getD, List.getElem?_eq_getElem hi] at e
  simp only [Option.getD_some] at e
  rw [e]
  have a := h1 _ (getD_mem (u := u) (i := i) (by omega))
  have b := h2 _ (getD_mem (u := v) (i := i) (by omega))
  unfold maxI
  split <;> assumption

theorem maxK_all {u v : List Int} (hu : u.length = 16) (hv : v.length = 16) : maxK u v 16 = maxU u v := by
  unfold maxK
  rw [List.take_of_length_le (by rw [maxU_len hu hv]; omega), List.drop_eq_nil_of_le (by omega), List.append_nil]

end Go.Proofs.YtkkjppeaaicgaaaGreat
end

section
namespace Go.Proofs.YtkkjppeaaicgaaaGreat
open Go Go.Ck
set_option maxRecDepth 100000
set_option maxHeartbeats 2000000
set_option linter.unusedVariables false

def refN (u : List Int) (l : List Dt) (c : Int) : Int := l.foldl (fun n d => if d.1 = c then maxI n d.2 else n) (u.getD (c - 1).toNat 0)
theorem refN_take {u : List Int} {l : List Dt} {c : Int} {k : Nat} (hk : k < l.length) : refN u (l.take (k + 1)) c = if l[k].1 = c then maxI (refN u (l.take k) c) l[k].2 else refN u (l.take k) c := by
  unfold refN
  rw [List.take_succ_eq_append_getElem hk, List.foldl_append]
  rfl
theorem refN_max (c : Int) : ∀ (l : List Dt) (n0 : Int), n0 ≤ l.foldl (fun n d => if d.1 = c then maxI n d.2 else n) n0 ∧ (∀ d ∈ l, d.1 = c → d.2 ≤ l.foldl (fun n d => if d.1 = c then maxI n d.2 else n) n0) ∧ (l.foldl (fun n d => if d.1 = c then maxI n d.2 else n) n0 = n0 ∨ (c, l.foldl (fun n d => if d.1 = c then maxI n d.2 else n) n0) ∈ l)
  | [], n0 => ⟨Int.le_refl _, (fun d hd => (by cases hd)), .inl rfl⟩
  | x :: l, n0 => by
    simp only [List.foldl_cons]
    by_cases hx : x.1 = c
    · rw [if_pos hx]
      obtain ⟨h1, h2, h3⟩ := refN_max c l (maxI n0 x.2)
      have hm : n0 ≤ maxI n0 x.2 ∧ x.2 ≤ maxI n0 x.2 ∧ (maxI n0 x.2 = n0 ∨ maxI n0 x.2 = x.2) := by
        unfold maxI; split <;> omega
      refine ⟨by omega, fun d hd hdc => ?_, ?_⟩
      · rcases List.mem_cons.1 hd with rfl | hd
        · omega
        · exact h2 d hd hdc
      · rcases h3 with h3 | h3
        · rcases hm.2.2 with h4 | h4
          · exact .inl (h3.trans h4)
          · refine .inr (List.mem_cons.2 (.inl ?_))
            rw [h3, h4, ← hx]
        · exact .inr (List.mem_cons_of_mem _ h3)
    · rw [if_neg hx]
      obtain ⟨h1, h2, h3⟩ := refN_max c l n0
      refine ⟨h1, fun d hd hdc => ?_, h3.imp id (List.mem_cons_of_mem _)⟩
      rcases List.mem_cons.1 hd with rfl | hd
      · exact absurd hdc hx
      · exact h2 d hd hdc
theorem refN_eq {u : List Int} {l : List Dt} (hk : checkC u l = 0) (c : Int) : refN u l c = lastN u l c := by
  obtain ⟨h1, h2, h3⟩ := lastN_max hk c
  obtain ⟨h4, h5, h6⟩ := refN_max c l (u.getD (c - 1).toNat 0)
  change _ ≤ refN u l c at h4
  change ∀ d ∈ l, d.1 = c → d.2 ≤ refN u l c at h5
  change refN u l c = _ ∨ (c, refN u l c) ∈ l at h6
  have a : refN u l c ≤ lastN u l c := by
    rcases h6 with h6 | h6
    · omega
    · exact h2 _ h6 rfl
  have b : lastN u l c ≤ refN u l c := by
    rcases h3 with h3 | h3
    · omega
    · exact h5 _ h3 rfl
  omega
theorem refN_bd {u : List Int} {l : List Dt} (hu : ∀ x ∈ u, 0 ≤ x ∧ x ≤ 1099511627776) (hl : ∀ d ∈ l, rightB d = true) (c : Int) : 0 ≤ refN u l c ∧ refN u l c ≤ 1099511627776 := by
  have h0 : 0 ≤ u.getD (c - 1).toNat 0 ∧ u.getD (c - 1).toNat 0 ≤ 1099511627776 := by
    by_cases hi : (c - 1).toNat < u.length
    · exact hu _ (getD_mem hi)
    · have : u.getD (c - 1).toNat 0 = 0 := by rw [List.getD_eq_getElem?_getD, List.getElem?_eq_none (Nat.le_of_not_lt hi)]; rfl
      omega
  obtain ⟨h4, h5, h6⟩ := refN_max c l (u.getD (c - 1).toNat 0)
  change _ ≤ refN u l c at h4
  change refN u l c = _ ∨ (c, refN u l c) ∈ l at h6
  rcases h6 with h6 | h6
  · omega
  · have := right_of (hl _ h6)
    dsimp only at this
    omega

end Go.Proofs.YtkkjppeaaicgaaaGreat
end

section
namespace Go.Proofs.YtkkjppeaaicgaaaGreat
open Go Go.Ck
set_option maxRecDepth 100000
set_option maxHeartbeats 2000000
set_option linter.unusedVariables false


/-- what is read of bytes: was it a context, and which -/
def rdS (l : List Int) : Bool × List Int × List Dt := if endC (rdC l).2.2 = 0 ∧ checkC (rdC l).1 (rdC l).2.1 = 0 then (true, (rdC l).1, (rdC l).2.1) else (false, zeroU, [])
theorem rdS_ok {l : List Int} (hb : Bytes l) (hl : l.length ≤ 1000000) : ((rdS l).1 = true → checkC (rdS l).2.1 (rdS l).2.2 = 0 ∧ encW (rdS l).2.1 (rdS l).2.2 = l) ∧ (rdS l).2.2.length ≤ 32 := by
  unfold rdS
  split
  · rename_i hx
    obtain ⟨h1, h2, h3⟩ := rd_took hb hl hx.1
    exact ⟨fun _ => ⟨hx.2, h1⟩, h3⟩
  · exact ⟨fun hx => (by cases hx), Nat.zero_le _⟩
theorem Read_s (sv : Value) (l : List Int) (hb : Bytes l) (hl : l.length ≤ 1000000) (h : View) (hs : Bs8 h sv l) (w : World) (s : St ⟨w, h, []⟩ h [] w) :
    Calls Tryz.prog 13 [sv].toArray w fun en w' => ∃ x : View × Value, en = .returned (.tuple #[x.2, .int .i64 (if (rdS l).1 = true then 0 else 2)]) ∧ St ⟨w, h, []⟩ x.1 [] w' ∧ Cx x.1 x.2 (rdS l).2.1 (rdS l).2.2 := by
  refine (Read_sp sv l hb hl h hs w s).mono ?_
  rintro en w' ⟨⟨h1, v, e⟩, he, hst, px⟩
  dsimp only at he hst px
  unfold rdS
  split at px <;> rename_i hx
  · obtain ⟨rfl, hc⟩ := px
    rw [if_pos hx]
    exact ⟨(h1, v), he, hst, hc⟩
  · obtain ⟨rfl, hc⟩ := px
    rw [if_neg hx]
    exact ⟨(h1, v), he, hst, hc⟩
theorem rRead_s (l : List Int) (hb : Bytes l) (hl : l.length ≤ 1000000) (h : View) (w : World) (s : St ⟨w, h, []⟩ h [] w) :
    Calls Tryz.prog 19 [.string (bstr l)].toArray w fun en w' => ∃ x : View × Value, en = .returned (.tuple #[x.2, .bool (rdS l).1]) ∧ St ⟨w, h, []⟩ x.1 [] w' ∧ Cx x.1 x.2 (rdS l).2.1 (rdS l).2.2 := by
  refine (rRead_sp l hb hl h w s).mono ?_
  rintro en w' ⟨⟨h1, v, e⟩, he, hst, px⟩
  dsimp only at he hst px
  unfold rdS
  split at px <;> rename_i hx
  · obtain ⟨rfl, hc⟩ := px
    rw [if_pos hx]
    exact ⟨(h1, v), he, hst, hc⟩
  · obtain ⟨rfl, hc⟩ := px
    rw [if_neg hx]
    exact ⟨(h1, v), he, hst, hc⟩

end Go.Proofs.YtkkjppeaaicgaaaGreat
end
