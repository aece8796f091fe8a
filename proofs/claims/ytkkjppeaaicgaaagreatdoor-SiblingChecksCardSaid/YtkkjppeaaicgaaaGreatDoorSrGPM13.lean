/-
  Part 13 of a proof: SbM SbN SbO.
  Conditions: each theorem states its own.
-/
import Derived.Test.YtkkjppeaaicgaaaGreatDoorSrGPM12
section
namespace Go.Proofs.YtkkjppeaaicgaaaGreatDoor
open Go Go.Ck
set_option maxRecDepth 100000
set_option maxHeartbeats 4000000
set_option linter.unusedVariables false
def freeS (a b : List Ab) (x : Ab) : Bool := !(a.any fun y => hasA y x.1) && !(b.any fun y => hasA y x.1)
def MergeR (a b : List Sb) (M : List Ab) (e : Int) : Prop :=
  if checkA (a.map Sb.a) ≠ 0 then e = checkA (a.map Sb.a) ∧ M = [] else if checkA (b.map Sb.a) ≠ 0 then e = checkA (b.map Sb.a) ∧ M = []
  else ∃ R, KF (a ++ b) R ∧ SortS R ∧ (if 64 < ((ddk R R.length).filter fun x => freeS (a.map Sb.a) (b.map Sb.a) x.a).length then e = 5 ∧ M = [] else e = 0 ∧ M = ((ddk R R.length).filter fun x => freeS (a.map Sb.a) (b.map Sb.a) x.a).map Sb.a)
def Fits (l : List Sb) : Prop := l.length ≤ 40000 ∧ ∀ x ∈ l, x.l.length ≤ 1000000 ∧ x.b.length ≤ 1000000
theorem insSort_nil (h : View) (w : World) (s : St ⟨w, h, []⟩ h [] w) :
    Calls Tryz.prog 124 [.slice none 0 0, .int .i64 0, .int .i64 0, ordV].toArray w fun e w' => ∃ x : Value, e = .returned x ∧ St ⟨w, h, []⟩ h [] w' ∧ True := by
  refine calls_enter Tryz.func124 rfl Tryz.ntmps124 rfl s ?_
  repeat' (first|(refine ycf ?_;apply ybk;(·first|(exact tk_));(·rfl);(·rfl))|refine t1_ ?_|(refine ta_ ?_;intro _)|((fail_if_success (refine ybi rfl ?_));refine ybj rfl ?_ ?_<;>(intro ht;rw [ht];first|replace ht := oet_ ht|replace ht := oef_ ht|skip))|(refine ych ?_;first|(refine ybw rfl ?_ ?_<;>intro ht)|(refine ybx rfl ?_ ?_<;>intro ht)))
  refine cx_loop (X := Unit) (fun _ => [(2, .int .i64 0), (8, .int .i64 1)]) (fun _ => h) (fun _ => []) (fun _ => True) (fun _ => 0) () trivial ts_ (fun _ s => s) ?_
  rintro ⟨⟩ _
  repeat' (first|(refine ycf ?_;apply ybk;(·first|(exact tk_));(·rfl);(·rfl))|refine t1_ ?_|(refine ta_ ?_;intro _)|((fail_if_success (refine ybi rfl ?_));refine ybj rfl ?_ ?_<;>(intro ht;rw [ht];first|replace ht := oet_ ht|replace ht := oef_ ht|skip))|(refine ych ?_;first|(refine ybw rfl ?_ ?_<;>intro ht)|(refine ybx rfl ?_ ?_<;>intro ht)))
  exact nx_end0 rfl (fun w' s' => ⟨_, rfl, s', trivial⟩)
theorem stable_nil (h : View) (w : World) (s : St ⟨w, h, []⟩ h [] w) :
    Calls Tryz.prog 120 [.slice none 0 0, .int .i64 0, ordV].toArray w fun e w' => ∃ x : Value, e = .returned x ∧ St ⟨w, h, []⟩ h [] w' ∧ True := by
  refine calls_enter Tryz.func120 rfl Tryz.ntmps120 rfl s ?_
  repeat' (first|(refine ycf ?_;apply ybk;(·first|(exact tk_));(·rfl);(·rfl))|refine t1_ ?_|(refine ta_ ?_;intro _)|((fail_if_success (refine ybi rfl ?_));refine ybj rfl ?_ ?_<;>(intro ht;rw [ht];first|replace ht := oet_ ht|replace ht := oef_ ht|skip))|(refine ych ?_;first|(refine ybw rfl ?_ ?_<;>intro ht)|(refine ybx rfl ?_ ?_<;>intro ht)))
  refine cx_loop (X := Unit) (fun _ => [(0, .slice none 0 0), (1, .int .i64 0), (2, ordV), (6, .int .i64 20), (7, .int .i64 0), (8, .int .i64 20)]) (fun _ => h) (fun _ => []) (fun _ => True) (fun _ => 0) () trivial ts_ (fun _ s => s) ?_
  rintro ⟨⟩ _
  repeat' (first|(refine ycf ?_;apply ybk;(·first|(exact tk_));(·rfl);(·rfl))|refine t1_ ?_|(refine ta_ ?_;intro _)|((fail_if_success (refine ybi rfl ?_));refine ybj rfl ?_ ?_<;>(intro ht;rw [ht];first|replace ht := oet_ ht|replace ht := oef_ ht|skip))|(refine ych ?_;first|(refine ybw rfl ?_ ?_<;>intro ht)|(refine ybx rfl ?_ ?_<;>intro ht)))
  (refine yco (ycp Tryz.func124 rfl (by kernel_rfl) rfl) (insSort_nil h) rfl rfl rfl ?_ ?_ ?_; (· (exact to_)); (· intro _ _ hle; (exact to_)); intro x px hle)
  repeat' (first|(refine ycf ?_;apply ybk;(·first|(exact tk_));(·rfl);(·rfl))|refine t1_ ?_|(refine ta_ ?_;intro _)|((fail_if_success (refine ybi rfl ?_));refine ybj rfl ?_ ?_<;>(intro ht;rw [ht];first|replace ht := oet_ ht|replace ht := oef_ ht|skip))|(refine ych ?_;first|(refine ybw rfl ?_ ?_<;>intro ht)|(refine ybx rfl ?_ ?_<;>intro ht)))
  refine cx_loop (X := Unit) (fun _ => [(0, .slice none 0 0), (1, .int .i64 0), (2, ordV), (6, .int .i64 20)]) (fun _ => h) (fun _ => []) (fun _ => True) (fun _ => 0) () trivial ts_ (fun _ s => s) ?_
  rintro ⟨⟩ _
  repeat' (first|(refine ycf ?_;apply ybk;(·first|(exact tk_));(·rfl);(·rfl))|refine t1_ ?_|(refine ta_ ?_;intro _)|((fail_if_success (refine ybi rfl ?_));refine ybj rfl ?_ ?_<;>(intro ht;rw [ht];first|replace ht := oet_ ht|replace ht := oef_ ht|skip))|(refine ych ?_;first|(refine ybw rfl ?_ ?_<;>intro ht)|(refine ybx rfl ?_ ?_<;>intro ht)))
  exact nx_end0 rfl (fun w' s' => ⟨_, rfl, s', trivial⟩)
theorem sortStable_nil (h : View) (w : World) (s : St ⟨w, h, []⟩ h [] w) :
    Calls Tryz.prog 101 [.slice none 0 0, ordV].toArray w fun e w' => ∃ x : Value, e = .returned x ∧ St ⟨w, h, []⟩ h [] w' ∧ True := by
  refine calls_enter Tryz.func101 rfl Tryz.ntmps101 rfl s ?_
  repeat' (first|(refine ycf ?_;apply ybk;(·first|(exact tk_));(·rfl);(·rfl))|refine t1_ ?_|(refine ta_ ?_;intro _)|((fail_if_success (refine ybi rfl ?_));refine ybj rfl ?_ ?_<;>(intro ht;rw [ht];first|replace ht := oet_ ht|replace ht := oef_ ht|skip))|(refine ych ?_;first|(refine ybw rfl ?_ ?_<;>intro ht)|(refine ybx rfl ?_ ?_<;>intro ht)))
  (refine yco (ycp Tryz.func120 rfl (by kernel_rfl) rfl) (stable_nil h) rfl rfl rfl ?_ ?_ ?_; (· (exact to_)); (· intro _ _ hle; (exact to_)); intro x px hle)
  repeat' (first|(refine ycf ?_;apply ybk;(·first|(exact tk_));(·rfl);(·rfl))|refine t1_ ?_|(refine ta_ ?_;intro _)|((fail_if_success (refine ybi rfl ?_));refine ybj rfl ?_ ?_<;>(intro ht;rw [ht];first|replace ht := oet_ ht|replace ht := oef_ ht|skip))|(refine ych ?_;first|(refine ybw rfl ?_ ?_<;>intro ht)|(refine ybx rfl ?_ ?_<;>intro ht)))
  exact nx_end0 rfl (fun w' s' => ⟨_, rfl, s', trivial⟩)
theorem compact_nil (h : View) (w : World) (s : St ⟨w, h, []⟩ h [] w) :
    Calls Tryz.prog 102 [.slice none 0 0, eqV].toArray w fun e w' => e = .returned (.slice none 0 0) ∧ St ⟨w, h, []⟩ h [] w' := by
  refine calls_enter Tryz.func102 rfl Tryz.ntmps102 rfl s ?_
  repeat' (first|(refine ycf ?_;apply ybk;(·first|(exact tk_));(·rfl);(·rfl))|refine t1_ ?_|(refine ta_ ?_;intro _)|((fail_if_success (refine ybi rfl ?_));refine ybj rfl ?_ ?_<;>(intro ht;rw [ht];first|replace ht := oet_ ht|replace ht := oef_ ht|skip))|(refine ych ?_;first|(refine ybw rfl ?_ ?_<;>intro ht)|(refine ybx rfl ?_ ?_<;>intro ht)))
  exact nx_ret1 rfl (rv_tmp rfl) (fun w' s' => ⟨rfl, s'.nil⟩)
theorem smerge_sp (va vb : Value) (a b : List Sb) (h : View) (ha : Ss h va a) (hb : Ss h vb b) (fa : Fits a) (fb : Fits b) (w : World) (s : St ⟨w, h, []⟩ h [] w) :
    Calls Tryz.prog 67 [va, vb].toArray w fun e w' => ∃ z : View × Value × List Sb × Int, e = .returned (.tuple #[z.2.1, .int .i64 z.2.2.2]) ∧ St ⟨w, h, []⟩ z.1 [] w' ∧ Ss z.1 z.2.1 z.2.2.1 ∧ MergeR a b (z.2.2.1.map Sb.a) z.2.2.2 := by
  have CA := scheck_sp va a h ha (by have := fa.1; omega) (fun x hx => by have := (fa.2 x hx).1; omega)
  have CB := scheck_sp vb b h hb (by have := fb.1; omega) (fun x hx => by have := (fb.2 x hx).1; omega)
  have ha0 := ha
  have hb0 := hb
  obtain ⟨_, ad1, cap1, e1, _, _⟩ := id ha.1
  obtain ⟨_, ad2, cap2, e2, _, _⟩ := id hb.1
  subst e1 e2
  refine calls_enter Tryz.func67 rfl Tryz.ntmps67 rfl s ?_
  repeat' (first|(refine ycf ?_;apply ybk;(·first|(exact tk_));(·rfl);(·rfl))|refine t1_ ?_|(refine ta_ ?_;intro _)|((fail_if_success (refine ybi rfl ?_));refine ybj rfl ?_ ?_<;>(intro ht;rw [ht];first|replace ht := oet_ ht|replace ht := oef_ ht|skip))|(refine ych ?_;first|(refine ybw rfl ?_ ?_<;>intro ht)|(refine ybx rfl ?_ ?_<;>intro ht)))
  rename_i b0
  refine cx_loop (X := Nat) (fun k => [(0, .slice ad1 a.length cap1), (1, .slice ad2 b.length cap2), (4, .slice none 0 0), (5, .int .i64 0), (15, .slice (some ⟨b0, 0, none⟩) 2 2), (16, .int .i64 2), (17, .int .i64 (k : Nat))]) (fun _ => h) (fun _ => [Res.blk b0 (.cells #[.slice ad1 a.length cap1, .slice ad2 b.length cap2] 24 (0, 0))])
    (fun k => k ≤ 2 ∧ (1 ≤ k → checkA (a.map Sb.a) = 0) ∧ (2 ≤ k → checkA (b.map Sb.a) = 0)) (fun k => 2 - k) 0 ⟨by decide, fun hx => absurd hx (by decide), fun hx => absurd hx (by decide)⟩ ts_ (fun _ s => s) ?_
  rintro k ⟨hk, hka, hkb⟩
  by_cases k0 : k = 0
  · subst k0
    by_cases hz : checkA (a.map Sb.a) = 0
    · repeat' (first|(refine ycf ?_;apply ybk;(·first|(exact tk_));(·rfl);(·rfl))|refine t1_ ?_|(refine ta_ ?_;intro _)|((fail_if_success (refine ybi rfl ?_));refine ybj rfl ?_ ?_<;>(intro ht;rw [ht];first|replace ht := oet_ ht|replace ht := oef_ ht|skip))|(refine ych ?_;first|(refine ybw rfl ?_ ?_<;>intro ht)|(refine ybx rfl ?_ ?_<;>intro ht)))
      (refine ycn (ycp Tryz.func12 rfl (by kernel_rfl) rfl) (CA) rfl rfl rfl ?_ ?_; (· (exact to_)))
      repeat' (first|(refine ycf ?_;apply ybk;(·first|(exact tk_));(·rfl);(·rfl))|refine t1_ ?_|(refine ta_ ?_;intro _)|((fail_if_success (refine ybi rfl ?_));refine ybj rfl ?_ ?_<;>(intro ht;rw [ht];first|replace ht := oet_ ht|replace ht := oef_ ht|skip))|(refine ych ?_;first|(refine ybw rfl ?_ ?_<;>intro ht)|(refine ybx rfl ?_ ?_<;>intro ht)))
      exact nx_round 1 ⟨by decide, fun _ => hz, fun hx => absurd hx (by decide)⟩ (by decide) ts_ (fun _ s => s)
    · repeat' (first|(refine ycf ?_;apply ybk;(·first|(exact tk_));(·rfl);(·rfl))|refine t1_ ?_|(refine ta_ ?_;intro _)|((fail_if_success (refine ybi rfl ?_));refine ybj rfl ?_ ?_<;>(intro ht;rw [ht];first|replace ht := oet_ ht|replace ht := oef_ ht|skip))|(refine ych ?_;first|(refine ybw rfl ?_ ?_<;>intro ht)|(refine ybx rfl ?_ ?_<;>intro ht)))
      (refine ycn (ycp Tryz.func12 rfl (by kernel_rfl) rfl) (CA) rfl rfl rfl ?_ ?_; (· (exact to_)))
      repeat' (first|(refine ycf ?_;apply ybk;(·first|(exact tk_));(·rfl);(·rfl))|refine t1_ ?_|(refine ta_ ?_;intro _)|((fail_if_success (refine ybi rfl ?_));refine ybj rfl ?_ ?_<;>(intro ht;rw [ht];first|replace ht := oet_ ht|replace ht := oef_ ht|skip))|(refine ych ?_;first|(refine ybw rfl ?_ ?_<;>intro ht)|(refine ybx rfl ?_ ?_<;>intro ht)))
      refine nx_ret2 rfl (rv_tmp rfl) (rv_tmp rfl) (fun w' s' => ⟨(h, .slice none 0 0, [], checkA (a.map Sb.a)), rfl, s'.nil, ⟨Sc.nil h 20 none 0, fun x hx => by cases hx⟩, ?_⟩)
      unfold MergeR
      rw [if_pos hz]
      exact ⟨rfl, rfl⟩
  by_cases k1 : k = 1
  · subst k1
    have hza := hka (by decide)
    by_cases hz : checkA (b.map Sb.a) = 0
    · repeat' (first|(refine ycf ?_;apply ybk;(·first|(exact tk_));(·rfl);(·rfl))|refine t1_ ?_|(refine ta_ ?_;intro _)|((fail_if_success (refine ybi rfl ?_));refine ybj rfl ?_ ?_<;>(intro ht;rw [ht];first|replace ht := oet_ ht|replace ht := oef_ ht|skip))|(refine ych ?_;first|(refine ybw rfl ?_ ?_<;>intro ht)|(refine ybx rfl ?_ ?_<;>intro ht)))
      (refine ycn (ycp Tryz.func12 rfl (by kernel_rfl) rfl) (CB) rfl rfl rfl ?_ ?_; (· (exact to_)))
      repeat' (first|(refine ycf ?_;apply ybk;(·first|(exact tk_));(·rfl);(·rfl))|refine t1_ ?_|(refine ta_ ?_;intro _)|((fail_if_success (refine ybi rfl ?_));refine ybj rfl ?_ ?_<;>(intro ht;rw [ht];first|replace ht := oet_ ht|replace ht := oef_ ht|skip))|(refine ych ?_;first|(refine ybw rfl ?_ ?_<;>intro ht)|(refine ybx rfl ?_ ?_<;>intro ht)))
      exact nx_round 2 ⟨by decide, fun _ => hza, fun _ => hz⟩ (by decide) ts_ (fun _ s => s)
    · repeat' (first|(refine ycf ?_;apply ybk;(·first|(exact tk_));(·rfl);(·rfl))|refine t1_ ?_|(refine ta_ ?_;intro _)|((fail_if_success (refine ybi rfl ?_));refine ybj rfl ?_ ?_<;>(intro ht;rw [ht];first|replace ht := oet_ ht|replace ht := oef_ ht|skip))|(refine ych ?_;first|(refine ybw rfl ?_ ?_<;>intro ht)|(refine ybx rfl ?_ ?_<;>intro ht)))
      (refine ycn (ycp Tryz.func12 rfl (by kernel_rfl) rfl) (CB) rfl rfl rfl ?_ ?_; (· (exact to_)))
      repeat' (first|(refine ycf ?_;apply ybk;(·first|(exact tk_));(·rfl);(·rfl))|refine t1_ ?_|(refine ta_ ?_;intro _)|((fail_if_success (refine ybi rfl ?_));refine ybj rfl ?_ ?_<;>(intro ht;rw [ht];first|replace ht := oet_ ht|replace ht := oef_ ht|skip))|(refine ych ?_;first|(refine ybw rfl ?_ ?_<;>intro ht)|(refine ybx rfl ?_ ?_<;>intro ht)))
      refine nx_ret2 rfl (rv_tmp rfl) (rv_tmp rfl) (fun w' s' => ⟨(h, .slice none 0 0, [], checkA (b.map Sb.a)), rfl, s'.nil, ⟨Sc.nil h 20 none 0, fun x hx => by cases hx⟩, ?_⟩)
      unfold MergeR
      rw [if_neg (by rw [hza]; decide), if_pos hz]
      exact ⟨rfl, rfl⟩
  have hk2 : k = 2 := by omega
  subst hk2
  have hza := hka (by decide)
  have hzb := hkb (by decide)
  clear hka hkb k0 k1 hk
  repeat' (first|(refine ycf ?_;apply ybk;(·first|(exact tk_));(·rfl);(·rfl))|refine t1_ ?_|(refine ta_ ?_;intro _)|((fail_if_success (refine ybi rfl ?_));refine ybj rfl ?_ ?_<;>(intro ht;rw [ht];first|replace ht := oet_ ht|replace ht := oef_ ht|skip))|(refine ych ?_;first|(refine ybw rfl ?_ ?_<;>intro ht)|(refine ybx rfl ?_ ?_<;>intro ht)))
  rename_i b9
  refine rx_rowOf 1 2 2 (by omega) (by unfold maxLen; omega) rfl ?_
  refine rx_persist rfl fun h1 hle1 hs9 => ?_
  have hs9' : Sc h1 1 (.slice (some ⟨b9, 0, none⟩) 2 2) 2 ([((Value.slice ad1 a.length cap1), a), ((Value.slice ad2 b.length cap2), b)].map (·.1)) := hs9
  have ef : flatS [((Value.slice ad1 a.length cap1), a), ((Value.slice ad2 b.length cap2), b)] 2 = a ++ b := by simp [flatS]
  have lenA := fa.1
  have lenB := fb.1
  have hab1 : ∀ p ∈ [((Value.slice ad1 a.length cap1), a), ((Value.slice ad2 b.length cap2), b)], Ss h1 p.1 p.2 := fun p hp => by
    rcases List.mem_cons.1 hp with rfl | hp
    · exact ha.mono hle1
    · rcases List.mem_cons.1 hp with rfl | hp
      · exact hb.mono hle1
      · cases hp
  (refine yco (ycp Tryz.func100 rfl (by kernel_rfl) rfl) (sConcat_sp _ [((Value.slice ad1 a.length cap1), a), ((Value.slice ad2 b.length cap2), b)] h1 hs9' hab1 (by show (flatS _ 2).length ≤ _; rw [ef]; simp; omega) (by simp)) rfl rfl rfl ?_ ?_ ?_; (· (exact to_)); (· intro _ _ hle; (exact to_)); intro x px hle)
  have ef2 : flatS [((Value.slice ad1 a.length cap1), a), ((Value.slice ad2 b.length cap2), b)] ([((Value.slice ad1 a.length cap1), a), ((Value.slice ad2 b.length cap2), b)].length) = a ++ b := ef
  rw [ef2]
  clear px hle
  iterate 3 (first|(refine ycf ?_;apply ybk;(·first|(exact tk_));(·rfl);(·rfl))|refine t1_ ?_|(refine ta_ ?_;intro _)|((fail_if_success (refine ybi rfl ?_));refine ybj rfl ?_ ?_<;>(intro ht;rw [ht];first|replace ht := oet_ ht|replace ht := oef_ ht|skip))|(refine ych ?_;first|(refine ybw rfl ?_ ?_<;>intro ht)|(refine ybx rfl ?_ ?_<;>intro ht)))
  refine ybo ?_
  have hvab : ∀ y ∈ a ++ b, Sv h1 y := fun y hy => by
    rcases List.mem_append.1 hy with hy | hy
    · exact (ha.2 y hy).mono hle1
    · exact (hb.2 y hy).mono hle1
  have oab : Ones (a ++ b) := fun y hy => (hvab y hy).one
  have lab : (a ++ b).length ≤ 100000 := by rw [List.length_append]; omega
  refine cx_cut (X := List Sb) (fun _ => [(0, .slice ad1 a.length cap1), (1, .slice ad2 b.length cap2), (4, .slice none 0 0), (5, .int .i64 0), (9, x)]) (fun _ => h1) (fun R => [Res.row 57 20 x (a ++ b).length (R.flatMap sbc)]) (fun R => KF (a ++ b) R ∧ SortS R) ?_ ?_
  · refine cx_rowform 0 rfl (fun e1 e2 e3 => ?_) ?_
    · subst e1
      have e4 : a ++ b = [] := List.eq_nil_of_length_eq_zero e2
      repeat' (first|(refine ycf ?_;apply ybk;(·first|(exact tk_));(·rfl);(·rfl))|refine t1_ ?_|(refine ta_ ?_;intro _)|((fail_if_success (refine ybi rfl ?_));refine ybj rfl ?_ ?_<;>(intro ht;rw [ht];first|replace ht := oet_ ht|replace ht := oef_ ht|skip))|(refine ych ?_;first|(refine ybw rfl ?_ ?_<;>intro ht)|(refine ybx rfl ?_ ?_<;>intro ht)))
      (refine yco (ycp Tryz.func101 rfl (by kernel_rfl) rfl) (sortStable_nil h1) rfl rfl rfl ?_ ?_ ?_; (· (exact to_)); (· intro _ _ hle; (exact to_)); intro x px hle)
      repeat' (first|(refine ycf ?_;apply ybk;(·first|(exact tk_));(·rfl);(·rfl))|refine t1_ ?_|(refine ta_ ?_;intro _)|((fail_if_success (refine ybi rfl ?_));refine ybj rfl ?_ ?_<;>(intro ht;rw [ht];first|replace ht := oet_ ht|replace ht := oef_ ht|skip))|(refine ych ?_;first|(refine ybw rfl ?_ ?_<;>intro ht)|(refine ybx rfl ?_ ?_<;>intro ht)))
      refine nx_cut [] ⟨by rw [e4]; exact KF.refl _, List.Pairwise.nil⟩ ts_ (fun _ s => ?_)
      have s2 : St _ h1 [Res.row 57 20 (.slice none 0 0) (a ++ b).length ((a ++ b).flatMap sbc)] _ := s.keep1
      rw [e3] at s2
      exact s2
    · rintro g cap rfl
      repeat' (first|(refine ycf ?_;apply ybk;(·first|(exact tk_));(·rfl);(·rfl))|refine t1_ ?_|(refine ta_ ?_;intro _)|((fail_if_success (refine ybi rfl ?_));refine ybj rfl ?_ ?_<;>(intro ht;rw [ht];first|replace ht := oet_ ht|replace ht := oef_ ht|skip))|(refine ych ?_;first|(refine ybw rfl ?_ ?_<;>intro ht)|(refine ybx rfl ?_ ?_<;>intro ht)))
      (refine rx_call_m (ycp Tryz.func101 rfl (by kernel_rfl) rfl) (perm_at (k := 0) rfl) (sortStable_sp g cap _ (a ++ b) rfl lab oab h1) rfl rfl rfl ?_ ?_ ?_; (· (exact to_)); (· intro _ _ hle; (exact to_)); intro x px hle)
      repeat' (first|(refine ycf ?_;apply ybk;(·first|(exact tk_));(·rfl);(·rfl))|refine t1_ ?_|(refine ta_ ?_;intro _)|((fail_if_success (refine ybi rfl ?_));refine ybj rfl ?_ ?_<;>(intro ht;rw [ht];first|replace ht := oet_ ht|replace ht := oef_ ht|skip))|(refine ych ?_;first|(refine ybw rfl ?_ ?_<;>intro ht)|(refine ybx rfl ?_ ?_<;>intro ht)))
      exact nx_cut x.2 px ts_ (fun _ s => s.keep1)
  rintro R ⟨kR, sR⟩
  have lR := kR.len
  have oR : Ones R := fun y hy => oab y ((kR.mem y).2 hy)
  rw [lR]
  refine yby ?_
  refine ybo ?_
  refine cx_cut (X := Value) (fun y => [(0, .slice ad1 a.length cap1), (1, .slice ad2 b.length cap2), (4, .slice none 0 0), (5, .int .i64 0), (9, y)]) (fun _ => h1) (fun y => [rowX y (ddk R R.length)]) (fun y => True) ?_ ?_
  · refine cx_rowform 0 rfl (fun e1 e2 e3 => ?_) ?_
    · subst e1
      have e4 : R = [] := List.eq_nil_of_length_eq_zero e2
      repeat' (first|(refine ycf ?_;apply ybk;(·first|(exact tk_));(·rfl);(·rfl))|refine t1_ ?_|(refine ta_ ?_;intro _)|((fail_if_success (refine ybi rfl ?_));refine ybj rfl ?_ ?_<;>(intro ht;rw [ht];first|replace ht := oet_ ht|replace ht := oef_ ht|skip))|(refine ych ?_;first|(refine ybw rfl ?_ ?_<;>intro ht)|(refine ybx rfl ?_ ?_<;>intro ht)))
      (refine ycn (ycp Tryz.func102 rfl (by kernel_rfl) rfl) (compact_nil h1) rfl rfl rfl ?_ ?_; (· (exact to_)))
      repeat' (first|(refine ycf ?_;apply ybk;(·first|(exact tk_));(·rfl);(·rfl))|refine t1_ ?_|(refine ta_ ?_;intro _)|((fail_if_success (refine ybi rfl ?_));refine ybj rfl ?_ ?_<;>(intro ht;rw [ht];first|replace ht := oet_ ht|replace ht := oef_ ht|skip))|(refine ych ?_;first|(refine ybw rfl ?_ ?_<;>intro ht)|(refine ybx rfl ?_ ?_<;>intro ht)))
      refine nx_cut (.slice none 0 0) trivial ts_ (fun _ s => ?_)
      subst e4
      exact s
    · rintro g cap rfl
      repeat' (first|(refine ycf ?_;apply ybk;(·first|(exact tk_));(·rfl);(·rfl))|refine t1_ ?_|(refine ta_ ?_;intro _)|((fail_if_success (refine ybi rfl ?_));refine ybj rfl ?_ ?_<;>(intro ht;rw [ht];first|replace ht := oet_ ht|replace ht := oef_ ht|skip))|(refine ych ?_;first|(refine ybw rfl ?_ ?_<;>intro ht)|(refine ybx rfl ?_ ?_<;>intro ht)))
      (refine rx_call_m (ycp Tryz.func102 rfl (by kernel_rfl) rfl) (perm_at (k := 0) rfl) (compact_sp g cap _ R rfl (by omega) oR h1) rfl rfl rfl ?_ ?_ ?_; (· (exact to_)); (· intro _ _ hle; (exact to_)); intro x px hle)
      repeat' (first|(refine ycf ?_;apply ybk;(·first|(exact tk_));(·rfl);(·rfl))|refine t1_ ?_|(refine ta_ ?_;intro _)|((fail_if_success (refine ybi rfl ?_));refine ybj rfl ?_ ?_<;>(intro ht;rw [ht];first|replace ht := oet_ ht|replace ht := oef_ ht|skip))|(refine ych ?_;first|(refine ybw rfl ?_ ?_<;>intro ht)|(refine ybx rfl ?_ ?_<;>intro ht)))
      exact nx_cut x trivial ts_ (fun _ s => s)
  rintro va _
  repeat' (first|(refine ycf ?_;apply ybk;(·first|(exact tk_));(·rfl);(·rfl))|refine t1_ ?_|(refine ta_ ?_;intro _)|((fail_if_success (refine ybi rfl ?_));refine ybj rfl ?_ ?_<;>(intro ht;rw [ht];first|replace ht := oet_ ht|replace ht := oef_ ht|skip))|(refine ych ?_;first|(refine ybw rfl ?_ ?_<;>intro ht)|(refine ybx rfl ?_ ?_<;>intro ht)))
  refine rx_rowslice 0 rfl fun ad cap hva => ?_
  subst hva
  obtain ⟨D, hD⟩ : ∃ D, D = ddk R R.length := ⟨_, rfl⟩
  have hDR : ∀ y ∈ D, y ∈ R := fun y hy => by
    rw [hD] at hy
    obtain ⟨i, _, hi⟩ := List.mem_filterMap.1 hy
    split at hi
    · cases hi
    · exact List.mem_of_getElem? hi
  have hDl : D.length ≤ 100000 := by
    have : D.length ≤ (List.range R.length).length := by rw [hD]; exact List.length_filterMap_le ..
    rw [List.length_range] at this
    omega
  rw [← hD]
  refine rx_persist rfl fun h2 hle2 hs2 => ?_
  have hle02 : Le h h2 := hle1.trans hle2
  repeat' (first|(refine ycf ?_;apply ybk;(·first|(exact tk_));(·rfl);(·rfl))|refine t1_ ?_|(refine ta_ ?_;intro _)|((fail_if_success (refine ybi rfl ?_));refine ybj rfl ?_ ?_<;>(intro ht;rw [ht];first|replace ht := oet_ ht|replace ht := oef_ ht|skip))|(refine ych ?_;first|(refine ybw rfl ?_ ?_<;>intro ht)|(refine ybx rfl ?_ ?_<;>intro ht)))
  refine cx_row 57 20 ?_
  refine cx_loop (X := Nat × View × Value × List Sb) (fun y => [(0, .slice ad1 a.length cap1), (1, .slice ad2 b.length cap2), (4, .slice none 0 0), (5, .int .i64 0), (10, y.2.2.1), (35, .slice ad D.length cap), (36, .int .i64 D.length), (37, .int .i64 (y.1 : Nat))]) (fun y => y.2.1) (fun y => [rowX y.2.2.1 y.2.2.2])
    (fun y => y.1 ≤ D.length ∧ Le h2 y.2.1 ∧ (∀ o ∈ y.2.2.2, Sv y.2.1 o) ∧ y.2.2.2.map Sb.a = ((D.take y.1).filter fun x => freeS (a.map Sb.a) (b.map Sb.a) x.a).map Sb.a) (fun y => D.length - y.1) (0, h2, .slice none 0 0, [])
    ⟨Nat.zero_le _, Le.refl _, fun o ho => (by cases ho), rfl⟩ ts_ (fun _ s => s) ?_
  rintro ⟨k, hk, vo, O⟩ ⟨p1, p2, p3, p4⟩
  dsimp only at p1 p2 p3 p4 ⊢
  have hOl : O.length ≤ k := by
    have := congrArg List.length p4
    rw [List.length_map, List.length_map] at this
    rw [this]
    exact Nat.le_trans (List.length_filter_le ..) (by simp; omega)
  by_cases hkl : k < D.length
  · obtain ⟨bs, o, rfl⟩ := hs2.ad (by omega) (by omega)
    have hs3 := hs2.mono p2
    have hle0k : Le h hk := hle02.trans p2
    have hel : ∀ L, Cells hk L ⟨bs, o + k * 20, none⟩ (sbc D[k]) := fun L => hs3.elem sbc_len k hkl
    have hxv : Sv hk D[k] := (hvab _ ((kR.mem _).2 (hDR _ (List.getElem_mem hkl)))).mono (hle2.trans p2)
    have hxlim : D[k].l.length ≤ 1000000 ∧ D[k].b.length ≤ 1000000 := by
      rcases List.mem_append.1 ((kR.mem _).2 (hDR _ (List.getElem_mem hkl))) with hy | hy
      · exact fa.2 _ hy
      · exact fb.2 _ hy
    have htk : D.take (k + 1) = D.take k ++ [D[k]] := List.take_succ_eq_append_getElem hkl
    have SA := seen_sp (.slice ad1 a.length cap1) a D[k].d hk (ha.mono hle0k) (by omega) (fun y hy => by have := (fa.2 y hy).1; omega)
    have SB := seen_sp (.slice ad2 b.length cap2) b D[k].d hk (hb.mono hle0k) (by omega) (fun y hy => by have := (fb.2 y hy).1; omega)
    have hfr : freeS (a.map Sb.a) (b.map Sb.a) D[k].a = (!(a.any fun y => hasA y.a D[k].d) && !(b.any fun y => hasA y.a D[k].d)) := by
      unfold freeS
      rw [List.any_map, List.any_map]
      rfl
    have p4' : ((D.take (k + 1)).filter fun x => freeS (a.map Sb.a) (b.map Sb.a) x.a).map Sb.a = O.map Sb.a ++ (if freeS (a.map Sb.a) (b.map Sb.a) D[k].a = true then [D[k].a] else []) := by
      rw [htk, List.filter_append, List.map_append, ← p4]
      congr 1
      by_cases hf : freeS (a.map Sb.a) (b.map Sb.a) D[k].a = true
      · simp [hf]
      · simp [hf]
    clear htk
    generalize D[k] = e0 at hel hxv hxlim SA SB hfr p4'
    have hxl := sbc_len e0
    cases hA : (a.any fun y => hasA y.a e0.d) with
    | true =>
      rw [hA] at SA hfr
      repeat' (first|(refine ycf ?_;apply ybk;(·first|(first|exact tk_|(apply yad;(·rfl);(·exact hel _);(·exact hxl))|(apply yad;(·rfl);(·exact yaz 0 rfl);(·exact hxl))|(apply yad;(·rfl);(·exact sb_dot (yaz 0 rfl));(·rfl))));(·rfl);(·rfl))|(refine ybg 0 rfl rfl rfl (sbc_sz e0) (sbc_fit rfl) (sbc_one hxv.one.1 hxv.one.2) (ybh (sbc_all rfl)) rfl rfl ?_ ?_ ?_;(·(exact to_));(·(exact to_)))|refine t1_ ?_|(refine ta_ ?_;intro _)|((fail_if_success (refine ybi rfl ?_));refine ybj rfl ?_ ?_<;>(intro ht;rw [ht];first|replace ht := oet_ ht|replace ht := oef_ ht|skip))|(refine ych ?_;first|(refine ybw rfl ?_ ?_<;>intro ht)|(refine ybx rfl ?_ ?_<;>intro ht)))
      (refine ycn (ycp Tryz.func39 rfl (by kernel_rfl) rfl) (SA) rfl rfl rfl ?_ ?_; (· (exact to_)))
      repeat' (first|(refine ycf ?_;apply ybk;(·first|(first|exact tk_|(apply yad;(·rfl);(·exact hel _);(·exact hxl))|(apply yad;(·rfl);(·exact yaz 0 rfl);(·exact hxl))|(apply yad;(·rfl);(·exact sb_dot (yaz 0 rfl));(·rfl))));(·rfl);(·rfl))|(refine ybg 0 rfl rfl rfl (sbc_sz e0) (sbc_fit rfl) (sbc_one hxv.one.1 hxv.one.2) (ybh (sbc_all rfl)) rfl rfl ?_ ?_ ?_;(·(exact to_));(·(exact to_)))|refine t1_ ?_|(refine ta_ ?_;intro _)|((fail_if_success (refine ybi rfl ?_));refine ybj rfl ?_ ?_<;>(intro ht;rw [ht];first|replace ht := oet_ ht|replace ht := oef_ ht|skip))|(refine ych ?_;first|(refine ybw rfl ?_ ?_<;>intro ht)|(refine ybx rfl ?_ ?_<;>intro ht)))
      refine nx_round (k + 1, hk, vo, O) ⟨by show k + 1 ≤ _; omega, p2, p3, ?_⟩ (by show D.length - (k + 1) < D.length - k; omega) ts_ (fun _ s => s.tl)
      dsimp only
      rw [p4', hfr]
      simp
    | false =>
      rw [hA] at SA hfr
      cases hB : (b.any fun y => hasA y.a e0.d) with
      | true =>
        rw [hB] at SB hfr
        repeat' (first|(refine ycf ?_;apply ybk;(·first|(first|exact tk_|(apply yad;(·rfl);(·exact hel _);(·exact hxl))|(apply yad;(·rfl);(·exact yaz 0 rfl);(·exact hxl))|(apply yad;(·rfl);(·exact sb_dot (yaz 0 rfl));(·rfl))));(·rfl);(·rfl))|(refine ybg 0 rfl rfl rfl (sbc_sz e0) (sbc_fit rfl) (sbc_one hxv.one.1 hxv.one.2) (ybh (sbc_all rfl)) rfl rfl ?_ ?_ ?_;(·(exact to_));(·(exact to_)))|refine t1_ ?_|(refine ta_ ?_;intro _)|((fail_if_success (refine ybi rfl ?_));refine ybj rfl ?_ ?_<;>(intro ht;rw [ht];first|replace ht := oet_ ht|replace ht := oef_ ht|skip))|(refine ych ?_;first|(refine ybw rfl ?_ ?_<;>intro ht)|(refine ybx rfl ?_ ?_<;>intro ht)))
        (refine ycn (ycp Tryz.func39 rfl (by kernel_rfl) rfl) (SA) rfl rfl rfl ?_ ?_; (· (exact to_)))
        repeat' (first|(refine ycf ?_;apply ybk;(·first|(first|exact tk_|(apply yad;(·rfl);(·exact hel _);(·exact hxl))|(apply yad;(·rfl);(·exact yaz 0 rfl);(·exact hxl))|(apply yad;(·rfl);(·exact sb_dot (yaz 0 rfl));(·rfl))));(·rfl);(·rfl))|(refine ybg 0 rfl rfl rfl (sbc_sz e0) (sbc_fit rfl) (sbc_one hxv.one.1 hxv.one.2) (ybh (sbc_all rfl)) rfl rfl ?_ ?_ ?_;(·(exact to_));(·(exact to_)))|refine t1_ ?_|(refine ta_ ?_;intro _)|((fail_if_success (refine ybi rfl ?_));refine ybj rfl ?_ ?_<;>(intro ht;rw [ht];first|replace ht := oet_ ht|replace ht := oef_ ht|skip))|(refine ych ?_;first|(refine ybw rfl ?_ ?_<;>intro ht)|(refine ybx rfl ?_ ?_<;>intro ht)))
        (refine ycn (ycp Tryz.func39 rfl (by kernel_rfl) rfl) (SB) rfl rfl rfl ?_ ?_; (· (exact to_)))
        repeat' (first|(refine ycf ?_;apply ybk;(·first|(first|exact tk_|(apply yad;(·rfl);(·exact hel _);(·exact hxl))|(apply yad;(·rfl);(·exact yaz 0 rfl);(·exact hxl))|(apply yad;(·rfl);(·exact sb_dot (yaz 0 rfl));(·rfl))));(·rfl);(·rfl))|(refine ybg 0 rfl rfl rfl (sbc_sz e0) (sbc_fit rfl) (sbc_one hxv.one.1 hxv.one.2) (ybh (sbc_all rfl)) rfl rfl ?_ ?_ ?_;(·(exact to_));(·(exact to_)))|refine t1_ ?_|(refine ta_ ?_;intro _)|((fail_if_success (refine ybi rfl ?_));refine ybj rfl ?_ ?_<;>(intro ht;rw [ht];first|replace ht := oet_ ht|replace ht := oef_ ht|skip))|(refine ych ?_;first|(refine ybw rfl ?_ ?_<;>intro ht)|(refine ybx rfl ?_ ?_<;>intro ht)))
        refine nx_round (k + 1, hk, vo, O) ⟨by show k + 1 ≤ _; omega, p2, p3, ?_⟩ (by show D.length - (k + 1) < D.length - k; omega) ts_ (fun _ s => s.tl)
        dsimp only
        rw [p4', hfr]
        simp
      | false =>
        rw [hB] at SB hfr
        repeat' (first|(refine ycf ?_;apply ybk;(·first|(first|exact tk_|(apply yad;(·rfl);(·exact hel _);(·exact hxl))|(apply yad;(·rfl);(·exact yaz 0 rfl);(·exact hxl))|(apply yad;(·rfl);(·exact sb_dot (yaz 0 rfl));(·rfl))));(·rfl);(·rfl))|(refine ybg 0 rfl rfl rfl (sbc_sz e0) (sbc_fit rfl) (sbc_one hxv.one.1 hxv.one.2) (ybh (sbc_all rfl)) rfl rfl ?_ ?_ ?_;(·(exact to_));(·(exact to_)))|refine t1_ ?_|(refine ta_ ?_;intro _)|((fail_if_success (refine ybi rfl ?_));refine ybj rfl ?_ ?_<;>(intro ht;rw [ht];first|replace ht := oet_ ht|replace ht := oef_ ht|skip))|(refine ych ?_;first|(refine ybw rfl ?_ ?_<;>intro ht)|(refine ybx rfl ?_ ?_<;>intro ht)))
        (refine ycn (ycp Tryz.func39 rfl (by kernel_rfl) rfl) (SA) rfl rfl rfl ?_ ?_; (· (exact to_)))
        repeat' (first|(refine ycf ?_;apply ybk;(·first|(first|exact tk_|(apply yad;(·rfl);(·exact hel _);(·exact hxl))|(apply yad;(·rfl);(·exact yaz 0 rfl);(·exact hxl))|(apply yad;(·rfl);(·exact sb_dot (yaz 0 rfl));(·rfl))));(·rfl);(·rfl))|(refine ybg 0 rfl rfl rfl (sbc_sz e0) (sbc_fit rfl) (sbc_one hxv.one.1 hxv.one.2) (ybh (sbc_all rfl)) rfl rfl ?_ ?_ ?_;(·(exact to_));(·(exact to_)))|refine t1_ ?_|(refine ta_ ?_;intro _)|((fail_if_success (refine ybi rfl ?_));refine ybj rfl ?_ ?_<;>(intro ht;rw [ht];first|replace ht := oet_ ht|replace ht := oef_ ht|skip))|(refine ych ?_;first|(refine ybw rfl ?_ ?_<;>intro ht)|(refine ybx rfl ?_ ?_<;>intro ht)))
        (refine ycn (ycp Tryz.func39 rfl (by kernel_rfl) rfl) (SB) rfl rfl rfl ?_ ?_; (· (exact to_)))
        repeat' (first|(refine ycf ?_;apply ybk;(·first|(first|exact tk_|(apply yad;(·rfl);(·exact hel _);(·exact hxl))|(apply yad;(·rfl);(·exact yaz 0 rfl);(·exact hxl))|(apply yad;(·rfl);(·exact sb_dot (yaz 0 rfl));(·rfl))));(·rfl);(·rfl))|(refine ybg 0 rfl rfl rfl (sbc_sz e0) (sbc_fit rfl) (sbc_one hxv.one.1 hxv.one.2) (ybh (sbc_all rfl)) rfl rfl ?_ ?_ ?_;(·(exact to_));(·(exact to_)))|refine t1_ ?_|(refine ta_ ?_;intro _)|((fail_if_success (refine ybi rfl ?_));refine ybj rfl ?_ ?_<;>(intro ht;rw [ht];first|replace ht := oet_ ht|replace ht := oef_ ht|skip))|(refine ych ?_;first|(refine ybw rfl ?_ ?_<;>intro ht)|(refine ybx rfl ?_ ?_<;>intro ht)))
        rename_i b12
        (refine yco (ycp Tryz.func104 rfl (by kernel_rfl) rfl) (copied_sp e0 hk hxv hxlim.1 hxlim.2) rfl rfl rfl ?_ ?_ ?_; (· (exact to_)); (· intro _ _ hle; (exact to_)); intro x px hle)
        obtain ⟨h3, z⟩ := x
        replace hle : Le hk h3 := hle
        obtain ⟨hz, hza'⟩ := px
        dsimp only at hz hza'
        have hzl := sbc_len z
        refine yba (ybd rfl rfl rfl (ybe rfl (sbc_sz z))) rfl rfl rfl ybf (fun _ => ybf) ?_
        intro b13
        refine rx_append (sz := 20) 2 rfl rfl rfl (yaz 0 rfl) (by show (sbc z).length = 1 * 20; omega) (fun u hu => List.all_eq_true.1 (sbc_one hz.one.1 hz.one.2) u hu) rfl (by omega) (by unfold maxLen; omega) (by omega) rfl rfl rfl ybf (fun _ => ybf) ?_
        intro v3 _
        repeat' (first|(refine ycf ?_;apply ybk;(·first|(first|exact tk_|(apply yad;(·rfl);(·exact hel _);(·exact hxl))|(apply yad;(·rfl);(·exact yaz 0 rfl);(·exact hxl))|(apply yad;(·rfl);(·exact sb_dot (yaz 0 rfl));(·rfl))));(·rfl);(·rfl))|(refine ybg 0 rfl rfl rfl (sbc_sz e0) (sbc_fit rfl) (sbc_one hxv.one.1 hxv.one.2) (ybh (sbc_all rfl)) rfl rfl ?_ ?_ ?_;(·(exact to_));(·(exact to_)))|refine t1_ ?_|(refine ta_ ?_;intro _)|((fail_if_success (refine ybi rfl ?_));refine ybj rfl ?_ ?_<;>(intro ht;rw [ht];first|replace ht := oet_ ht|replace ht := oef_ ht|skip))|(refine ych ?_;first|(refine ybw rfl ?_ ?_<;>intro ht)|(refine ybx rfl ?_ ?_<;>intro ht)))
        refine nx_round (k + 1, h3, v3, O ++ [z]) ⟨by show k + 1 ≤ _; omega, p2.trans hle, fun o ho => ?_, ?_⟩ (by show D.length - (k + 1) < D.length - k; omega) ts_ (fun _ s => ?_)
        · rcases List.mem_append.1 ho with ho | ho
          · exact (p3 o ho).mono hle
          · rw [List.mem_singleton.1 ho]; exact hz
        · dsimp only
          rw [p4', hfr, List.map_append]
          simp [hza']
        · have s2 := s.tl.tl
          dsimp only
          show St _ h3 [Res.row _ _ v3 (O ++ [z]).length ((O ++ [z]).flatMap sbc)] _
          rw [List.length_append, List.flatMap_append]
          rw [show [z].flatMap sbc = sbc z by simp]
          exact s2
  · have hk2 : k = D.length := by omega
    subst hk2
    rw [List.take_length] at p4
    have hOl2 : O.length = ((D.filter fun x => freeS (a.map Sb.a) (b.map Sb.a) x.a)).length := by
      have := congrArg List.length p4
      rwa [List.length_map, List.length_map] at this
    repeat' (first|(refine ycf ?_;apply ybk;(·first|(exact tk_));(·rfl);(·rfl))|(refine ybg 0 rfl rfl rfl (sbc_sz e0) (sbc_fit rfl) (sbc_one hxv.one.1 hxv.one.2) (ybh (sbc_all rfl)) rfl rfl ?_ ?_ ?_;(·(exact to_));(·(exact to_)))|refine t1_ ?_|(refine ta_ ?_;intro _)|((fail_if_success (refine ybi rfl ?_));refine ybj rfl ?_ ?_<;>(intro ht;rw [ht];first|replace ht := oet_ ht|replace ht := oef_ ht|skip))|(refine ych ?_;first|(refine ybw rfl ?_ ?_<;>intro ht)|(refine ybx rfl ?_ ?_<;>intro ht)))
    refine rx_rowslice 0 rfl fun ad3 cap3 hv3 => ?_
    subst hv3
    refine rx_persist rfl fun h5 hle5 hs5 => ?_
    by_cases h64 : 64 < O.length
    · repeat' (first|(refine ycf ?_;apply ybk;(·first|(exact tk_));(·rfl);(·rfl))|(refine ybg 0 rfl rfl rfl (sbc_sz e0) (sbc_fit rfl) (sbc_one hxv.one.1 hxv.one.2) (ybh (sbc_all rfl)) rfl rfl ?_ ?_ ?_;(·(exact to_));(·(exact to_)))|refine t1_ ?_|(refine ta_ ?_;intro _)|((fail_if_success (refine ybi rfl ?_));refine ybj rfl ?_ ?_<;>(intro ht;rw [ht];first|replace ht := oet_ ht|replace ht := oef_ ht|skip))|(refine ych ?_;first|(refine ybw rfl ?_ ?_<;>intro ht)|(refine ybx rfl ?_ ?_<;>intro ht)))
      refine nx_ret2 rfl (rv_tmp rfl) (rv_tmp rfl) (fun w' s' => ⟨(h5, .slice none 0 0, [], 5), rfl, s'.nil, ⟨Sc.nil h5 20 none 0, fun x hx => by cases hx⟩, ?_⟩)
      unfold MergeR
      rw [if_neg (by rw [hza]; decide), if_neg (by rw [hzb]; decide)]
      refine ⟨R, kR, sR, ?_⟩
      rw [if_pos (by rw [← hD, ← hOl2]; exact h64)]
      exact ⟨rfl, rfl⟩
    · repeat' (first|(refine ycf ?_;apply ybk;(·first|(exact tk_));(·rfl);(·rfl))|(refine ybg 0 rfl rfl rfl (sbc_sz e0) (sbc_fit rfl) (sbc_one hxv.one.1 hxv.one.2) (ybh (sbc_all rfl)) rfl rfl ?_ ?_ ?_;(·(exact to_));(·(exact to_)))|refine t1_ ?_|(refine ta_ ?_;intro _)|((fail_if_success (refine ybi rfl ?_));refine ybj rfl ?_ ?_<;>(intro ht;rw [ht];first|replace ht := oet_ ht|replace ht := oef_ ht|skip))|(refine ych ?_;first|(refine ybw rfl ?_ ?_<;>intro ht)|(refine ybx rfl ?_ ?_<;>intro ht)))
      refine nx_ret2 rfl (rv_tmp rfl) (rv_tmp rfl) (fun w' s' => ⟨(h5, .slice ad3 O.length cap3, O, 0), rfl, s'.nil, ⟨hs5, fun o ho => (p3 o ho).mono hle5⟩, ?_⟩)
      unfold MergeR
      rw [if_neg (by rw [hza]; decide), if_neg (by rw [hzb]; decide)]
      refine ⟨R, kR, sR, ?_⟩
      rw [if_neg (by rw [← hD, ← hOl2]; exact h64), ← hD]
      exact ⟨rfl, p4⟩
end Go.Proofs.YtkkjppeaaicgaaaGreatDoor
end

section
namespace Go.Proofs.YtkkjppeaaicgaaaGreatDoor
open Go Go.Ck
set_option maxRecDepth 100000
set_option maxHeartbeats 4000000
set_option linter.unusedVariables false
theorem one_list {x : Sb} : [x].flatMap sbc = sbc x := by simp
theorem sput_sp (va : Value) (a : List Sb) (y : Sb) (h : View) (ha : Ss h va a) (hy : Sv h y) (fa : Fits a) (fy : y.l.length ≤ 1000000 ∧ y.b.length ≤ 1000000) (w : World) (s : St ⟨w, h, []⟩ h [] w) :
    Calls Tryz.prog 34 [va, sbv y].toArray w fun e w' => ∃ z : View × Value × List Sb × Int, e = .returned (.tuple #[z.2.1, .int .i64 z.2.2.2]) ∧ St ⟨w, h, []⟩ z.1 [] w' ∧ Ss z.1 z.2.1 z.2.2.1 ∧ MergeR a [y] (z.2.2.1.map Sb.a) z.2.2.2 := by
  obtain ⟨_, ad1, cap1, e1, _, _⟩ := id ha.1
  subst e1
  have hl := sbc_len y
  refine calls_enter Tryz.func34 rfl Tryz.ntmps34 rfl s ?_
  repeat' (first|(refine ycf ?_;apply ybk;(·first|(apply yad;(·rfl);(·exact yaz 0 rfl);(·exact hl)));(·rfl);(·rfl))|refine t1_ ?_|(refine ta_ ?_;intro _)|((fail_if_success (refine ybi rfl ?_));refine ybj rfl ?_ ?_<;>(intro ht;rw [ht];first|replace ht := oet_ ht|replace ht := oef_ ht|skip))|(refine ych ?_;first|(refine ybw rfl ?_ ?_<;>intro ht)|(refine ybx rfl ?_ ?_<;>intro ht)))
  refine yba (ybd rfl rfl rfl (ybe rfl (sbc_sz y))) rfl rfl rfl ybf (fun _ => ybf) ?_
  intro b9
  refine rx_rowOf 20 1 1 (by omega) (by unfold maxLen; omega) (by show (sbc y).length = 20; exact hl) ?_
  refine rx_persist rfl fun h1 hle1 hs1 => ?_
  have hs2 : Ss h1 (.slice (some ⟨b9, 0, none⟩) 1 1) [y] := by
    refine ⟨?_, fun x hx => by rw [List.mem_singleton.1 hx]; exact hy.mono hle1⟩
    rw [one_list]
    have e : (sbc y).take (1 * 20) = sbc y := List.take_of_length_le (by omega)
    have : Sc h1 20 (.slice (some ⟨b9, 0, none⟩) 1 1) 1 ((sbc y).take (1 * 20)) := hs1
    rwa [e] at this
  (refine yco (ycp Tryz.func67 rfl (by kernel_rfl) rfl) (smerge_sp _ _ a [y] h1 (ha.mono hle1) hs2 fa ⟨by simp, fun x hx => by rw [List.mem_singleton.1 hx]; exact fy⟩) rfl rfl rfl ?_ ?_ ?_; (· (exact to_)); (· intro _ _ hle; (exact to_)); intro x px hle)
  obtain ⟨h2, v2, M, e2⟩ := x
  repeat' (first|(refine ycf ?_;apply ybk;(·first|(apply yad;(·rfl);(·exact yaz 0 rfl);(·exact hl)));(·rfl);(·rfl))|refine t1_ ?_|(refine ta_ ?_;intro _)|((fail_if_success (refine ybi rfl ?_));refine ybj rfl ?_ ?_<;>(intro ht;rw [ht];first|replace ht := oet_ ht|replace ht := oef_ ht|skip))|(refine ych ?_;first|(refine ybw rfl ?_ ?_<;>intro ht)|(refine ybx rfl ?_ ?_<;>intro ht)))
  exact nx_ret2 rfl (rv_tmp rfl) (rv_tmp rfl) (fun w' s' => ⟨(h2, v2, M, e2), rfl, s'.nil, px⟩)
theorem Add_any (cv : Value) (u : List Int) (l : List Dt) (d : Dt) (h : View) (hc : Cx h cv u l) (hi : Inv u l) (hl : l.length ≤ 32) (hr : rightB d = true) (w : World) (s : St ⟨w, h, []⟩ h [] w) :
    Calls Tryz.prog 32 [cv, dv d].toArray w fun e w' => ∃ x : View × Value × Int × List Int × List Dt, e = .returned (.tuple #[x.2.1, .int .i64 x.2.2.1]) ∧ St ⟨w, h, []⟩ x.1 [] w' ∧ Cx x.1 x.2.1 x.2.2.2.1 x.2.2.2.2 ∧
      ((x.2.2.1 = 11 ∧ 32 ≤ l.length ∧ ∃ u1 m1, Inv u1 m1 ∧ 32 < m1.length ∧ ∀ y, rightB y = true → hasC u1 m1 y = (hasC u l y || decide (y = d))) ∨ (x.2.2.1 = 0 ∧ Inv x.2.2.2.1 x.2.2.2.2 ∧ x.2.2.2.2.length ≤ 32 ∧ x.2.2.2.2.length ≤ l.length + 1 ∧ ∀ y, rightB y = true → hasC x.2.2.2.1 x.2.2.2.2 y = (hasC u l y || decide (y = d)))) := by
  refine (Add_sp cv u l d h hc (by omega) w s).mono ?_
  rintro e w' ⟨⟨h4, v4, srt, er⟩, he, hs, px⟩
  dsimp only at he hs px
  have hk : checkC u l = 0 := check_inv hi hl
  rw [if_neg (by simp [hk, hr])] at px
  obtain ⟨p1, p2, p3⟩ := px
  obtain ⟨g1, g2, g3⟩ := add_inv hi.len hk hr p1 p2
  by_cases h32 : 32 < (tfold u srt).2.length
  · rw [if_pos h32] at p3
    exact ⟨(h4, v4, er, _, _), he, hs, p3.2, .inl ⟨p3.1, by omega, _, _, g1, h32, g3⟩⟩
  · rw [if_neg h32] at p3
    exact ⟨(h4, v4, er, _, _), he, hs, p3.2, .inr ⟨p3.1, g1, by show (tfold u srt).2.length ≤ 32; omega, g2, g3⟩⟩
end Go.Proofs.YtkkjppeaaicgaaaGreatDoor
end

section
namespace Go.Proofs.YtkkjppeaaicgaaaGreatDoor
open Go Go.Ck Go.Shelf Go.RowKit Go.Lib Go.Sort
set_option maxRecDepth 100000
set_option maxHeartbeats 2000000
set_option linter.unusedVariables false
theorem sord2_sp (a b : Dt) (h : View) (w : World) (s : St ⟨w, h, []⟩ h [] w) :
    Calls Tryz.prog 29 [dv a, dv b].toArray w fun e w' => e = .returned (.int .i64 (ordD a b)) ∧ St ⟨w, h, []⟩ h [] w' := by
  refine calls_enter Tryz.func29 rfl Tryz.ntmps29 rfl s ?_
  repeat' (first|refine tw_ ?_|(refine ta_ ?_;intro _)|((fail_if_success (refine ybi rfl ?_));refine ybj rfl ?_ ?_<;>(intro ht;rw [ht];first|replace ht := oet_ ht|replace ht := oef_ ht|skip))|(refine ych ?_;first|(refine ybw rfl ?_ ?_<;>intro ht)|(refine ybx rfl ?_ ?_<;>intro ht)))
  refine cx_region_draw' rfl (by kernel_rfl) ?_
  repeat' (refine ycf ?_;(first|refine tz_ ?_|((fail_if_success (refine ybi rfl ?_));refine ybj rfl ?_ ?_<;>(intro ht;rw [ht];first|replace ht := oet_ ht|replace ht := oef_ ht|skip))|(refine tb_ ?_ ?_ ?_;(·exact to_);(·intro _;exact to_);intro _)|refine ycg ?_))
  (refine ycn (ycp Tryz.func31 rfl (by kernel_rfl) rfl) (compare_sp _ _ h) rfl rfl rfl ?_ ?_; (· (exact to_)))
  repeat' (refine ycf ?_;(first|refine tz_ ?_|((fail_if_success (refine ybi rfl ?_));refine ybj rfl ?_ ?_<;>(intro ht;rw [ht];first|replace ht := oet_ ht|replace ht := oef_ ht|skip))|(refine tb_ ?_ ?_ ?_;(·exact to_);(·intro _;exact to_);intro _)|refine ycg ?_))
  (refine ycn (ycp Tryz.func31 rfl (by kernel_rfl) rfl) (compare_sp _ _ h) rfl rfl rfl ?_ ?_; (· (exact to_)))
  repeat' (refine ycf ?_;(first|refine tz_ ?_|((fail_if_success (refine ybi rfl ?_));refine ybj rfl ?_ ?_<;>(intro ht;rw [ht];first|replace ht := oet_ ht|replace ht := oef_ ht|skip))|(refine tb_ ?_ ?_ ?_;(·exact to_);(·intro _;exact to_);intro _)|refine ycg ?_))
  (refine rx_call_m (ycp Tryz.func30 rfl (by kernel_rfl) rfl) (perm_at (k := 0) rfl) (or2_sp _ _ _ _ h) rfl rfl rfl ?_ ?_ ?_; (· (exact to_)); (· intro _ _ hle; (exact to_)); intro x px hle)
  repeat' (refine ycf ?_;(first|refine tz_ ?_|((fail_if_success (refine ybi rfl ?_));refine ybj rfl ?_ ?_<;>(intro ht;rw [ht];first|replace ht := oet_ ht|replace ht := oef_ ht|skip))|(refine tb_ ?_ ?_ ?_;(·exact to_);(·intro _;exact to_);intro _)|refine ycg ?_))
  repeat' (first|refine tw_ ?_|(refine ta_ ?_;intro _)|((fail_if_success (refine ybi rfl ?_));refine ybj rfl ?_ ?_<;>(intro ht;rw [ht];first|replace ht := oet_ ht|replace ht := oef_ ht|skip))|(refine ych ?_;first|(refine ybw rfl ?_ ?_<;>intro ht)|(refine ybx rfl ?_ ?_<;>intro ht)))
  exact nx_ret1 rfl (rv_tmp rfl) (fun w' s' => ⟨rfl, s'.nil⟩)
theorem seen_lays (blk off size : Nat) (w : World) : CmpLays Tryz.prog 29 #[] dcs 2 ordD blk off size w := fun m os dk _ x y => by
  have := sord2_sp x y (fun _ => none) _ (St.start (w := sortWorldK dcs 2 w blk off m dk os) (L := []) ⟨fun b o hb => (by cases hb), fun r hr => (by cases hr)⟩ (by simp [doms]) (fun b hb => rfl))
  refine this.mono ?_
  rintro e w' ⟨rfl, s'⟩
  exact ⟨rfl, st_grow s'⟩
theorem sort2_sp (v : Value) (l : List Dt) (h : View) (hlen : l.length ≤ 1000000) (w : World) (s : St ⟨w, h, doms [rowD v l]⟩ h [rowD v l] w) :
    Calls Tryz.prog 28 [v, .func (.func 29) #[] #[]].toArray w fun e w' => ∃ l', e = .returned (.tuple #[]) ∧ St ⟨w, h, doms [rowD v l]⟩ h [rowD v l'] w' ∧ l'.Perm l ∧ SortedD l' := by
  have ho : w.ownsRow 0 53 2 v l.length (l.flatMap dcs) := s.hd.own (rowD v l) (List.mem_cons_self ..)
  rcases ho.2 with ⟨rfl, h0⟩ | ⟨g, cap, cur, rfl, _, hg, hn, hm, hs, ht⟩
  · obtain rfl : l = [] := List.eq_nil_of_length_eq_zero h0
    refine (AnyF.slices_SortFunc_none Tryz.sortDot none 0 _ w).mono ?_
    rintro e w' ⟨rfl, rfl⟩
    exact ⟨[], rfl, s, List.Perm.nil, List.Pairwise.nil⟩
  · have hblk : g < w.heap.size := (Array.getElem?_eq_some_iff.1 hg).1
    have eg : ∀ args w, (callFunc 29 args).run Tryz.prog w = .ok (.enter 29 args) w := enters_of (fn := Tryz.f29) rfl (by kernel_rfl) rfl
    have hcon := AnyQ.slices_SortFunc Tryz.sortDot 2 Tryz.isAgg53 Tryz.sizeOf53 dcs dcs_len (fun x v hv => one_dcs [x] v (by simpa using hv)) ordD ord_swo 29 #[] g 0 cap l.toArray w eg (seen_lays g 0 l.toArray.size w) (holds_row hg ht) hblk (by simp; omega)
    refine hcon.mono ?_
    rintro e w' ⟨rfl, d', n, os, hp, hso, rfl⟩
    have hsz : d'.toList.length = l.length := by simpa using hp.1
    refine ⟨d'.toList, rfl, ?_, ?_, ?_⟩
    · have hr := row_sorted (n := n) (os := os) (l' := d'.toList) hsz hg hn hm hs
      rw [Array.toArray_toList] at hr
      refine St.swap (k := 0) s rfl rfl rfl rfl ?_ ?_ ?_ hr ?_ ?_
      · show w.drawn ≤ w.drawn + n
        omega
      · simp [sortWorldK, putRowK, Sort.grow, Sort.ahead]
      · intro j hj hjn
        have hjg : g ≠ j := fun e => hjn (by simp [Res.row, Value.ownBlock, e])
        unfold sortWorldK putRowK
        rw [Sort.heap_grow_old _ _ (by simpa using hj)]
        simp [Sort.putRow, Sort.mapBlock, Sort.ahead, Array.getElem?_modify, hjg]
      · simp [Res.row, Value.ownBlock]
      · intro b hb
        exact .inl hb
    · have := hp.2.2
      have e1 : (d'.extract 0 l.toArray.size).toList = d'.toList := by
        have : l.toArray.size = d'.size := by simp [← hsz]
        rw [this, Array.extract_size]
      have e2 : (l.toArray.extract 0 l.toArray.size).toList = l := by rw [Array.extract_size]
      rw [e1, e2] at this
      exact this
    · unfold SortedD
      rw [List.pairwise_iff_getElem]
      intro i j hi hj hij
      have := hso i j (Nat.zero_le _) hij (by simpa [← hsz] using hj)
      rw [getElem!_pos d' i (by simpa using hi), getElem!_pos d' j (by simpa using hj)] at this
      simpa [ltOf] using this
end Go.Proofs.YtkkjppeaaicgaaaGreatDoor
end
