/-
  Part 17 of a proof: SrA SrB SbRa.
  Conditions: each theorem states its own.
-/
import Derived.Test.YtkkjppeaaicgaaaGreatSrEPM16
section
namespace Go.Proofs.YtkkjppeaaicgaaaGreat
open Go Go.Ck
set_option maxRecDepth 100000
set_option maxHeartbeats 2000000
set_option linter.unusedVariables false

/-- a sibling's bytes -/
def encA (a : Ab) : List Int := num8 a.1.1 ++ num8 a.1.2 ++ (num4 (encW a.2.1 a.2.2.1).length ++ encW a.2.1 a.2.2.1) ++ (num4 a.2.2.2.length ++ a.2.2.2)
def encS (l : List Ab) : List Int := num1 l.length ++ l.flatMap encA

/-- one sibling read: what is told of it, was its past one, and what is left -/
def sb1 (s : RS) : Int × RS := numC s 8 1099511627776
def sb2 (s : RS) : Int × RS := numC (sb1 s).2 8 1099511627776
def sb3 (s : RS) : List Int × RS := byC (sb2 s).2 16384
def sb4 (s : RS) : Bool × List Int × List Dt := rdS (sb3 s).1
def sb5 (s : RS) : List Int × RS := byC (sb3 s).2 16384
def sbA (s : RS) : Ab := (((sb1 s).1, (sb2 s).1), (sb4 s).2.1, (sb4 s).2.2, (sb5 s).1)
def sbsC : Nat → RS → (List Ab × Bool) × RS
  | 0, s => (([], true), s)
  | k + 1, s => (((sbsC k s).1.1 ++ [sbA (sbsC k s).2], (sbsC k s).1.2 && (sb4 (sbsC k s).2).1), (sb5 (sbsC k s).2).2)
def smS (l : List Int) : Int × RS := numC (l, 0) 1 64
def srC (l : List Int) : (List Ab × Bool) × RS := sbsC (smS l).1.toNat (smS l).2
/-- what is read of bytes: were they a set's, and which -/
def srS (l : List Int) : Bool × List Ab := if (srC l).1.2 = true ∧ endC (srC l).2 = 0 ∧ checkA (srC l).1.1 = 0 then (true, (srC l).1.1) else (false, [])

theorem sb1_ok {s : RS} (h : RsOk s) : RsOk (sb1 s).2 := h.num _ _
theorem sb2_ok {s : RS} (h : RsOk s) : RsOk (sb2 s).2 := (sb1_ok h).num _ _
theorem sb3_ok {s : RS} (h : RsOk s) : RsOk (sb3 s).2 ∧ Bytes (sb3 s).1 ∧ ((sb3 s).1.length : Int) ≤ 16384 := (sb2_ok h).by (by omega)
theorem sb5_ok {s : RS} (h : RsOk s) : RsOk (sb5 s).2 ∧ Bytes (sb5 s).1 ∧ ((sb5 s).1.length : Int) ≤ 16384 := (sb3_ok h).1.by (by omega)
theorem sb4_len {s : RS} (h : RsOk s) : (sb4 s).2.2.length ≤ 32 := (rdS_ok (sb3_ok h).2.1 (by have := (sb3_ok h).2.2; omega)).2
theorem sbsC_ok {s : RS} (h : RsOk s) : ∀ k, RsOk (sbsC k s).2 ∧ (sbsC k s).1.1.length = k
  | 0 => ⟨h, rfl⟩
  | k + 1 => ⟨(sb5_ok (sbsC_ok h k).1).1, by show ((sbsC k s).1.1 ++ [_]).length = k + 1; rw [List.length_append, (sbsC_ok h k).2]; rfl⟩
theorem sb5_err {s : RS} (h : s.2 ≠ 0) : (sb5 s).2 = s := by
  have h1 : (sb1 s).2 = s := by unfold sb1; rw [numC_err h]
  have h2 : (sb2 s).2 = s := by unfold sb2; rw [h1, numC_err h]
  have h3 : (sb3 s).2 = s := by unfold sb3; rw [h2, byC_err h]
  unfold sb5; rw [h3, byC_err h]
theorem sbsC_err {s : RS} {k : Nat} (h : (sbsC k s).2.2 ≠ 0) : ∀ j, (sbsC (k + j) s).2 = (sbsC k s).2
  | 0 => rfl
  | j + 1 => by
    have ih := sbsC_err h j
    show (sb5 (sbsC (k + j) s).2).2 = _
    rw [ih, sb5_err h]

theorem byC_took {s : RS} (hb : Bytes s.1) {most : Int} (h : (byC s most).2.2 = 0) : s.2 = 0 ∧ num4 (byC s most).1.length ++ (byC s most).1 ++ (byC s most).2.1 = s.1 := by
  unfold byC at h ⊢
  by_cases h0 : s.2 ≠ 0
  · rw [if_pos h0] at h; exact absurd h h0
  · rw [if_neg h0] at h ⊢
    refine ⟨Decidable.not_not.1 h0, ?_⟩
    by_cases h1 : (lookC s.1 4 most).2 = 0
    · rw [if_neg (by simpa using h1)] at h ⊢
      have hl := lookC_len h1
      have e : (lookC s.1 4 most).1 = valB (s.1.take 4) := by
        unfold lookC at h1 ⊢
        split
        · rename_i h2; rw [if_pos h2] at h1; cases h1
        · rename_i h2
          rw [if_neg h2] at h1
          split
          · rename_i h3; rw [if_pos h3] at h1; cases h1
          · rfl
      by_cases h2 : s.1.length - 4 < (lookC s.1 4 most).1.toNat
      · rw [if_pos h2] at h; cases h
      · rw [if_neg h2]
        have hp := putLow_val (l := s.1.take 4) (fun x hx => hb x (List.mem_of_mem_take hx))
        rw [List.length_take, Nat.min_eq_left hl, ← e] at hp
        have hn : 0 ≤ (lookC s.1 4 most).1 := by rw [e]; exact (valB_bd hb 4 hl).1
        have hlen : (((s.1.drop 4).take (lookC s.1 4 most).1.toNat).length : Int) = (lookC s.1 4 most).1 := by
          rw [List.length_take, List.length_drop]; omega
        dsimp only
        rw [hlen]
        unfold num4
        rw [hp, List.append_assoc, List.take_append_drop, List.take_append_drop]
    · rw [if_pos h1] at h
      exact absurd h h1
theorem sbsC_took {s : RS} (hs : RsOk s) : ∀ k, (sbsC k s).2.2 = 0 → (sbsC k s).1.2 = true → s.2 = 0 ∧ (sbsC k s).1.1.flatMap encA ++ (sbsC k s).2.1 = s.1
  | 0, h, _ => ⟨h, rfl⟩
  | k + 1, h, hr => by
    have hk := (sbsC_ok hs k).1
    have ih := sbsC_took hs k
    replace hr : ((sbsC k s).1.2 && (sb4 (sbsC k s).2).1) = true := hr
    replace h : (sb5 (sbsC k s).2).2.2 = 0 := h
    show s.2 = 0 ∧ ((sbsC k s).1.1 ++ [sbA (sbsC k s).2]).flatMap encA ++ (sb5 (sbsC k s).2).2.1 = s.1
    generalize sbsC k s = D at hk ih hr h ⊢
    obtain ⟨⟨A, r⟩, t⟩ := D
    dsimp only at hk ih hr h ⊢
    rw [Bool.and_eq_true] at hr
    have k3 := sb3_ok hk
    obtain ⟨e5, h5⟩ := byC_took k3.1.b (show (byC (sb3 t).2 16384).2.2 = 0 from h)
    obtain ⟨e3, h3⟩ := byC_took (sb2_ok hk).b (show (byC (sb2 t).2 16384).2.2 = 0 from e5)
    obtain ⟨e2, h2⟩ := numC_took (sb1_ok hk).b (show (numC (sb1 t).2 8 1099511627776).2.2 = 0 from e3)
    obtain ⟨e1, h1⟩ := numC_took hk.b (show (numC t 8 1099511627776).2.2 = 0 from e2)
    obtain ⟨e0, h0⟩ := ih e1 hr.1
    have hw : encW (sb4 t).2.1 (sb4 t).2.2 = (sb3 t).1 := ((rdS_ok k3.2.1 (by have := k3.2.2; omega)).1 hr.2).2
    refine ⟨e0, ?_⟩
    rw [List.flatMap_append, List.append_assoc]
    refine Eq.trans (congrArg (A.flatMap encA ++ ·) ?_) h0
    rw [← h1]
    show [sbA t].flatMap encA ++ (sb5 t).2.1 = num8 (sb1 t).1 ++ (sb1 t).2.1
    rw [← h2]
    show [sbA t].flatMap encA ++ (sb5 t).2.1 = num8 (sb1 t).1 ++ (num8 (sb2 t).1 ++ (sb2 t).2.1)
    rw [← h3]
    show [sbA t].flatMap encA ++ (sb5 t).2.1 = num8 (sb1 t).1 ++ (num8 (sb2 t).1 ++ (num4 (sb3 t).1.length ++ (sb3 t).1 ++ (sb3 t).2.1))
    rw [← h5]
    show [sbA t].flatMap encA ++ (sb5 t).2.1 = num8 (sb1 t).1 ++ (num8 (sb2 t).1 ++ (num4 (sb3 t).1.length ++ (sb3 t).1 ++ (num4 (sb5 t).1.length ++ (sb5 t).1 ++ (sb5 t).2.1)))
    simp only [List.flatMap_cons, List.flatMap_nil, List.append_nil, encA, sbA, hw, List.append_assoc]
theorem smS_bd {l : List Int} (hb : Bytes l) (hl : l.length ≤ 1000000) : 0 ≤ (smS l).1 ∧ (smS l).1 ≤ 64 := numC_bd (s := (l, 0)) ⟨hb, hl⟩ (by omega)
theorem smS_ok {l : List Int} (hb : Bytes l) (hl : l.length ≤ 1000000) : RsOk (smS l).2 := RsOk.num (s := (l, 0)) ⟨hb, hl⟩ _ _
/-- what is taken has just its bytes -/
theorem srS_took {l : List Int} (hb : Bytes l) (hl : l.length ≤ 1000000) (h : (srS l).1 = true) : checkA (srS l).2 = 0 ∧ encS (srS l).2 = l := by
  unfold srS at h ⊢
  split
  · rename_i hx
    obtain ⟨hr, he, hc⟩ := hx
    refine ⟨hc, ?_⟩
    have hbd := smS_bd hb hl
    have hok := smS_ok hb hl
    have hlen := (sbsC_ok hok (smS l).1.toNat).2
    have hz : (srC l).2.2 = 0 ∧ (srC l).2.1 = [] := by
      unfold endC at he
      split at he
      · cases he
      · rename_i h1
        refine ⟨he, ?_⟩
        have : ¬ 0 < (srC l).2.1.length := fun h => h1 ⟨he, h⟩
        exact List.length_eq_zero_iff.1 (by omega)
    obtain ⟨h1, h2⟩ := sbsC_took hok (smS l).1.toNat hz.1 hr
    obtain ⟨_, h4⟩ := numC_took (s := (l, 0)) hb (show (numC (l, 0) 1 64).2.2 = 0 from h1)
    show num1 ((sbsC (smS l).1.toNat (smS l).2).1.1.length : Int) ++ (sbsC (smS l).1.toNat (smS l).2).1.1.flatMap encA = l
    rw [hlen, Int.toNat_of_nonneg hbd.1]
    refine Eq.trans ?_ h4
    show num1 (smS l).1 ++ _ = num1 (smS l).1 ++ (smS l).2.1
    rw [← h2]
    have : (sbsC (smS l).1.toNat (smS l).2).2.1 = [] := hz.2
    rw [this, List.append_nil]
  · rename_i hx
    rw [if_neg hx] at h
    cases h
end Go.Proofs.YtkkjppeaaicgaaaGreat
end

section
namespace Go.Proofs.YtkkjppeaaicgaaaGreat
open Go Go.Ck
set_option maxRecDepth 100000
set_option maxHeartbeats 4000000
set_option linter.unusedVariables false

theorem spl_past_r {x : Sb} {u : List Int} {mv : Value} {l : List Dt} (hu : u.length = 16) : spl (sbc x) (0 + 2) (cxc u mv) = sbc ⟨x.d, u, hu, l, mv, x.b, x.bv⟩ := by
  obtain ⟨a0, a1, a2, a3, a4, a5, a6, a7, a8, a9, a10, a11, a12, a13, a14, a15, e⟩ := list16 x.u x.hu
  obtain ⟨b0, b1, b2, b3, b4, b5, b6, b7, b8, b9, b10, b11, b12, b13, b14, b15, e2⟩ := list16 u hu
  unfold sbc spl
  simp only [e, e2, cxc, up]
  rfl
theorem past_fit_r {x : Sb} {u : List Int} {mv : Value} (hu : u.length = 16) : 0 + 2 + (Value.agg (cxc u mv).toArray).cells.size ≤ (sbc x).toArray.size := by
  rw [cxc_sz hu]
  have := sbc_len x
  simp
  omega
theorem sbsC_fit {s : RS} (h : RsOk s) : ∀ k, ∀ a ∈ (sbsC k s).1.1, a.2.2.1.length ≤ 32 ∧ (a.2.2.2.length : Int) ≤ 16384
  | 0, a, ha => by cases ha
  | k + 1, a, ha => by
    have ha : a ∈ (sbsC k s).1.1 ++ [sbA (sbsC k s).2] := ha
    rcases List.mem_append.1 ha with ha | ha
    · exact sbsC_fit h k a ha
    · rw [List.mem_singleton.1 ha]
      exact ⟨sb4_len (sbsC_ok h k).1, (sb5_ok (sbsC_ok h k).1).2.2⟩
theorem fits_sbs {s : RS} (h : RsOk s) {k : Nat} {zs : List Sb} (hz : zs.map Sb.a = (sbsC k s).1.1) (hk : k ≤ 64) : Fits zs := by
  refine ⟨?_, fun x hx => ?_⟩
  · have := (sbsC_ok h k).2
    rw [← hz, List.length_map] at this
    omega
  · have hx2 : x.a ∈ (sbsC k s).1.1 := by rw [← hz]; exact List.mem_map_of_mem hx
    obtain ⟨h1, h2⟩ := sbsC_fit h k _ hx2
    have h1 : x.l.length ≤ 32 := h1
    have h2 : (x.b.length : Int) ≤ 16384 := h2
    exact ⟨by omega, by omega⟩
theorem sRead_sp (sv : Value) (l : List Int) (hb : Bytes l) (hl : l.length ≤ 1000000) (h : View) (hs : Bs8 h sv l) (w : World) (s : St ⟨w, h, []⟩ h [] w) :
    Calls Tryz.prog 4 [sv].toArray w fun en w' => ∃ x : View × Value × List Sb, en = .returned (.tuple #[x.2.1, .int .i64 (if (srS l).1 = true then 0 else 2)]) ∧ St ⟨w, h, []⟩ x.1 [] w' ∧ (Ss x.1 x.2.1 x.2.2 ∧ x.2.2.map Sb.a = (srS l).2) := by
  have hok0 : RsOk (smS l).2 := smS_ok hb hl
  have hbd := smS_bd hb hl
  refine calls_enter Tryz.func4 rfl Tryz.ntmps4 rfl s ?_
  repeat' (first | refine tw_ ?_ | (refine ta_ ?_; intro _) | ((fail_if_success (refine ybi rfl ?_)); refine ybj rfl ?_ ?_ <;> (intro ht; rw [ht]; first | replace ht := of_decide_eq_true ht | replace ht := of_decide_eq_false ht | skip)) | (refine ych ?_; first | (refine ybw rfl ?_ ?_ <;> intro ht) | (refine ybx rfl ?_ ?_ <;> intro ht)))
  (refine yco (ycp Tryz.func10 rfl (by kernel_rfl) rfl) (Of_sp sv l hl h hs) rfl rfl rfl ?_ ?_ ?_; (· (exact to_)); (· intro _ _ hle; (exact to_)); intro x px hle)
  obtain ⟨h1, bi, v⟩ := x
  replace hle : Le h h1 := hle
  have hv1 : Bs8 h1 v l := px
  have hs1 := hle
  clear px hle
  repeat' (first | refine tw_ ?_ | (refine ta_ ?_; intro _) | ((fail_if_success (refine ybi rfl ?_)); refine ybj rfl ?_ ?_ <;> (intro ht; rw [ht]; first | replace ht := of_decide_eq_true ht | replace ht := of_decide_eq_false ht | skip)) | (refine ych ?_; first | (refine ybw rfl ?_ ?_ <;> intro ht) | (refine ybx rfl ?_ ?_ <;> intro ht)))
  (refine rx_call_m (ycp Tryz.func11 rfl (by kernel_rfl) rfl) (perm_at (k := 0) rfl) (InSmall_sp bi v l 0 64 hb (by omega) hl h1 hv1) rfl rfl rfl ?_ ?_ ?_; (· (exact to_)); (· intro _ _ hle; (exact to_)); intro x px hle)
  have px : Bs8 h1 x (smS l).2.1 := px
  have eM : numC (l, 0) 1 64 = smS l := rfl
  rw [eM]
  have eS : srS l = if (sbsC (smS l).1.toNat (smS l).2).1.2 = true ∧ endC (sbsC (smS l).1.toNat (smS l).2).2 = 0 ∧ checkA (sbsC (smS l).1.toNat (smS l).2).1.1 = 0 then (true, (sbsC (smS l).1.toNat (smS l).2).1.1) else (false, []) := rfl
  rw [eS]
  clear eS eM
  generalize smS l = M at hok0 hbd px ⊢
  obtain ⟨nv, st⟩ := M
  dsimp only at hok0 hbd px ⊢
  obtain ⟨n, rfl⟩ : ∃ n : Nat, nv = n := ⟨nv.toNat, by omega⟩
  rw [Int.toNat_natCast]
  repeat' (first | refine tw_ ?_ | (refine ta_ ?_; intro _) | ((fail_if_success (refine ybi rfl ?_)); refine ybj rfl ?_ ?_ <;> (intro ht; rw [ht]; first | replace ht := of_decide_eq_true ht | replace ht := of_decide_eq_false ht | skip)) | (refine ych ?_; first | (refine ybw rfl ?_ ?_ <;> intro ht) | (refine ybx rfl ?_ ?_ <;> intro ht)))
  refine cx_row 46 20 ?_
  refine cx_loop (X := Nat × View × Value × Value × List Sb)
    (fun y => [(2, .slice none 0 0), (3, .int .i64 0), (4, .pointer (some ⟨bi, 0, none⟩)), (5, y.2.2.2.1), (6, .bool (sbsC y.1 st).1.2), (13, .int .i64 (n : Nat)), (14, .int .i64 (y.1 : Nat))])
    (fun y => y.2.1) (fun y => [Res.row 46 20 y.2.2.2.1 y.1 (y.2.2.2.2.flatMap sbc), inR bi y.2.2.1 (sbsC y.1 st).2.2])
    (fun y => y.1 ≤ n ∧ Le h1 y.2.1 ∧ Bs8 y.2.1 y.2.2.1 (sbsC y.1 st).2.1 ∧ (∀ z ∈ y.2.2.2.2, Sv y.2.1 z) ∧ y.2.2.2.2.map Sb.a = (sbsC y.1 st).1.1)
    (fun y => n - y.1) (0, h1, x, .slice none 0 0, []) ⟨Nat.zero_le _, Le.refl _, px, (fun z hz => by cases hz), rfl⟩ ts_ (fun _ s => s) ?_
  rintro ⟨k, hk, v, mv, zs⟩ ⟨q1, q2, q3, q4, q5⟩
  dsimp only at q1 q2 q3 q4 q5 ⊢
  obtain ⟨hok, hlen⟩ := sbsC_ok hok0 k
  by_cases hkn : k < n
  · have eD : sbsC (k + 1) st = (((sbsC k st).1.1 ++ [sbA (sbsC k st).2], (sbsC k st).1.2 && (sb4 (sbsC k st).2).1), (sb5 (sbsC k st).2).2) := rfl
    generalize sbsC k st = D at hok hlen q3 q5 eD ⊢
    obtain ⟨⟨A, rb⟩, ls, e⟩ := D
    dsimp only at hok hlen q3 q5 eD ⊢
    repeat' (first | (refine ycf ?_; apply ybk; (· first | (exact tk_)); (· rfl); (· rfl)) | refine t1_ ?_ | (refine ta_ ?_; intro _) | ((fail_if_success (refine ybi rfl ?_)); refine ybj rfl ?_ ?_ <;> (intro ht; rw [ht]; first | replace ht := of_decide_eq_true ht | replace ht := of_decide_eq_false ht | skip)) | (refine ych ?_; first | (refine ybw rfl ?_ ?_ <;> intro ht) | (refine ybx rfl ?_ ?_ <;> intro ht)))
    rename_i b7
    (refine rx_call_m (ycp Tryz.func12 rfl (by kernel_rfl) rfl) (perm_at (k := 2) rfl) (InNum_sp bi v ls e 1099511627776 hok.b (by omega) hok.l hk q3) rfl rfl rfl ?_ ?_ ?_; (· (exact to_)); (· intro _ _ hle; (exact to_)); intro x px hle)
    have hok1 := sb1_ok hok
    rw [show numC (ls, e) 8 1099511627776 = sb1 (ls, e) from rfl] at px ⊢
    generalize hS1 : sb1 (ls, e) = S1 at px hok1 ⊢
    obtain ⟨n1, ls1, e1⟩ := S1
    dsimp only at px hok1 ⊢
    have px1 := px
    repeat' (first | (refine ycf ?_; apply ybk; (· first | (exact tk_)); (· rfl); (· rfl)) | refine t1_ ?_ | (refine ta_ ?_; intro _) | ((fail_if_success (refine ybi rfl ?_)); refine ybj rfl ?_ ?_ <;> (intro ht; rw [ht]; first | replace ht := of_decide_eq_true ht | replace ht := of_decide_eq_false ht | skip)) | (refine ych ?_; first | (refine ybw rfl ?_ ?_ <;> intro ht) | (refine ybx rfl ?_ ?_ <;> intro ht)))
    (refine rx_call_m (ycp Tryz.func12 rfl (by kernel_rfl) rfl) (perm_at (k := 0) rfl) (InNum_sp bi x ls1 e1 1099511627776 hok1.b (by omega) hok1.l hk px1) rfl rfl rfl ?_ ?_ ?_; (· (exact to_)); (· intro _ _ hle; (exact to_)); intro x px hle)
    have hok2 := sb2_ok hok
    have hok3 := sb3_ok hok
    have hok5 := sb5_ok hok
    have hl4 := sb4_len hok
    have e2 : numC (ls1, e1) 8 1099511627776 = sb2 (ls, e) := by unfold sb2; rw [hS1]
    rw [e2] at px ⊢
    have e3 : byC (sb2 (ls, e)).2 16384 = sb3 (ls, e) := rfl
    have e4 : rdS (sb3 (ls, e)).1 = sb4 (ls, e) := rfl
    have e5 : byC (sb3 (ls, e)).2 16384 = sb5 (ls, e) := rfl
    have eA : sbA (ls, e) = ((n1, (sb2 (ls, e)).1), (sb4 (ls, e)).2.1, (sb4 (ls, e)).2.2, (sb5 (ls, e)).1) := by unfold sbA; rw [hS1]
    rw [eA] at eD
    clear eA e2
    generalize sb2 (ls, e) = S2 at px hok2 e3 eD ⊢
    obtain ⟨n2, ls2, er2⟩ := S2
    dsimp only at px hok2 e3 eD ⊢
    have px2 := px
    repeat' (first | (refine ycf ?_; apply ybk; (· first | (exact tk_)); (· rfl); (· rfl)) | refine t1_ ?_ | (refine ta_ ?_; intro _) | ((fail_if_success (refine ybi rfl ?_)); refine ybj rfl ?_ ?_ <;> (intro ht; rw [ht]; first | replace ht := of_decide_eq_true ht | replace ht := of_decide_eq_false ht | skip)) | (refine ych ?_; first | (refine ybw rfl ?_ ?_ <;> intro ht) | (refine ybx rfl ?_ ?_ <;> intro ht)))
    (refine rx_call_m (ycp Tryz.func14 rfl (by kernel_rfl) rfl) (perm_at (k := 0) rfl) (InBytes_sp bi x ls2 er2 16384 hok2.b (by omega) hok2.l hk px2) rfl rfl rfl ?_ ?_ ?_; (· (exact to_)); (· intro _ _ hle; (exact to_)); intro x px hle)
    rw [e3] at px ⊢
    generalize sb3 (ls, e) = S3 at px hok3 e4 e5 eD ⊢
    obtain ⟨bs3, ls3, er3⟩ := S3
    obtain ⟨h3, w3, v3⟩ := x
    dsimp only at px hok3 e4 e5 eD ⊢
    obtain ⟨pw, pv⟩ := px
    have hle3 : Le hk h3 := hle
    clear hle
    repeat' (first | (refine ycf ?_; apply ybk; (· first | (exact tk_)); (· rfl); (· rfl)) | refine t1_ ?_ | (refine ta_ ?_; intro _) | ((fail_if_success (refine ybi rfl ?_)); refine ybj rfl ?_ ?_ <;> (intro ht; rw [ht]; first | replace ht := of_decide_eq_true ht | replace ht := of_decide_eq_false ht | skip)) | (refine ych ?_; first | (refine ybw rfl ?_ ?_ <;> intro ht) | (refine ybx rfl ?_ ?_ <;> intro ht)))
    (refine yco (ycp Tryz.func13 rfl (by kernel_rfl) rfl) (Read_s w3 bs3 hok3.2.1 (by omega) h3 pw) rfl rfl rfl ?_ ?_ ?_; (· (exact to_)); (· intro _ _ hle; (exact to_)); intro x px hle)
    rw [e4] at px ⊢
    generalize sb4 (ls, e) = S4 at px hl4 eD ⊢
    obtain ⟨t4, U, M⟩ := S4
    obtain ⟨h4, v4⟩ := x
    dsimp only at px hl4 eD ⊢
    have hle4 : Le h3 h4 := hle
    clear hle
    obtain ⟨hu, mv4, rfl, hD4⟩ := px
    obtain ⟨_, ad4, cap4, rfl, _, _⟩ := id hD4
    obtain ⟨y1, hy1⟩ : ∃ y1 : Sb, y1 = ⟨(n1, n2), U, hu, M, .slice ad4 M.length cap4, [], .slice none 0 0⟩ := ⟨_, rfl⟩
    have g1 : spl (sbc (s0 (n1, n2))) (0 + 2) (cxc U (.slice ad4 M.length cap4)) = sbc y1 := by rw [hy1]; exact spl_past_r hu
    repeat' (first|(refine ycf ?_;apply ybk;(·first|(first|exact tk_|(apply yad;(·rfl);(·exact yaz 0 rfl);(·exact ycj hu))));(·rfl);(·rfl))|(first|(refine ybg 0 rfl rfl rfl (cxc_sz hu) (cxc_fit hu) (cxc_one rfl) (ybh (cxc_all hu)) rfl rfl ?_ ?_ ?_;(·(exact to_));(·(exact to_)))|(refine ybg 2 rfl rfl rfl (cxc_sz hu) (past_fit_r (x := s0 (n1, n2)) hu) (cxc_one rfl) g1 rfl rfl ?_ ?_ ?_;(·(exact to_));(·(exact to_))))|refine t1_ ?_|(refine ta_ ?_;intro _)|((fail_if_success (refine ybi rfl ?_));refine ybj rfl ?_ ?_<;>(intro ht;rw [ht];first|replace ht := of_decide_eq_true ht|replace ht := of_decide_eq_false ht|skip))|(refine ych ?_;first|(refine ybw rfl ?_ ?_<;>intro ht)|(refine ybx rfl ?_ ?_<;>intro ht)))
    (refine rx_call_m (ycp Tryz.func14 rfl (by kernel_rfl) rfl) (perm_at (k := 1) rfl) (InBytes_sp bi v3 ls3 er3 16384 hok3.1.b (by omega) hok3.1.l h4 (pv.mono hle4)) rfl rfl rfl ?_ ?_ ?_; (· (exact to_)); (· intro _ _ hle; (exact to_)); intro x px hle)
    rw [e5] at px ⊢
    generalize sb5 (ls, e) = S5 at px hok5 eD ⊢
    obtain ⟨bs5, ls5, er5⟩ := S5
    obtain ⟨h5, w5, v5⟩ := x
    dsimp only at px hok5 eD ⊢
    obtain ⟨pw5, pv5⟩ := px
    have hle5 : Le h4 h5 := hle
    clear hle
    obtain ⟨_, ad5, cap5, rfl, _, _⟩ := id pw5
    obtain ⟨y2, hy2⟩ : ∃ y2 : Sb, y2 = ⟨(n1, n2), U, hu, M, .slice ad4 M.length cap4, bs5, .slice ad5 bs5.length cap5⟩ := ⟨_, rfl⟩
    have g2 : spl (sbc y1) (0 + 19) [.slice ad5 bs5.length cap5] = sbc y2 := by rw [hy1, hy2]; exact spl_body_s
    have hlk5 : Le hk h5 := hle3.trans (hle4.trans hle5)
    have vy2 : Sv h5 y2 := by rw [hy2]; exact ⟨hD4.mono hle5, pw5, hok5.2.1⟩
    have ay2 : y2.a = ((n1, n2), U, M, bs5) := by rw [hy2]; rfl
    have hyo := vy2.one
    have hyl := sbc_len y2
    have hfin : ∀ rb2, (rb && t4) = rb2 → (∀ z ∈ zs ++ [y2], Sv h5 z) ∧ (zs ++ [y2]).map Sb.a = (sbsC (k + 1) st).1.1 ∧ (sbsC (k + 1) st).1.2 = rb2 ∧ (sbsC (k + 1) st).2 = (ls5, er5) := fun rb2 hr => by
      refine ⟨fun z hz => ?_, ?_, ?_, ?_⟩
      · rcases List.mem_append.1 hz with hz | hz
        · exact (q4 z hz).mono hlk5
        · rw [List.mem_singleton.1 hz]; exact vy2
      · rw [eD, List.map_append, q5]
        simp [ay2]
      · rw [eD]; exact hr
      · rw [eD]
    have hd4 : decide ((if t4 = true then (0 : Int) else 2) = 0) = t4 := by cases t4 <;> rfl
    repeat' (first|(refine ycf ?_;apply ybk;(·first|(first|exact tk_|(apply yad;(·rfl);(·exact yaz 2 rfl);(·exact hyl))|(apply yad;(·rfl);(·exact yaz 3 rfl);(·exact hyl))));(·rfl);(·rfl))|(first|(refine ybg 3 rfl rfl rfl rfl (sbv_fit (by omega)) rfl g2 rfl rfl ?_ ?_ ?_;(·(exact to_));(·(exact to_)))|(refine ybg 2 rfl rfl rfl rfl (sbv_fit (by omega)) rfl g2 rfl rfl ?_ ?_ ?_;(·(exact to_));(·(exact to_))))|refine t1_ ?_|(refine ta_ ?_;intro _)|((fail_if_success (refine ybi rfl ?_));refine ybj rfl ?_ ?_<;>(intro ht;rw [ht];first|replace ht := of_decide_eq_true ht|replace ht := of_decide_eq_false ht|skip))|(refine ych ?_;first|(refine ybw rfl ?_ ?_<;>intro ht)|(refine ybx rfl ?_ ?_<;>intro ht)))
    all_goals
      refine yba (ybd rfl rfl rfl (ybe rfl (sbc_sz y2))) rfl rfl rfl ybf (fun _ => ybf) ?_
      intro b42
      refine rx_append (sz := 20) 4 rfl rfl rfl (yaz 0 rfl) (by show (sbc y2).length = 1 * 20; exact hyl) (fun u hu => List.all_eq_true.1 (sbc_one hyo.1 hyo.2) u hu) rfl (by omega) (by unfold maxLen; omega) (by omega) rfl rfl rfl ybf (fun _ => ybf) ?_
      intro v9 _
    · repeat' (first | (refine ycf ?_; apply ybk; (· first | (exact tk_)); (· rfl); (· rfl)) | refine t1_ ?_ | (refine ta_ ?_; intro _) | ((fail_if_success (refine ybi rfl ?_)); refine ybj rfl ?_ ?_ <;> (intro ht; rw [ht]; first | replace ht := of_decide_eq_true ht | replace ht := of_decide_eq_false ht | skip)) | (refine ych ?_; first | (refine ybw rfl ?_ ?_ <;> intro ht) | (refine ybx rfl ?_ ?_ <;> intro ht)))
      obtain ⟨f1, f2, f3, f4⟩ := hfin (decide ((if t4 = true then (0 : Int) else 2) = 0)) (by rw [hd4, ht]; rfl)
      refine nx_round (k + 1, h5, v5, v9, zs ++ [y2]) ⟨by show k + 1 ≤ n; omega, q2.trans hlk5, by dsimp only; rw [f4]; exact pv5, f1, f2⟩ (by show n - (k + 1) < n - k; omega) (by dsimp only; rw [f3]; exact ts_) (fun _ s => ?_)
      dsimp only
      rw [f4, List.flatMap_append, show [y2].flatMap sbc = sbc y2 by simp]
      exact (s.tl.perm (List.perm_append_comm (l₁ := [_]) (l₂ := [_, _, _]))).tl.tl
    · repeat' (first | (refine ycf ?_; apply ybk; (· first | (exact tk_)); (· rfl); (· rfl)) | refine t1_ ?_ | (refine ta_ ?_; intro _) | ((fail_if_success (refine ybi rfl ?_)); refine ybj rfl ?_ ?_ <;> (intro ht; rw [ht]; first | replace ht := of_decide_eq_true ht | replace ht := of_decide_eq_false ht | skip)) | (refine ych ?_; first | (refine ybw rfl ?_ ?_ <;> intro ht) | (refine ybx rfl ?_ ?_ <;> intro ht)))
      obtain ⟨f1, f2, f3, f4⟩ := hfin false (by rw [ht]; rfl)
      refine nx_round (k + 1, h5, v5, v9, zs ++ [y2]) ⟨by show k + 1 ≤ n; omega, q2.trans hlk5, by dsimp only; rw [f4]; exact pv5, f1, f2⟩ (by show n - (k + 1) < n - k; omega) (by dsimp only; rw [f3]; exact ts_) (fun _ s => ?_)
      dsimp only
      rw [f4, List.flatMap_append, show [y2].flatMap sbc = sbc y2 by simp]
      exact (s.tl.perm (List.perm_append_comm (l₁ := [_]) (l₂ := [_, _, _]))).tl.tl
  · have ek : k = n := by omega
    subst ek
    have fz : Fits zs := fits_sbs hok0 q5 (by omega)
    generalize sbsC k st = D at hok hlen q3 q5 ⊢
    obtain ⟨⟨A, rb⟩, ls, e⟩ := D
    dsimp only at hok hlen q3 q5 ⊢
    cases rb with
    | false =>
      repeat' (first | (refine ycf ?_; apply ybk; (· first | (exact tk_)); (· rfl); (· rfl)) | refine t1_ ?_ | (refine ta_ ?_; intro _) | ((fail_if_success (refine ybi rfl ?_)); refine ybj rfl ?_ ?_ <;> (intro ht; rw [ht]; first | replace ht := of_decide_eq_true ht | replace ht := of_decide_eq_false ht | skip)) | (refine ych ?_; first | (refine ybw rfl ?_ ?_ <;> intro ht) | (refine ybx rfl ?_ ?_ <;> intro ht)))
      rw [if_neg (by simp)]
      exact nx_ret2 rfl (rv_tmp rfl) (rv_tmp rfl) (fun w' s' => ⟨(hk, .slice none 0 0, []), rfl, s'.nil, ⟨Sc.nil hk 20 none 0, fun z hz => by cases hz⟩, rfl⟩)
    | true =>
      repeat' (first | (refine ycf ?_; apply ybk; (· first | (exact tk_)); (· rfl); (· rfl)) | refine t1_ ?_ | (refine ta_ ?_; intro _) | ((fail_if_success (refine ybi rfl ?_)); refine ybj rfl ?_ ?_ <;> (intro ht; rw [ht]; first | replace ht := of_decide_eq_true ht | replace ht := of_decide_eq_false ht | skip)) | (refine ych ?_; first | (refine ybw rfl ?_ ?_ <;> intro ht) | (refine ybx rfl ?_ ?_ <;> intro ht)))
      have hzl : zs.length = k := by rw [← hlen, ← q5, List.length_map]
      refine rx_persist rfl fun h6 hle6 hsm => ?_
      rw [← hzl] at hsm
      have S6 : Ss h6 mv zs := ⟨hsm, fun z hz => (q4 z hz).mono hle6⟩
      obtain ⟨_, ad6, cap6, rfl, _, _⟩ := id S6.1
      have C6 := scheck_sp _ zs h6 S6 (by omega) (fun x hx => by have := (fz.2 x hx).1; omega)
      rw [q5] at C6
      (refine rx_call_m (ycp Tryz.func15 rfl (by kernel_rfl) rfl) (perm_at (k := 0) rfl) (End_sp bi v ls e h6 (q3.mono hle6)) rfl rfl rfl ?_ ?_ ?_; (· (exact to_)); (· intro _ _ hle; (exact to_)); intro x px hle)
      by_cases hE : endC (ls, e) = 0
      · rw [hE]
        repeat' (first | (refine ycf ?_; apply ybk; (· first | (exact tk_)); (· rfl); (· rfl)) | refine t1_ ?_ | (refine ta_ ?_; intro _) | ((fail_if_success (refine ybi rfl ?_)); refine ybj rfl ?_ ?_ <;> (intro ht; rw [ht]; first | replace ht := of_decide_eq_true ht | replace ht := of_decide_eq_false ht | skip)) | (refine ych ?_; first | (refine ybw rfl ?_ ?_ <;> intro ht) | (refine ybx rfl ?_ ?_ <;> intro ht)))
        (refine ycn (ycp Tryz.func16 rfl (by kernel_rfl) rfl) (C6) rfl rfl rfl ?_ ?_; (· (exact to_)))
        by_cases hC : checkA A = 0
        · rw [show (if true = true ∧ (0 : Int) = 0 ∧ checkA A = 0 then (true, A) else (false, [])) = (true, A) from if_pos ⟨rfl, rfl, hC⟩, hC]
          repeat' (first | (refine ycf ?_; apply ybk; (· first | (exact tk_)); (· rfl); (· rfl)) | refine t1_ ?_ | (refine ta_ ?_; intro _) | ((fail_if_success (refine ybi rfl ?_)); refine ybj rfl ?_ ?_ <;> (intro ht; rw [ht]; first | replace ht := of_decide_eq_true ht | replace ht := of_decide_eq_false ht | skip)) | (refine ych ?_; first | (refine ybw rfl ?_ ?_ <;> intro ht) | (refine ybx rfl ?_ ?_ <;> intro ht)))
          exact nx_ret2 rfl (rv_tmp rfl) (rv_tmp rfl) (fun w' s' => ⟨(h6, _, zs), rfl, s'.nil, S6, q5⟩)
        · rw [show (if true = true ∧ (0 : Int) = 0 ∧ checkA A = 0 then (true, A) else (false, [])) = (false, []) from if_neg (fun hx => hC hx.2.2)]
          generalize checkA A = cz at hC ⊢
          repeat' (first | (refine ycf ?_; apply ybk; (· first | (exact tk_)); (· rfl); (· rfl)) | refine t1_ ?_ | (refine ta_ ?_; intro _) | ((fail_if_success (refine ybi rfl ?_)); refine ybj rfl ?_ ?_ <;> (intro ht; rw [ht]; first | replace ht := of_decide_eq_true ht | replace ht := of_decide_eq_false ht | skip)) | (refine ych ?_; first | (refine ybw rfl ?_ ?_ <;> intro ht) | (refine ybx rfl ?_ ?_ <;> intro ht)))
          exact nx_ret2 rfl (rv_tmp rfl) (rv_tmp rfl) (fun w' s' => ⟨(h6, .slice none 0 0, []), rfl, s'.nil, ⟨Sc.nil h6 20 none 0, fun z hz => by cases hz⟩, rfl⟩)
      · rw [show (if true = true ∧ endC (ls, e) = 0 ∧ checkA A = 0 then (true, A) else (false, [])) = (false, []) from if_neg (fun hx => hE hx.2.1)]
        generalize endC (ls, e) = ez at hE ⊢
        repeat' (first | (refine ycf ?_; apply ybk; (· first | (exact tk_)); (· rfl); (· rfl)) | refine t1_ ?_ | (refine ta_ ?_; intro _) | ((fail_if_success (refine ybi rfl ?_)); refine ybj rfl ?_ ?_ <;> (intro ht; rw [ht]; first | replace ht := of_decide_eq_true ht | replace ht := of_decide_eq_false ht | skip)) | (refine ych ?_; first | (refine ybw rfl ?_ ?_ <;> intro ht) | (refine ybx rfl ?_ ?_ <;> intro ht)))
        exact nx_ret2 rfl (rv_tmp rfl) (rv_tmp rfl) (fun w' s' => ⟨(h6, .slice none 0 0, []), rfl, s'.nil, ⟨Sc.nil h6 20 none 0, fun z hz => by cases hz⟩, rfl⟩)
end Go.Proofs.YtkkjppeaaicgaaaGreat
end

section
namespace Go.Proofs.YtkkjppeaaicgaaaGreat
open Go Go.Ck
set_option maxRecDepth 100000
set_option maxHeartbeats 4000000
set_option linter.unusedVariables false

theorem rright_sp (z : Sb) (h : View) (hx : Rv h z) (hl : z.l.length ≤ 4611686018427387904) (hbl : z.b.length ≤ 9223372036854775807) (w : World) (s : St ⟨w, h, []⟩ h [] w) :
    Calls Tryz.prog 45 [sbv z].toArray w fun e w' => e = .returned (.bool (rightA z.a)) ∧ St ⟨w, h, []⟩ h [] w' := by
  have hc1 : Cx h (cxv z.u z.mv) z.u z.l := ⟨z.hu, _, rfl, hx.ds⟩
  have hbs := hx.bs
  refine calls_enter Tryz.func45 rfl Tryz.ntmps45 rfl s ?_
  have ea : rightA z.a = (rightB z.d && (decide (checkC z.u z.l = 0) && (!(decide (checkC z.u z.l = 0) && rightB z.d && hasC z.u z.l z.d) && decide ((z.b.length : Int) ≤ 16384)))) := rfl
  rw [ea]
  have D1 := refDot_sp z.d h
  cases hR : rightB z.d with
  | false =>
    rw [hR] at D1
    repeat' (first | (refine ycf ?_; apply ybk; (· first | (first | (apply yad; (· rfl); (· exact sb_past (yaz 0 rfl)); (· exact ycj z.hu)) | (apply yad; (· rfl); (· exact sb_dot (yaz 0 rfl)); (· rfl)) | exact qv_len_bstr rfl) | (apply yae; (· rfl); (· (exact sb_body0 (yaz 0 rfl) hbs)))); (· rfl); (· rfl)) | refine t1_ ?_ | (refine ta_ ?_; intro _) | ((fail_if_success (refine ybi rfl ?_)); refine ybj rfl ?_ ?_ <;> (intro ht; rw [ht]; first | replace ht := of_decide_eq_true ht | replace ht := of_decide_eq_false ht | skip)) | (refine ych ?_; first | (refine ybw rfl ?_ ?_ <;> intro ht) | (refine ybx rfl ?_ ?_ <;> intro ht)))
    (refine ycn (ycp Tryz.func62 rfl (by kernel_rfl) rfl) (D1) rfl rfl rfl ?_ ?_; (· (exact to_)))
    repeat' (first | (refine ycf ?_; apply ybk; (· first | (first | (apply yad; (· rfl); (· exact sb_past (yaz 0 rfl)); (· exact ycj z.hu)) | (apply yad; (· rfl); (· exact sb_dot (yaz 0 rfl)); (· rfl)) | exact qv_len_bstr rfl) | (apply yae; (· rfl); (· (exact sb_body0 (yaz 0 rfl) hbs)))); (· rfl); (· rfl)) | refine t1_ ?_ | (refine ta_ ?_; intro _) | ((fail_if_success (refine ybi rfl ?_)); refine ybj rfl ?_ ?_ <;> (intro ht; rw [ht]; first | replace ht := of_decide_eq_true ht | replace ht := of_decide_eq_false ht | skip)) | (refine ych ?_; first | (refine ybw rfl ?_ ?_ <;> intro ht) | (refine ybx rfl ?_ ?_ <;> intro ht)))
    exact nx_ret1 rfl (rv_tmp rfl) (fun w' s' => ⟨by simp, s'.nil⟩)
  | true =>
    rw [hR] at D1
    have K1 := refCheck_sp _ z.u z.l h hc1 hl
    have H1 := refHas_sp _ z.u z.l z.d h hc1 hl hR
    by_cases hk : checkC z.u z.l = 0
    · rw [hk] at K1 ⊢
      rw [show decide ((0 : Int) = 0) = true from rfl, Bool.true_and]
      cases hH : hasC z.u z.l z.d with
      | true =>
        rw [hH] at H1
        repeat' (first | (refine ycf ?_; apply ybk; (· first | (first | (apply yad; (· rfl); (· exact sb_past (yaz 0 rfl)); (· exact ycj z.hu)) | (apply yad; (· rfl); (· exact sb_dot (yaz 0 rfl)); (· rfl)) | exact qv_len_bstr rfl) | (apply yae; (· rfl); (· (exact sb_body0 (yaz 0 rfl) hbs)))); (· rfl); (· rfl)) | refine t1_ ?_ | (refine ta_ ?_; intro _) | ((fail_if_success (refine ybi rfl ?_)); refine ybj rfl ?_ ?_ <;> (intro ht; rw [ht]; first | replace ht := of_decide_eq_true ht | replace ht := of_decide_eq_false ht | skip)) | (refine ych ?_; first | (refine ybw rfl ?_ ?_ <;> intro ht) | (refine ybx rfl ?_ ?_ <;> intro ht)))
        (refine ycn (ycp Tryz.func62 rfl (by kernel_rfl) rfl) (D1) rfl rfl rfl ?_ ?_; (· (exact to_)))
        repeat' (first | (refine ycf ?_; apply ybk; (· first | (first | (apply yad; (· rfl); (· exact sb_past (yaz 0 rfl)); (· exact ycj z.hu)) | (apply yad; (· rfl); (· exact sb_dot (yaz 0 rfl)); (· rfl)) | exact qv_len_bstr rfl) | (apply yae; (· rfl); (· (exact sb_body0 (yaz 0 rfl) hbs)))); (· rfl); (· rfl)) | refine t1_ ?_ | (refine ta_ ?_; intro _) | ((fail_if_success (refine ybi rfl ?_)); refine ybj rfl ?_ ?_ <;> (intro ht; rw [ht]; first | replace ht := of_decide_eq_true ht | replace ht := of_decide_eq_false ht | skip)) | (refine ych ?_; first | (refine ybw rfl ?_ ?_ <;> intro ht) | (refine ybx rfl ?_ ?_ <;> intro ht)))
        (refine ycn (ycp Tryz.func43 rfl (by kernel_rfl) rfl) (K1) rfl rfl rfl ?_ ?_; (· (exact to_)))
        repeat' (first | (refine ycf ?_; apply ybk; (· first | (first | (apply yad; (· rfl); (· exact sb_past (yaz 0 rfl)); (· exact ycj z.hu)) | (apply yad; (· rfl); (· exact sb_dot (yaz 0 rfl)); (· rfl)) | exact qv_len_bstr rfl) | (apply yae; (· rfl); (· (exact sb_body0 (yaz 0 rfl) hbs)))); (· rfl); (· rfl)) | refine t1_ ?_ | (refine ta_ ?_; intro _) | ((fail_if_success (refine ybi rfl ?_)); refine ybj rfl ?_ ?_ <;> (intro ht; rw [ht]; first | replace ht := of_decide_eq_true ht | replace ht := of_decide_eq_false ht | skip)) | (refine ych ?_; first | (refine ybw rfl ?_ ?_ <;> intro ht) | (refine ybx rfl ?_ ?_ <;> intro ht)))
        (refine ycn (ycp Tryz.func47 rfl (by kernel_rfl) rfl) (H1) rfl rfl rfl ?_ ?_; (· (exact to_)))
        repeat' (first | (refine ycf ?_; apply ybk; (· first | (first | (apply yad; (· rfl); (· exact sb_past (yaz 0 rfl)); (· exact ycj z.hu)) | (apply yad; (· rfl); (· exact sb_dot (yaz 0 rfl)); (· rfl)) | exact qv_len_bstr rfl) | (apply yae; (· rfl); (· (exact sb_body0 (yaz 0 rfl) hbs)))); (· rfl); (· rfl)) | refine t1_ ?_ | (refine ta_ ?_; intro _) | ((fail_if_success (refine ybi rfl ?_)); refine ybj rfl ?_ ?_ <;> (intro ht; rw [ht]; first | replace ht := of_decide_eq_true ht | replace ht := of_decide_eq_false ht | skip)) | (refine ych ?_; first | (refine ybw rfl ?_ ?_ <;> intro ht) | (refine ybx rfl ?_ ?_ <;> intro ht)))
        exact nx_ret1 rfl (rv_tmp rfl) (fun w' s' => ⟨by simp, s'.nil⟩)
      | false =>
        rw [hH] at H1
        repeat' (first | (refine ycf ?_; apply ybk; (· first | (first | (apply yad; (· rfl); (· exact sb_past (yaz 0 rfl)); (· exact ycj z.hu)) | (apply yad; (· rfl); (· exact sb_dot (yaz 0 rfl)); (· rfl)) | exact qv_len_bstr rfl) | (apply yae; (· rfl); (· (exact sb_body0 (yaz 0 rfl) hbs)))); (· rfl); (· rfl)) | refine t1_ ?_ | (refine ta_ ?_; intro _) | ((fail_if_success (refine ybi rfl ?_)); refine ybj rfl ?_ ?_ <;> (intro ht; rw [ht]; first | replace ht := of_decide_eq_true ht | replace ht := of_decide_eq_false ht | skip)) | (refine ych ?_; first | (refine ybw rfl ?_ ?_ <;> intro ht) | (refine ybx rfl ?_ ?_ <;> intro ht)))
        (refine ycn (ycp Tryz.func62 rfl (by kernel_rfl) rfl) (D1) rfl rfl rfl ?_ ?_; (· (exact to_)))
        repeat' (first | (refine ycf ?_; apply ybk; (· first | (first | (apply yad; (· rfl); (· exact sb_past (yaz 0 rfl)); (· exact ycj z.hu)) | (apply yad; (· rfl); (· exact sb_dot (yaz 0 rfl)); (· rfl)) | exact qv_len_bstr rfl) | (apply yae; (· rfl); (· (exact sb_body0 (yaz 0 rfl) hbs)))); (· rfl); (· rfl)) | refine t1_ ?_ | (refine ta_ ?_; intro _) | ((fail_if_success (refine ybi rfl ?_)); refine ybj rfl ?_ ?_ <;> (intro ht; rw [ht]; first | replace ht := of_decide_eq_true ht | replace ht := of_decide_eq_false ht | skip)) | (refine ych ?_; first | (refine ybw rfl ?_ ?_ <;> intro ht) | (refine ybx rfl ?_ ?_ <;> intro ht)))
        (refine ycn (ycp Tryz.func43 rfl (by kernel_rfl) rfl) (K1) rfl rfl rfl ?_ ?_; (· (exact to_)))
        repeat' (first | (refine ycf ?_; apply ybk; (· first | (first | (apply yad; (· rfl); (· exact sb_past (yaz 0 rfl)); (· exact ycj z.hu)) | (apply yad; (· rfl); (· exact sb_dot (yaz 0 rfl)); (· rfl)) | exact qv_len_bstr rfl) | (apply yae; (· rfl); (· (exact sb_body0 (yaz 0 rfl) hbs)))); (· rfl); (· rfl)) | refine t1_ ?_ | (refine ta_ ?_; intro _) | ((fail_if_success (refine ybi rfl ?_)); refine ybj rfl ?_ ?_ <;> (intro ht; rw [ht]; first | replace ht := of_decide_eq_true ht | replace ht := of_decide_eq_false ht | skip)) | (refine ych ?_; first | (refine ybw rfl ?_ ?_ <;> intro ht) | (refine ybx rfl ?_ ?_ <;> intro ht)))
        (refine ycn (ycp Tryz.func47 rfl (by kernel_rfl) rfl) (H1) rfl rfl rfl ?_ ?_; (· (exact to_)))
        repeat' (first | (refine ycf ?_; apply ybk; (· first | (first | (apply yad; (· rfl); (· exact sb_past (yaz 0 rfl)); (· exact ycj z.hu)) | (apply yad; (· rfl); (· exact sb_dot (yaz 0 rfl)); (· rfl)) | exact qv_len_bstr rfl) | (apply yae; (· rfl); (· (exact sb_body0 (yaz 0 rfl) hbs)))); (· rfl); (· rfl)) | refine t1_ ?_ | (refine ta_ ?_; intro _) | ((fail_if_success (refine ybi rfl ?_)); refine ybj rfl ?_ ?_ <;> (intro ht; rw [ht]; first | replace ht := of_decide_eq_true ht | replace ht := of_decide_eq_false ht | skip)) | (refine ych ?_; first | (refine ybw rfl ?_ ?_ <;> intro ht) | (refine ybx rfl ?_ ?_ <;> intro ht)))
        exact nx_ret1 rfl (rv_tmp rfl) (fun w' s' => ⟨by simp, s'.nil⟩)
    · generalize checkC z.u z.l = cz at hk K1 ⊢
      rw [decide_eq_false hk]
      repeat' (first | (refine ycf ?_; apply ybk; (· first | (first | (apply qv_eql_no; (· rfl); (· rfl); (· exact hk)) | (apply yad; (· rfl); (· exact sb_past (yaz 0 rfl)); (· exact ycj z.hu)) | (apply yad; (· rfl); (· exact sb_dot (yaz 0 rfl)); (· rfl))) | (apply yae; (· rfl); (· (exact sb_body0 (yaz 0 rfl) hbs)))); (· rfl); (· rfl)) | refine t1_ ?_ | (refine ta_ ?_; intro _) | ((fail_if_success (refine ybi rfl ?_)); refine ybj rfl ?_ ?_ <;> (intro ht; rw [ht]; first | replace ht := of_decide_eq_true ht | replace ht := of_decide_eq_false ht | skip)) | (refine ych ?_; first | (refine ybw rfl ?_ ?_ <;> intro ht) | (refine ybx rfl ?_ ?_ <;> intro ht)))
      (refine ycn (ycp Tryz.func62 rfl (by kernel_rfl) rfl) (D1) rfl rfl rfl ?_ ?_; (· (exact to_)))
      repeat' (first | (refine ycf ?_; apply ybk; (· first | (first | (apply qv_eql_no; (· rfl); (· rfl); (· exact hk)) | (apply yad; (· rfl); (· exact sb_past (yaz 0 rfl)); (· exact ycj z.hu)) | (apply yad; (· rfl); (· exact sb_dot (yaz 0 rfl)); (· rfl))) | (apply yae; (· rfl); (· (exact sb_body0 (yaz 0 rfl) hbs)))); (· rfl); (· rfl)) | refine t1_ ?_ | (refine ta_ ?_; intro _) | ((fail_if_success (refine ybi rfl ?_)); refine ybj rfl ?_ ?_ <;> (intro ht; rw [ht]; first | replace ht := of_decide_eq_true ht | replace ht := of_decide_eq_false ht | skip)) | (refine ych ?_; first | (refine ybw rfl ?_ ?_ <;> intro ht) | (refine ybx rfl ?_ ?_ <;> intro ht)))
      (refine ycn (ycp Tryz.func43 rfl (by kernel_rfl) rfl) (K1) rfl rfl rfl ?_ ?_; (· (exact to_)))
      repeat' (first | (refine ycf ?_; apply ybk; (· first | (first | (apply qv_eql_no; (· rfl); (· rfl); (· exact hk)) | (apply yad; (· rfl); (· exact sb_past (yaz 0 rfl)); (· exact ycj z.hu)) | (apply yad; (· rfl); (· exact sb_dot (yaz 0 rfl)); (· rfl))) | (apply yae; (· rfl); (· (exact sb_body0 (yaz 0 rfl) hbs)))); (· rfl); (· rfl)) | refine t1_ ?_ | (refine ta_ ?_; intro _) | ((fail_if_success (refine ybi rfl ?_)); refine ybj rfl ?_ ?_ <;> (intro ht; rw [ht]; first | replace ht := of_decide_eq_true ht | replace ht := of_decide_eq_false ht | skip)) | (refine ych ?_; first | (refine ybw rfl ?_ ?_ <;> intro ht) | (refine ybx rfl ?_ ?_ <;> intro ht)))
      exact nx_ret1 rfl (rv_tmp rfl) (fun w' s' => ⟨by simp, s'.nil⟩)

theorem rbefore_sp (a b : Dt) (h : View) (w : World) (s : St ⟨w, h, []⟩ h [] w) :
    Calls Tryz.prog 46 [dv a, dv b].toArray w fun e w' => e = .returned (.bool (decide (ordD a b < 0))) ∧ St ⟨w, h, []⟩ h [] w' := by
  refine calls_enter Tryz.func46 rfl Tryz.ntmps46 rfl s ?_
  by_cases h1 : a.1 < b.1
  · rw [decide_eq_true (ord_neg.2 (.inl h1))]
    repeat' (first | (refine ycf ?_; apply ybk; (· first | (exact tk_) | (apply yae; (· rfl); (· (exact sb_body0 (yaz 0 rfl) hbs)))); (· rfl); (· rfl)) | refine t1_ ?_ | (refine ta_ ?_; intro _) | ((fail_if_success (refine ybi rfl ?_)); refine ybj rfl ?_ ?_ <;> (intro ht; rw [ht]; first | replace ht := of_decide_eq_true ht | replace ht := of_decide_eq_false ht | skip)) | (refine ych ?_; first | (refine ybw rfl ?_ ?_ <;> intro ht) | (refine ybx rfl ?_ ?_ <;> intro ht)))
    exact nx_ret1 rfl (rv_tmp rfl) (fun w' s' => ⟨rfl, s'.nil⟩)
  · by_cases h2 : a.1 = b.1
    · by_cases h3 : a.2 < b.2
      · rw [decide_eq_true (ord_neg.2 (.inr ⟨h2, h3⟩))]
        repeat' (first | (refine ycf ?_; apply ybk; (· first | (exact tk_) | (apply yae; (· rfl); (· (exact sb_body0 (yaz 0 rfl) hbs)))); (· rfl); (· rfl)) | refine t1_ ?_ | (refine ta_ ?_; intro _) | ((fail_if_success (refine ybi rfl ?_)); refine ybj rfl ?_ ?_ <;> (intro ht; rw [ht]; first | replace ht := of_decide_eq_true ht | replace ht := of_decide_eq_false ht | skip)) | (refine ych ?_; first | (refine ybw rfl ?_ ?_ <;> intro ht) | (refine ybx rfl ?_ ?_ <;> intro ht)))
        exact nx_ret1 rfl (rv_tmp rfl) (fun w' s' => ⟨rfl, s'.nil⟩)
      · rw [decide_eq_false (fun q => by rw [ord_neg] at q; omega)]
        repeat' (first | (refine ycf ?_; apply ybk; (· first | (exact tk_) | (apply yae; (· rfl); (· (exact sb_body0 (yaz 0 rfl) hbs)))); (· rfl); (· rfl)) | refine t1_ ?_ | (refine ta_ ?_; intro _) | ((fail_if_success (refine ybi rfl ?_)); refine ybj rfl ?_ ?_ <;> (intro ht; rw [ht]; first | replace ht := of_decide_eq_true ht | replace ht := of_decide_eq_false ht | skip)) | (refine ych ?_; first | (refine ybw rfl ?_ ?_ <;> intro ht) | (refine ybx rfl ?_ ?_ <;> intro ht)))
        exact nx_ret1 rfl (rv_tmp rfl) (fun w' s' => ⟨rfl, s'.nil⟩)
    · rw [decide_eq_false (fun q => by rw [ord_neg] at q; omega)]
      repeat' (first | (refine ycf ?_; apply ybk; (· first | (exact tk_) | (apply yae; (· rfl); (· (exact sb_body0 (yaz 0 rfl) hbs)))); (· rfl); (· rfl)) | refine t1_ ?_ | (refine ta_ ?_; intro _) | ((fail_if_success (refine ybi rfl ?_)); refine ybj rfl ?_ ?_ <;> (intro ht; rw [ht]; first | replace ht := of_decide_eq_true ht | replace ht := of_decide_eq_false ht | skip)) | (refine ych ?_; first | (refine ybw rfl ?_ ?_ <;> intro ht) | (refine ybx rfl ?_ ?_ <;> intro ht)))
      exact nx_ret1 rfl (rv_tmp rfl) (fun w' s' => ⟨rfl, s'.nil⟩)

theorem hasA_of {x : Sb} {d : Dt} (hx : rightA x.a = true) (hd : rightB d = true) : hasA x.a d = hasC x.u x.l d := by
  have := (rightA_ok hx).2.1
  show (decide (checkC x.u x.l = 0) && rightB d && hasC x.u x.l d) = _
  rw [show checkC x.u x.l = 0 from this, hd]
  rfl
theorem rcheck_sp (v : Value) (l : List Sb) (h : View) (hs : Rs h v l) (hl : l.length ≤ 4611686018427387904) (hll : ∀ x ∈ l, x.l.length ≤ 4611686018427387904 ∧ x.b.length ≤ 4611686018427387904) (w : World) (s : St ⟨w, h, []⟩ h [] w) :
    Calls Tryz.prog 22 [v].toArray w fun e w' => e = .returned (.int .i64 (checkA (l.map Sb.a))) ∧ St ⟨w, h, []⟩ h [] w' := by
  obtain ⟨hs, hsv⟩ := hs
  obtain ⟨_, ad, cap, rfl, hcap, _⟩ := id hs
  refine calls_enter Tryz.func22 rfl Tryz.ntmps22 rfl s ?_
  by_cases h64 : 64 < l.length
  · have e5 : checkA (l.map Sb.a) = 5 := by unfold checkA; rw [List.length_map, if_pos h64]
    repeat' (first | (refine ycf ?_; apply ybk; (· first | (exact tk_)); (· rfl); (· rfl)) | refine t1_ ?_ | (refine ta_ ?_; intro _) | ((fail_if_success (refine ybi rfl ?_)); refine ybj rfl ?_ ?_ <;> (intro ht; rw [ht]; first | replace ht := of_decide_eq_true ht | replace ht := of_decide_eq_false ht | skip)) | (refine ych ?_; first | (refine ybw rfl ?_ ?_ <;> intro ht) | (refine ybx rfl ?_ ?_ <;> intro ht)))
    exact nx_ret1 rfl (rv_tmp rfl) (fun w' s' => ⟨by rw [e5], s'.nil⟩)
  repeat' (first | (refine ycf ?_; apply ybk; (· first | (exact tk_)); (· rfl); (· rfl)) | refine t1_ ?_ | (refine ta_ ?_; intro _) | ((fail_if_success (refine ybi rfl ?_)); refine ybj rfl ?_ ?_ <;> (intro ht; rw [ht]; first | replace ht := of_decide_eq_true ht | replace ht := of_decide_eq_false ht | skip)) | (refine ych ?_; first | (refine ybw rfl ?_ ?_ <;> intro ht) | (refine ybx rfl ?_ ?_ <;> intro ht)))
  refine cx_loop (X := Nat) (fun k => [(0, .slice ad l.length cap), (3, .int .i64 k)]) (fun _ => h) (fun _ => []) (fun k => k ≤ l.length ∧ ∀ j, j < k → badAt (l.map Sb.a) j = false) (fun k => l.length - k) 0 ⟨by omega, fun j hj => by omega⟩ ts_ (fun _ s => s) ?_
  rintro k ⟨hk, hok⟩
  by_cases hkl : k < l.length
  · obtain ⟨bs, o, rfl⟩ := hs.ad (by omega) (by omega)
    have hel : ∀ L, Cells h L ⟨bs, o + k * 20, none⟩ (sbc l[k]) := fun L => hs.elem sbc_len k hkl
    have hxv := hsv _ (List.getElem_mem hkl)
    have hlim := hll _ (List.getElem_mem hkl)
    have hbad := badAt_eq hkl
    have e1 : badAt (l.map Sb.a) k = true → checkA (l.map Sb.a) = 1 := fun hb => by
      unfold checkA
      rw [List.length_map, if_neg h64, ← List.length_map (f := Sb.a), if_pos (bad_yes (by simpa using hkl) hb)]
    have hnext : badAt (l.map Sb.a) k = false → ∀ j, j < k + 1 → badAt (l.map Sb.a) j = false := fun hb j hj => by
      by_cases e : j = k
      · subst e; exact hb
      · exact hok j (by omega)
    have R1 := rright_sp l[k] h hxv hlim.1 (by omega)
    have B1 := fun d => rbefore_sp d l[k].d h
    generalize l[k] = x0 at hel hxv hlim hbad R1 B1
    have hxl := sbc_len x0
    cases hR : rightA x0.a with
    | false =>
      rw [hR] at R1 hbad
      have := e1 (by rw [hbad]; rfl)
      repeat' (first | (refine ycf ?_; apply ybk; (· first | (first | exact tk_ | (apply yad; (· rfl); (· exact hel _); (· exact hxl)) | (apply yad; (· rfl); (· exact sb_dot (hel _)); (· rfl)))); (· rfl); (· rfl)) | refine t1_ ?_ | (refine ta_ ?_; intro _) | ((fail_if_success (refine ybi rfl ?_)); refine ybj rfl ?_ ?_ <;> (intro ht; rw [ht]; first | replace ht := of_decide_eq_true ht | replace ht := of_decide_eq_false ht | skip)) | (refine ych ?_; first | (refine ybw rfl ?_ ?_ <;> intro ht) | (refine ybx rfl ?_ ?_ <;> intro ht)))
      refine cx_region_draw' rfl (by kernel_rfl) ?_
      repeat' (refine ycf ?_;(first|(first|(apply ybm;(·(first|(first|exact tk_|(apply yad;(·rfl);(·exact hel _);(·exact hxl))|(apply yad;(·rfl);(·exact sb_dot (hel _));(·rfl)))|exact tq_));(·rfl);(·rfl);(·(exact th_)))|refine ybl rfl rfl ?_|((fail_if_success (refine ybi rfl ?_));refine ybj rfl ?_ ?_<;>(intro ht;rw [ht];first|replace ht := of_decide_eq_true ht|replace ht := of_decide_eq_false ht|skip))|(refine tb_ ?_ ?_ ?_;(·(exact to_));(·intro _;(exact to_));intro _)|(first|(refine tqs_ ?_ ?_ ?_;(·(exact to_));(·(exact to_))))|(apply ybn;(·(first|(first|exact tk_|(apply yad;(·rfl);(·exact hel _);(·exact hxl))|(apply yad;(·rfl);(·exact sb_dot (hel _));(·rfl)))|exact tq_));(·rfl);(·rfl);(·rfl);(·(exact to_))))|refine ycg ?_))
      (refine ycn (ycp Tryz.func45 rfl (by kernel_rfl) rfl) (R1) rfl rfl rfl ?_ ?_; (· (exact to_)))
      repeat' (refine ycf ?_;(first|(first|(apply ybm;(·(first|(first|exact tk_|(apply yad;(·rfl);(·exact hel _);(·exact hxl))|(apply yad;(·rfl);(·exact sb_dot (hel _));(·rfl)))|exact tq_));(·rfl);(·rfl);(·(exact th_)))|refine ybl rfl rfl ?_|((fail_if_success (refine ybi rfl ?_));refine ybj rfl ?_ ?_<;>(intro ht;rw [ht];first|replace ht := of_decide_eq_true ht|replace ht := of_decide_eq_false ht|skip))|(refine tb_ ?_ ?_ ?_;(·(exact to_));(·intro _;(exact to_));intro _)|(first|(refine tqs_ ?_ ?_ ?_;(·(exact to_));(·(exact to_))))|(apply ybn;(·(first|(first|exact tk_|(apply yad;(·rfl);(·exact hel _);(·exact hxl))|(apply yad;(·rfl);(·exact sb_dot (hel _));(·rfl)))|exact tq_));(·rfl);(·rfl);(·rfl);(·(exact to_))))|refine ycg ?_))
      repeat' (first | (refine ycf ?_; apply ybk; (· first | (first | exact tk_ | (apply yad; (· rfl); (· exact hel _); (· exact hxl)) | (apply yad; (· rfl); (· exact sb_dot (hel _)); (· rfl)))); (· rfl); (· rfl)) | refine t1_ ?_ | (refine ta_ ?_; intro _) | ((fail_if_success (refine ybi rfl ?_)); refine ybj rfl ?_ ?_ <;> (intro ht; rw [ht]; first | replace ht := of_decide_eq_true ht | replace ht := of_decide_eq_false ht | skip)) | (refine ych ?_; first | (refine ybw rfl ?_ ?_ <;> intro ht) | (refine ybx rfl ?_ ?_ <;> intro ht)))
      exact nx_ret1 rfl (rv_tmp rfl) (fun w' s' => ⟨by rw [this], s'.nil⟩)
    | true =>
      rw [hR] at R1 hbad
      by_cases h0 : k = 0
      · subst h0
        repeat' (first | (refine ycf ?_; apply ybk; (· first | (first | exact tk_ | (apply yad; (· rfl); (· exact hel _); (· exact hxl)) | (apply yad; (· rfl); (· exact sb_dot (hel _)); (· rfl)))); (· rfl); (· rfl)) | refine t1_ ?_ | (refine ta_ ?_; intro _) | ((fail_if_success (refine ybi rfl ?_)); refine ybj rfl ?_ ?_ <;> (intro ht; rw [ht]; first | replace ht := of_decide_eq_true ht | replace ht := of_decide_eq_false ht | skip)) | (refine ych ?_; first | (refine ybw rfl ?_ ?_ <;> intro ht) | (refine ybx rfl ?_ ?_ <;> intro ht)))
        refine cx_region_draw' rfl (by kernel_rfl) ?_
        repeat' (refine ycf ?_;(first|(first|(apply ybm;(·(first|(first|exact tk_|(apply yad;(·rfl);(·exact hel _);(·exact hxl))|(apply yad;(·rfl);(·exact sb_dot (hel _));(·rfl)))|exact tq_));(·rfl);(·rfl);(·(exact th_)))|refine ybl rfl rfl ?_|((fail_if_success (refine ybi rfl ?_));refine ybj rfl ?_ ?_<;>(intro ht;rw [ht];first|replace ht := of_decide_eq_true ht|replace ht := of_decide_eq_false ht|skip))|(refine tb_ ?_ ?_ ?_;(·(exact to_));(·intro _;(exact to_));intro _)|(first|(refine tqs_ ?_ ?_ ?_;(·(exact to_));(·(exact to_))))|(apply ybn;(·(first|(first|exact tk_|(apply yad;(·rfl);(·exact hel _);(·exact hxl))|(apply yad;(·rfl);(·exact sb_dot (hel _));(·rfl)))|exact tq_));(·rfl);(·rfl);(·rfl);(·(exact to_))))|refine ycg ?_))
        (refine ycn (ycp Tryz.func45 rfl (by kernel_rfl) rfl) (R1) rfl rfl rfl ?_ ?_; (· (exact to_)))
        repeat' (refine ycf ?_;(first|(first|(apply ybm;(·(first|(first|exact tk_|(apply yad;(·rfl);(·exact hel _);(·exact hxl))|(apply yad;(·rfl);(·exact sb_dot (hel _));(·rfl)))|exact tq_));(·rfl);(·rfl);(·(exact th_)))|refine ybl rfl rfl ?_|((fail_if_success (refine ybi rfl ?_));refine ybj rfl ?_ ?_<;>(intro ht;rw [ht];first|replace ht := of_decide_eq_true ht|replace ht := of_decide_eq_false ht|skip))|(refine tb_ ?_ ?_ ?_;(·(exact to_));(·intro _;(exact to_));intro _)|(first|(refine tqs_ ?_ ?_ ?_;(·(exact to_));(·(exact to_))))|(apply ybn;(·(first|(first|exact tk_|(apply yad;(·rfl);(·exact hel _);(·exact hxl))|(apply yad;(·rfl);(·exact sb_dot (hel _));(·rfl)))|exact tq_));(·rfl);(·rfl);(·rfl);(·(exact to_))))|refine ycg ?_))
        repeat' (first | (refine ycf ?_; apply ybk; (· first | (first | exact tk_ | (apply yad; (· rfl); (· exact hel _); (· exact hxl)) | (apply yad; (· rfl); (· exact sb_dot (hel _)); (· rfl)))); (· rfl); (· rfl)) | refine t1_ ?_ | (refine ta_ ?_; intro _) | ((fail_if_success (refine ybi rfl ?_)); refine ybj rfl ?_ ?_ <;> (intro ht; rw [ht]; first | replace ht := of_decide_eq_true ht | replace ht := of_decide_eq_false ht | skip)) | (refine ych ?_; first | (refine ybw rfl ?_ ?_ <;> intro ht) | (refine ybx rfl ?_ ?_ <;> intro ht)))
        exact nx_round 1 ⟨by omega, hnext (by rw [hbad]; simp)⟩ (by omega) ts_ (fun _ s => s)
      · have hel2 : ∀ L, Cells h L ⟨bs, o + (k - 1) * 20, none⟩ (sbc l[k - 1]) := fun L => hs.elem sbc_len (k - 1) (by omega)
        generalize l[k - 1] = x1 at hel2 hbad
        have hkk : ((k : Int) - 1).toNat = k - 1 := by omega
        have hel3 : ∀ L, Cells h L ⟨bs, o + ((k : Int) - 1).toNat * 20, none⟩ (sbc x1) := fun L => by rw [hkk]; exact hel2 L
        have B2 := B1 x1.d
        by_cases hb : ordD x1.d x0.d < 0
        · rw [decide_eq_true hb] at B2
          repeat' (first | (refine ycf ?_; apply ybk; (· first | (first | exact tk_ | (apply yad; (· rfl); (· exact hel _); (· exact hxl)) | (apply yad; (· rfl); (· exact sb_dot (hel _)); (· rfl)) | (apply yad; (· rfl); (· exact sb_dot (hel3 _)); (· rfl)))); (· rfl); (· rfl)) | refine t1_ ?_ | (refine ta_ ?_; intro _) | ((fail_if_success (refine ybi rfl ?_)); refine ybj rfl ?_ ?_ <;> (intro ht; rw [ht]; first | replace ht := of_decide_eq_true ht | replace ht := of_decide_eq_false ht | skip)) | (refine ych ?_; first | (refine ybw rfl ?_ ?_ <;> intro ht) | (refine ybx rfl ?_ ?_ <;> intro ht)))
          refine cx_region_draw' rfl (by kernel_rfl) ?_
          repeat' (refine ycf ?_;(first|(first|(apply ybm;(·(first|(first|exact tk_|(apply yad;(·rfl);(·exact hel _);(·exact hxl))|(apply yad;(·rfl);(·exact sb_dot (hel _));(·rfl))|(apply yad;(·rfl);(·exact sb_dot (hel3 _));(·rfl)))|exact tq_));(·rfl);(·rfl);(·(exact th_)))|refine ybl rfl rfl ?_|((fail_if_success (refine ybi rfl ?_));refine ybj rfl ?_ ?_<;>(intro ht;rw [ht];first|replace ht := of_decide_eq_true ht|replace ht := of_decide_eq_false ht|skip))|(refine tb_ ?_ ?_ ?_;(·(exact to_));(·intro _;(exact to_));intro _)|(first|(refine tqs_ ?_ ?_ ?_;(·(exact to_));(·(exact to_))))|(apply ybn;(·(first|(first|exact tk_|(apply yad;(·rfl);(·exact hel _);(·exact hxl))|(apply yad;(·rfl);(·exact sb_dot (hel _));(·rfl))|(apply yad;(·rfl);(·exact sb_dot (hel3 _));(·rfl)))|exact tq_));(·rfl);(·rfl);(·rfl);(·(exact to_))))|refine ycg ?_))
          (refine ycn (ycp Tryz.func45 rfl (by kernel_rfl) rfl) (R1) rfl rfl rfl ?_ ?_; (· (exact to_)))
          repeat' (refine ycf ?_;(first|(first|(apply ybm;(·(first|(first|exact tk_|(apply yad;(·rfl);(·exact hel _);(·exact hxl))|(apply yad;(·rfl);(·exact sb_dot (hel _));(·rfl))|(apply yad;(·rfl);(·exact sb_dot (hel3 _));(·rfl)))|exact tq_));(·rfl);(·rfl);(·(exact th_)))|refine ybl rfl rfl ?_|((fail_if_success (refine ybi rfl ?_));refine ybj rfl ?_ ?_<;>(intro ht;rw [ht];first|replace ht := of_decide_eq_true ht|replace ht := of_decide_eq_false ht|skip))|(refine tb_ ?_ ?_ ?_;(·(exact to_));(·intro _;(exact to_));intro _)|(first|(refine tqs_ ?_ ?_ ?_;(·(exact to_));(·(exact to_))))|(apply ybn;(·(first|(first|exact tk_|(apply yad;(·rfl);(·exact hel _);(·exact hxl))|(apply yad;(·rfl);(·exact sb_dot (hel _));(·rfl))|(apply yad;(·rfl);(·exact sb_dot (hel3 _));(·rfl)))|exact tq_));(·rfl);(·rfl);(·rfl);(·(exact to_))))|refine ycg ?_))
          (refine ycn (ycp Tryz.func46 rfl (by kernel_rfl) rfl) (B2) rfl rfl rfl ?_ ?_; (· (exact to_)))
          repeat' (refine ycf ?_;(first|(first|(apply ybm;(·(first|(first|exact tk_|(apply yad;(·rfl);(·exact hel _);(·exact hxl))|(apply yad;(·rfl);(·exact sb_dot (hel _));(·rfl))|(apply yad;(·rfl);(·exact sb_dot (hel3 _));(·rfl)))|exact tq_));(·rfl);(·rfl);(·(exact th_)))|refine ybl rfl rfl ?_|((fail_if_success (refine ybi rfl ?_));refine ybj rfl ?_ ?_<;>(intro ht;rw [ht];first|replace ht := of_decide_eq_true ht|replace ht := of_decide_eq_false ht|skip))|(refine tb_ ?_ ?_ ?_;(·(exact to_));(·intro _;(exact to_));intro _)|(first|(refine tqs_ ?_ ?_ ?_;(·(exact to_));(·(exact to_))))|(apply ybn;(·(first|(first|exact tk_|(apply yad;(·rfl);(·exact hel _);(·exact hxl))|(apply yad;(·rfl);(·exact sb_dot (hel _));(·rfl))|(apply yad;(·rfl);(·exact sb_dot (hel3 _));(·rfl)))|exact tq_));(·rfl);(·rfl);(·rfl);(·(exact to_))))|refine ycg ?_))
          repeat' (first | (refine ycf ?_; apply ybk; (· first | (first | exact tk_ | (apply yad; (· rfl); (· exact hel _); (· exact hxl)) | (apply yad; (· rfl); (· exact sb_dot (hel _)); (· rfl)) | (apply yad; (· rfl); (· exact sb_dot (hel3 _)); (· rfl)))); (· rfl); (· rfl)) | refine t1_ ?_ | (refine ta_ ?_; intro _) | ((fail_if_success (refine ybi rfl ?_)); refine ybj rfl ?_ ?_ <;> (intro ht; rw [ht]; first | replace ht := of_decide_eq_true ht | replace ht := of_decide_eq_false ht | skip)) | (refine ych ?_; first | (refine ybw rfl ?_ ?_ <;> intro ht) | (refine ybx rfl ?_ ?_ <;> intro ht)))
          exact nx_round (k + 1) ⟨by omega, hnext (by rw [hbad]; simp; omega)⟩ (by omega) ts_ (fun _ s => s)
        · rw [decide_eq_false hb] at B2
          have := e1 (by rw [hbad]; simp; omega)
          repeat' (first | (refine ycf ?_; apply ybk; (· first | (first | exact tk_ | (apply yad; (· rfl); (· exact hel _); (· exact hxl)) | (apply yad; (· rfl); (· exact sb_dot (hel _)); (· rfl)) | (apply yad; (· rfl); (· exact sb_dot (hel3 _)); (· rfl)))); (· rfl); (· rfl)) | refine t1_ ?_ | (refine ta_ ?_; intro _) | ((fail_if_success (refine ybi rfl ?_)); refine ybj rfl ?_ ?_ <;> (intro ht; rw [ht]; first | replace ht := of_decide_eq_true ht | replace ht := of_decide_eq_false ht | skip)) | (refine ych ?_; first | (refine ybw rfl ?_ ?_ <;> intro ht) | (refine ybx rfl ?_ ?_ <;> intro ht)))
          refine cx_region_draw' rfl (by kernel_rfl) ?_
          repeat' (refine ycf ?_;(first|(first|(apply ybm;(·(first|(first|exact tk_|(apply yad;(·rfl);(·exact hel _);(·exact hxl))|(apply yad;(·rfl);(·exact sb_dot (hel _));(·rfl))|(apply yad;(·rfl);(·exact sb_dot (hel3 _));(·rfl)))|exact tq_));(·rfl);(·rfl);(·(exact th_)))|refine ybl rfl rfl ?_|((fail_if_success (refine ybi rfl ?_));refine ybj rfl ?_ ?_<;>(intro ht;rw [ht];first|replace ht := of_decide_eq_true ht|replace ht := of_decide_eq_false ht|skip))|(refine tb_ ?_ ?_ ?_;(·(exact to_));(·intro _;(exact to_));intro _)|(first|(refine tqs_ ?_ ?_ ?_;(·(exact to_));(·(exact to_))))|(apply ybn;(·(first|(first|exact tk_|(apply yad;(·rfl);(·exact hel _);(·exact hxl))|(apply yad;(·rfl);(·exact sb_dot (hel _));(·rfl))|(apply yad;(·rfl);(·exact sb_dot (hel3 _));(·rfl)))|exact tq_));(·rfl);(·rfl);(·rfl);(·(exact to_))))|refine ycg ?_))
          (refine ycn (ycp Tryz.func45 rfl (by kernel_rfl) rfl) (R1) rfl rfl rfl ?_ ?_; (· (exact to_)))
          repeat' (refine ycf ?_;(first|(first|(apply ybm;(·(first|(first|exact tk_|(apply yad;(·rfl);(·exact hel _);(·exact hxl))|(apply yad;(·rfl);(·exact sb_dot (hel _));(·rfl))|(apply yad;(·rfl);(·exact sb_dot (hel3 _));(·rfl)))|exact tq_));(·rfl);(·rfl);(·(exact th_)))|refine ybl rfl rfl ?_|((fail_if_success (refine ybi rfl ?_));refine ybj rfl ?_ ?_<;>(intro ht;rw [ht];first|replace ht := of_decide_eq_true ht|replace ht := of_decide_eq_false ht|skip))|(refine tb_ ?_ ?_ ?_;(·(exact to_));(·intro _;(exact to_));intro _)|(first|(refine tqs_ ?_ ?_ ?_;(·(exact to_));(·(exact to_))))|(apply ybn;(·(first|(first|exact tk_|(apply yad;(·rfl);(·exact hel _);(·exact hxl))|(apply yad;(·rfl);(·exact sb_dot (hel _));(·rfl))|(apply yad;(·rfl);(·exact sb_dot (hel3 _));(·rfl)))|exact tq_));(·rfl);(·rfl);(·rfl);(·(exact to_))))|refine ycg ?_))
          (refine ycn (ycp Tryz.func46 rfl (by kernel_rfl) rfl) (B2) rfl rfl rfl ?_ ?_; (· (exact to_)))
          repeat' (refine ycf ?_;(first|(first|(apply ybm;(·(first|(first|exact tk_|(apply yad;(·rfl);(·exact hel _);(·exact hxl))|(apply yad;(·rfl);(·exact sb_dot (hel _));(·rfl))|(apply yad;(·rfl);(·exact sb_dot (hel3 _));(·rfl)))|exact tq_));(·rfl);(·rfl);(·(exact th_)))|refine ybl rfl rfl ?_|((fail_if_success (refine ybi rfl ?_));refine ybj rfl ?_ ?_<;>(intro ht;rw [ht];first|replace ht := of_decide_eq_true ht|replace ht := of_decide_eq_false ht|skip))|(refine tb_ ?_ ?_ ?_;(·(exact to_));(·intro _;(exact to_));intro _)|(first|(refine tqs_ ?_ ?_ ?_;(·(exact to_));(·(exact to_))))|(apply ybn;(·(first|(first|exact tk_|(apply yad;(·rfl);(·exact hel _);(·exact hxl))|(apply yad;(·rfl);(·exact sb_dot (hel _));(·rfl))|(apply yad;(·rfl);(·exact sb_dot (hel3 _));(·rfl)))|exact tq_));(·rfl);(·rfl);(·rfl);(·(exact to_))))|refine ycg ?_))
          repeat' (first | (refine ycf ?_; apply ybk; (· first | (first | exact tk_ | (apply yad; (· rfl); (· exact hel _); (· exact hxl)) | (apply yad; (· rfl); (· exact sb_dot (hel _)); (· rfl)) | (apply yad; (· rfl); (· exact sb_dot (hel3 _)); (· rfl)))); (· rfl); (· rfl)) | refine t1_ ?_ | (refine ta_ ?_; intro _) | ((fail_if_success (refine ybi rfl ?_)); refine ybj rfl ?_ ?_ <;> (intro ht; rw [ht]; first | replace ht := of_decide_eq_true ht | replace ht := of_decide_eq_false ht | skip)) | (refine ych ?_; first | (refine ybw rfl ?_ ?_ <;> intro ht) | (refine ybx rfl ?_ ?_ <;> intro ht)))
          exact nx_ret1 rfl (rv_tmp rfl) (fun w' s' => ⟨by rw [this], s'.nil⟩)
  · have hke : k = l.length := by omega
    subst hke
    have hno : (List.range (l.map Sb.a).length).any (badAt (l.map Sb.a)) = false := bad_no fun j hj => hok j (by simpa using hj)
    have hrt : ∀ j (hj : j < l.length), rightA l[j].a = true := fun j hj => by
      have := hok j hj
      rw [badAt_eq hj, Bool.or_eq_false_iff] at this
      simpa using this.1
    have hrb : ∀ x ∈ l, rightA x.a = true := fun x hx => by
      obtain ⟨j, hj, rfl⟩ := List.getElem_of_mem hx
      exact hrt j hj
    have e14 : ∀ x ∈ l, ∀ y ∈ l, hasA y.a x.d = true → checkA (l.map Sb.a) = 14 := fun x hx y hy hq => by
      unfold checkA
      rw [if_neg (by rw [List.length_map]; exact h64), if_neg (by rw [hno]; decide), if_pos]
      exact List.any_eq_true.2 ⟨x.a, List.mem_map_of_mem hx, List.any_eq_true.2 ⟨y.a, List.mem_map_of_mem hy, hq⟩⟩
    have e0 : (∀ x ∈ l, ∀ y ∈ l, hasA y.a x.d = false) → checkA (l.map Sb.a) = 0 := fun hq => by
      unfold checkA
      rw [if_neg (by rw [List.length_map]; exact h64), if_neg (by rw [hno]; decide), if_neg]
      intro hc
      obtain ⟨x, hx, hc⟩ := List.any_eq_true.1 hc
      obtain ⟨y, hy, hc⟩ := List.any_eq_true.1 hc
      obtain ⟨x, hx, rfl⟩ := List.mem_map.1 hx
      obtain ⟨y, hy, rfl⟩ := List.mem_map.1 hy
      have := hq x ‹_› y ‹_›
      rw [show hasA y.a x.a.1 = hasA y.a x.d from rfl, this] at hc
      cases hc
    repeat' (first | (refine ycf ?_; apply ybk; (· first | (exact tk_)); (· rfl); (· rfl)) | refine t1_ ?_ | (refine ta_ ?_; intro _) | ((fail_if_success (refine ybi rfl ?_)); refine ybj rfl ?_ ?_ <;> (intro ht; rw [ht]; first | replace ht := of_decide_eq_true ht | replace ht := of_decide_eq_false ht | skip)) | (refine ych ?_; first | (refine ybw rfl ?_ ?_ <;> intro ht) | (refine ybx rfl ?_ ?_ <;> intro ht)))
    refine cx_loop (X := Nat) (fun k => [(0, .slice ad l.length cap), (4, .int .i64 k)]) (fun _ => h) (fun _ => []) (fun i => i ≤ l.length ∧ ∀ j (hj : j < l.length), j < i → ∀ x ∈ l, hasA l[j].a x.d = false) (fun k => l.length - k) 0 ⟨by omega, fun j _ hj => by omega⟩ ts_ (fun _ s => s) ?_
    rintro i ⟨hi, hoi⟩
    by_cases hil : i < l.length
    · obtain ⟨bs, o, rfl⟩ := hs.ad (by omega) (by omega)
      have hel : ∀ L, Cells h L ⟨bs, o + i * 20, none⟩ (sbc l[i]) := fun L => hs.elem sbc_len i hil
      have hxm := List.getElem_mem hil
      have hxv := hsv _ hxm
      have hlim := hll _ hxm
      have hxr := hrt i hil
      repeat' (first | (refine ycf ?_; apply ybk; (· first | (exact tk_)); (· rfl); (· rfl)) | refine t1_ ?_ | (refine ta_ ?_; intro _) | ((fail_if_success (refine ybi rfl ?_)); refine ybj rfl ?_ ?_ <;> (intro ht; rw [ht]; first | replace ht := of_decide_eq_true ht | replace ht := of_decide_eq_false ht | skip)) | (refine ych ?_; first | (refine ybw rfl ?_ ?_ <;> intro ht) | (refine ybx rfl ?_ ?_ <;> intro ht)))
      refine cx_loop (X := Nat) (fun k => [(0, .slice (some ⟨bs, o, none⟩) l.length cap), (4, .int .i64 i), (5, .int .i64 k)]) (fun _ => h) (fun _ => []) (fun k => k ≤ l.length ∧ ∀ j (hj : j < l.length), j < k → hasA l[i].a l[j].d = false) (fun k => l.length - k) 0 ⟨by omega, fun j _ hj => by omega⟩ ts_ (fun _ s => s) ?_
      rintro k ⟨hk, hok2⟩
      by_cases hkl : k < l.length
      · have hel2 : ∀ L, Cells h L ⟨bs, o + k * 20, none⟩ (sbc l[k]) := fun L => hs.elem sbc_len k hkl
        have hym := List.getElem_mem hkl
        have hyr : rightB l[k].d = true := (rightA_ok (hrt k hkl)).1
        have hA := hasA_of hxr hyr
        have H1 := refHas_sp _ l[i].u l[i].l l[k].d h ⟨l[i].hu, _, rfl, hxv.ds⟩ (by omega) hyr
        rw [← hA] at H1
        have E14 := e14 _ hym _ hxm
        have hn2 : hasA l[i].a l[k].d = false → ∀ j (hj : j < l.length), j < k + 1 → hasA l[i].a l[j].d = false := fun hq j hj hjk => by
          by_cases e : j = k
          · subst e; exact hq
          · exact hok2 j hj (by omega)
        have hu := l[i].hu
        cases hq : hasA l[i].a l[k].d with
        | true =>
          rw [hq] at H1
          have := E14 hq
          repeat' (first | (refine ycf ?_; apply ybk; (· first | (first | exact tk_ | (apply yad; (· rfl); (· exact sb_past (hel _)); (· exact ycj hu)) | (apply yad; (· rfl); (· exact sb_dot (hel2 _)); (· rfl)))); (· rfl); (· rfl)) | refine t1_ ?_ | (refine ta_ ?_; intro _) | ((fail_if_success (refine ybi rfl ?_)); refine ybj rfl ?_ ?_ <;> (intro ht; rw [ht]; first | replace ht := of_decide_eq_true ht | replace ht := of_decide_eq_false ht | skip)) | (refine ych ?_; first | (refine ybw rfl ?_ ?_ <;> intro ht) | (refine ybx rfl ?_ ?_ <;> intro ht)))
          refine cx_region_draw' rfl (by kernel_rfl) ?_
          repeat' (refine ycf ?_;(first|(first|(apply ybm;(·(first|(first|exact tk_|(apply yad;(·rfl);(·exact sb_past (hel _));(·exact ycj hu))|(apply yad;(·rfl);(·exact sb_dot (hel2 _));(·rfl)))|exact tq_));(·rfl);(·rfl);(·(exact th_)))|refine ybl rfl rfl ?_|((fail_if_success (refine ybi rfl ?_));refine ybj rfl ?_ ?_<;>(intro ht;rw [ht];first|replace ht := of_decide_eq_true ht|replace ht := of_decide_eq_false ht|skip))|(refine tb_ ?_ ?_ ?_;(·(exact to_));(·intro _;(exact to_));intro _)|(first|(refine tqs_ ?_ ?_ ?_;(·(exact to_));(·(exact to_))))|(apply ybn;(·(first|(first|exact tk_|(apply yad;(·rfl);(·exact sb_past (hel _));(·exact ycj hu))|(apply yad;(·rfl);(·exact sb_dot (hel2 _));(·rfl)))|exact tq_));(·rfl);(·rfl);(·rfl);(·(exact to_))))|refine ycg ?_))
          (refine ycn (ycp Tryz.func47 rfl (by kernel_rfl) rfl) (H1) rfl rfl rfl ?_ ?_; (· (exact to_)))
          repeat' (refine ycf ?_;(first|(first|(apply ybm;(·(first|(first|exact tk_|(apply yad;(·rfl);(·exact sb_past (hel _));(·exact ycj hu))|(apply yad;(·rfl);(·exact sb_dot (hel2 _));(·rfl)))|exact tq_));(·rfl);(·rfl);(·(exact th_)))|refine ybl rfl rfl ?_|((fail_if_success (refine ybi rfl ?_));refine ybj rfl ?_ ?_<;>(intro ht;rw [ht];first|replace ht := of_decide_eq_true ht|replace ht := of_decide_eq_false ht|skip))|(refine tb_ ?_ ?_ ?_;(·(exact to_));(·intro _;(exact to_));intro _)|(first|(refine tqs_ ?_ ?_ ?_;(·(exact to_));(·(exact to_))))|(apply ybn;(·(first|(first|exact tk_|(apply yad;(·rfl);(·exact sb_past (hel _));(·exact ycj hu))|(apply yad;(·rfl);(·exact sb_dot (hel2 _));(·rfl)))|exact tq_));(·rfl);(·rfl);(·rfl);(·(exact to_))))|refine ycg ?_))
          repeat' (first | (refine ycf ?_; apply ybk; (· first | (first | exact tk_ | (apply yad; (· rfl); (· exact sb_past (hel _)); (· exact ycj hu)) | (apply yad; (· rfl); (· exact sb_dot (hel2 _)); (· rfl)))); (· rfl); (· rfl)) | refine t1_ ?_ | (refine ta_ ?_; intro _) | ((fail_if_success (refine ybi rfl ?_)); refine ybj rfl ?_ ?_ <;> (intro ht; rw [ht]; first | replace ht := of_decide_eq_true ht | replace ht := of_decide_eq_false ht | skip)) | (refine ych ?_; first | (refine ybw rfl ?_ ?_ <;> intro ht) | (refine ybx rfl ?_ ?_ <;> intro ht)))
          exact nx_ret1 rfl (rv_tmp rfl) (fun w' s' => ⟨by rw [this], s'.nil⟩)
        | false =>
          rw [hq] at H1
          repeat' (first | (refine ycf ?_; apply ybk; (· first | (first | exact tk_ | (apply yad; (· rfl); (· exact sb_past (hel _)); (· exact ycj hu)) | (apply yad; (· rfl); (· exact sb_dot (hel2 _)); (· rfl)))); (· rfl); (· rfl)) | refine t1_ ?_ | (refine ta_ ?_; intro _) | ((fail_if_success (refine ybi rfl ?_)); refine ybj rfl ?_ ?_ <;> (intro ht; rw [ht]; first | replace ht := of_decide_eq_true ht | replace ht := of_decide_eq_false ht | skip)) | (refine ych ?_; first | (refine ybw rfl ?_ ?_ <;> intro ht) | (refine ybx rfl ?_ ?_ <;> intro ht)))
          refine cx_region_draw' rfl (by kernel_rfl) ?_
          repeat' (refine ycf ?_;(first|(first|(apply ybm;(·(first|(first|exact tk_|(apply yad;(·rfl);(·exact sb_past (hel _));(·exact ycj hu))|(apply yad;(·rfl);(·exact sb_dot (hel2 _));(·rfl)))|exact tq_));(·rfl);(·rfl);(·(exact th_)))|refine ybl rfl rfl ?_|((fail_if_success (refine ybi rfl ?_));refine ybj rfl ?_ ?_<;>(intro ht;rw [ht];first|replace ht := of_decide_eq_true ht|replace ht := of_decide_eq_false ht|skip))|(refine tb_ ?_ ?_ ?_;(·(exact to_));(·intro _;(exact to_));intro _)|(first|(refine tqs_ ?_ ?_ ?_;(·(exact to_));(·(exact to_))))|(apply ybn;(·(first|(first|exact tk_|(apply yad;(·rfl);(·exact sb_past (hel _));(·exact ycj hu))|(apply yad;(·rfl);(·exact sb_dot (hel2 _));(·rfl)))|exact tq_));(·rfl);(·rfl);(·rfl);(·(exact to_))))|refine ycg ?_))
          (refine ycn (ycp Tryz.func47 rfl (by kernel_rfl) rfl) (H1) rfl rfl rfl ?_ ?_; (· (exact to_)))
          repeat' (refine ycf ?_;(first|(first|(apply ybm;(·(first|(first|exact tk_|(apply yad;(·rfl);(·exact sb_past (hel _));(·exact ycj hu))|(apply yad;(·rfl);(·exact sb_dot (hel2 _));(·rfl)))|exact tq_));(·rfl);(·rfl);(·(exact th_)))|refine ybl rfl rfl ?_|((fail_if_success (refine ybi rfl ?_));refine ybj rfl ?_ ?_<;>(intro ht;rw [ht];first|replace ht := of_decide_eq_true ht|replace ht := of_decide_eq_false ht|skip))|(refine tb_ ?_ ?_ ?_;(·(exact to_));(·intro _;(exact to_));intro _)|(first|(refine tqs_ ?_ ?_ ?_;(·(exact to_));(·(exact to_))))|(apply ybn;(·(first|(first|exact tk_|(apply yad;(·rfl);(·exact sb_past (hel _));(·exact ycj hu))|(apply yad;(·rfl);(·exact sb_dot (hel2 _));(·rfl)))|exact tq_));(·rfl);(·rfl);(·rfl);(·(exact to_))))|refine ycg ?_))
          repeat' (first | (refine ycf ?_; apply ybk; (· first | (first | exact tk_ | (apply yad; (· rfl); (· exact sb_past (hel _)); (· exact ycj hu)) | (apply yad; (· rfl); (· exact sb_dot (hel2 _)); (· rfl)))); (· rfl); (· rfl)) | refine t1_ ?_ | (refine ta_ ?_; intro _) | ((fail_if_success (refine ybi rfl ?_)); refine ybj rfl ?_ ?_ <;> (intro ht; rw [ht]; first | replace ht := of_decide_eq_true ht | replace ht := of_decide_eq_false ht | skip)) | (refine ych ?_; first | (refine ybw rfl ?_ ?_ <;> intro ht) | (refine ybx rfl ?_ ?_ <;> intro ht)))
          exact nx_round (k + 1) ⟨by omega, hn2 hq⟩ (by omega) ts_ (fun _ s => s)
      · --
        repeat' (first | (refine ycf ?_; apply ybk; (· first | (exact tk_)); (· rfl); (· rfl)) | refine t1_ ?_ | (refine ta_ ?_; intro _) | ((fail_if_success (refine ybi rfl ?_)); refine ybj rfl ?_ ?_ <;> (intro ht; rw [ht]; first | replace ht := of_decide_eq_true ht | replace ht := of_decide_eq_false ht | skip)) | (refine ych ?_; first | (refine ybw rfl ?_ ?_ <;> intro ht) | (refine ybx rfl ?_ ?_ <;> intro ht)))
        refine nx_round (i + 1) ⟨by omega, fun j hj hji x hx => ?_⟩ (by omega) ts_ (fun _ s => s)
        by_cases e : j = i
        · subst e
          obtain ⟨q, hq, rfl⟩ := List.getElem_of_mem hx
          exact hok2 q hq (by omega)
        · exact hoi j hj (by omega) x hx
    · have := e0 fun x hx y hy => by
        obtain ⟨q, hq, rfl⟩ := List.getElem_of_mem hy
        exact hoi q hq (by omega) x hx
      repeat' (first | (refine ycf ?_; apply ybk; (· first | (exact tk_)); (· rfl); (· rfl)) | refine t1_ ?_ | (refine ta_ ?_; intro _) | ((fail_if_success (refine ybi rfl ?_)); refine ybj rfl ?_ ?_ <;> (intro ht; rw [ht]; first | replace ht := of_decide_eq_true ht | replace ht := of_decide_eq_false ht | skip)) | (refine ych ?_; first | (refine ybw rfl ?_ ?_ <;> intro ht) | (refine ybx rfl ?_ ?_ <;> intro ht)))
      exact nx_ret1 rfl (rv_tmp rfl) (fun w' s' => ⟨by rw [this], s'.nil⟩)
end Go.Proofs.YtkkjppeaaicgaaaGreat
end
