/-
  BitL: casketref14.Next.
  Conditions: a list that fits.
-/
import Derived.Test.YtbpahaciegfpfaaBitK
import Derived.Test.YtbpahaciegfpfaaDotN
import Derived.Test.YtbpahaciegfpfaaDotU
namespace Go.Proofs.Ytbpahaciegfpfaa
open Go Go.Ck
set_option maxRecDepth 100000
set_option maxHeartbeats 2000000
set_option linter.unusedVariables false

def refN (u : List Int) (l : List Dt) (c : Int) : Int := l.foldl (fun n d => if d.1 = c then maxI n d.2 else n) (u.getD (c - 1).toNat 0)
theorem refN_take {u : List Int} {l : List Dt} {c : Int} {k : Nat} (hk : k < l.length) : refN u (l.take (k + 1)) c = if l[k].1 = c then maxI (refN u (l.take k) c) l[k].2 else refN u (l.take k) c := by
  unfold refN
  rw [List.take_succ_eq_append_getElem hk, List.foldl_append]
  rfl
theorem refN_max (c : Int) : ∀ (l : List Dt) (n0 : Int), n0 ≤ l.foldl (fun n d => if d.1 = c then maxI n d.2 else n) n0 ∧ (∀ d ∈ l, d.1 = c → d.2 ≤ l.foldl (fun n d => if d.1 = c then maxI n d.2 else n) n0) ∧ (l.foldl (fun n d => if d.1 = c then maxI n d.2 else n) n0 = n0 ∨ (c, l.foldl (fun n d => if d.1 = c then maxI n d.2 else n) n0) ∈ l)
  | [], n0 => ⟨Int.le_refl _, (fun d hd => (by cases hd)), .inl rfl⟩
  | x :: l, n0 => by
    simp only [List.foldl_cons]
    by_cases hx : x.1 = c
    · rw [if_pos hx]
      obtain ⟨h1, h2, h3⟩ := refN_max c l (maxI n0 x.2)
      have hm : n0 ≤ maxI n0 x.2 ∧ x.2 ≤ maxI n0 x.2 ∧ (maxI n0 x.2 = n0 ∨ maxI n0 x.2 = x.2) := by
        unfold maxI; split <;> omega
      refine ⟨by omega, fun d hd hdc => ?_, ?_⟩
      · rcases List.mem_cons.1 hd with rfl | hd
        · omega
        · exact h2 d hd hdc
      · rcases h3 with h3 | h3
        · rcases hm.2.2 with h4 | h4
          · exact .inl (h3.trans h4)
          · refine .inr (List.mem_cons.2 (.inl ?_))
            rw [h3, h4, ← hx]
        · exact .inr (List.mem_cons_of_mem _ h3)
    · rw [if_neg hx]
      obtain ⟨h1, h2, h3⟩ := refN_max c l n0
      refine ⟨h1, fun d hd hdc => ?_, h3.imp id (List.mem_cons_of_mem _)⟩
      rcases List.mem_cons.1 hd with rfl | hd
      · exact absurd hdc hx
      · exact h2 d hd hdc
theorem refN_eq {u : List Int} {l : List Dt} (hk : checkC u l = 0) (c : Int) : refN u l c = lastN u l c := by
  obtain ⟨h1, h2, h3⟩ := lastN_max hk c
  obtain ⟨h4, h5, h6⟩ := refN_max c l (u.getD (c - 1).toNat 0)
  change _ ≤ refN u l c at h4
  change ∀ d ∈ l, d.1 = c → d.2 ≤ refN u l c at h5
  change refN u l c = _ ∨ (c, refN u l c) ∈ l at h6
  have a : refN u l c ≤ lastN u l c := by
    rcases h6 with h6 | h6
    · omega
    · exact h2 _ h6 rfl
  have b : lastN u l c ≤ refN u l c := by
    rcases h3 with h3 | h3
    · omega
    · exact h5 _ h3 rfl
  omega
theorem refN_bd {u : List Int} {l : List Dt} (hu : ∀ x ∈ u, 0 ≤ x ∧ x ≤ 1099511627776) (hl : ∀ d ∈ l, rightB d = true) (c : Int) : 0 ≤ refN u l c ∧ refN u l c ≤ 1099511627776 := by
  have h0 : 0 ≤ u.getD (c - 1).toNat 0 ∧ u.getD (c - 1).toNat 0 ≤ 1099511627776 := by
    by_cases hi : (c - 1).toNat < u.length
    · exact hu _ (getD_mem hi)
    · have : u.getD (c - 1).toNat 0 = 0 := by rw [List.getD_eq_getElem?_getD, List.getElem?_eq_none (Nat.le_of_not_lt hi)]; rfl
      omega
  obtain ⟨h4, h5, h6⟩ := refN_max c l (u.getD (c - 1).toNat 0)
  change _ ≤ refN u l c at h4
  change refN u l c = _ ∨ (c, refN u l c) ∈ l at h6
  rcases h6 with h6 | h6
  · omega
  · have := right_of (hl _ h6)
    dsimp only at this
    omega

theorem refNext_sp (cv : Value) (u : List Int) (l : List Dt) (c : Int) (h : View) (hc : Cx h cv u l) (hl : l.length ≤ 4611686018427387904) (w : World) (s : St ⟨w, h, []⟩ h [] w) :
    Calls Try.prog 29 [cv, .int .i64 c].toArray w fun e w' => e = .returned (.tuple #[.int .i64 (nextC u l c).1, .int .i64 (nextC u l c).2]) ∧ St ⟨w, h, []⟩ h [] w' := by
  have hc' := hc
  obtain ⟨hu, mv, rfl, hs⟩ := hc
  obtain ⟨_, ad, cap, rfl, hcap, _⟩ := id hs
  have hchk := refCheck_sp _ u l h hc' hl
  refine calls_enter Try.func29 rfl Try.ntmps29 rfl s ?_
  repeat' (first | (refine ycf ?_; apply ybk; (· first | (first | (apply yad; (· rfl); (· exact yaz 0 rfl); (· exact ycj hu))) | (apply yae; (· rfl); (· (first | exact ycl (yaz 0 rfl) (c - 1).toNat (by omega) (by omega) | exact yck (yaz 0 rfl) hu rfl)))); (· rfl); (· rfl)) | refine t1_ ?_ | (refine ta_ ?_; intro _) | ((fail_if_success (refine ybi rfl ?_)); refine ybj rfl ?_ ?_ <;> (intro ht; rw [ht]; first | replace ht := of_decide_eq_true ht | replace ht := of_decide_eq_false ht | skip)) | (refine ych ?_; first | (refine ybw rfl ?_ ?_ <;> intro ht) | (refine ybx rfl ?_ ?_ <;> intro ht)))
  (refine ycn (ycp Try.func28 rfl (by kernel_rfl) rfl) (hchk) rfl rfl rfl ?_ ?_; (· (exact to_)))
  repeat' (first | (refine ycf ?_; apply ybk; (· first | (first | (apply yad; (· rfl); (· exact yaz 0 rfl); (· exact ycj hu))) | (apply yae; (· rfl); (· (first | exact ycl (yaz 0 rfl) (c - 1).toNat (by omega) (by omega) | exact yck (yaz 0 rfl) hu rfl)))); (· rfl); (· rfl)) | refine t1_ ?_ | (refine ta_ ?_; intro _) | ((fail_if_success (refine ybi rfl ?_)); refine ybj rfl ?_ ?_ <;> (intro ht; rw [ht]; first | replace ht := of_decide_eq_true ht | replace ht := of_decide_eq_false ht | skip)) | (refine ych ?_; first | (refine ybw rfl ?_ ?_ <;> intro ht) | (refine ybx rfl ?_ ?_ <;> intro ht)))
  · exact nx_ret2 rfl (rv_tmp rfl) (rv_tmp rfl) (fun w' s' => ⟨by simp [nextC, ‹checkC u l ≠ 0›], s'.nil⟩)
  · exact nx_ret2 rfl (rv_tmp rfl) (rv_tmp rfl) (fun w' s' => ⟨by simp [nextC, ‹c < 1›], s'.nil⟩)
  · exact nx_ret2 rfl (rv_tmp rfl) (rv_tmp rfl) (fun w' s' => ⟨by simp [nextC, ‹16 < c›], s'.nil⟩)
  have e1 : checkC u l = 0 := by simp_all
  obtain ⟨r1, r2, r3⟩ := check_right e1
  rename_i b _ _
  refine cx_loop (X := Nat) (fun k => [(1, .int .i64 c), (2, .pointer (some ⟨b, 0, none⟩)), (4, .int .i64 0), (5, .int .i64 0), (6, .int .i64 (refN u (l.take k) c)), (7, .int .i64 k)]) (fun _ => h) (fun _ => [Res.blk b (.cells (cxc u (.slice ad l.length cap)).toArray 36 (0, 0))]) (fun k => k ≤ l.length) (fun k => l.length - k) 0 (by omega) ts_ (fun _ s => s) ?_
  intro k hk
  by_cases hkl : k < l.length
  · obtain ⟨bs, o, rfl⟩ := hs.ad (by omega) (by omega)
    have hel : ∀ L, Cells h L ⟨bs, o + k * 2, none⟩ (dcs l[k]) := fun L => hs.elem dcs_len k hkl
    have hc0 : ∀ L, CellAt h L bs (o + (k : Int).toNat * 2 + 0) (.int .i64 l[k].1) := fun L => (hel L).cell (j := 0) rfl
    have hc1 : ∀ L, CellAt h L bs (o + (k : Int).toNat * 2 + 1) (.int .i64 l[k].2) := fun L => (hel L).cell (j := 1) rfl
    repeat' (first | (refine ycf ?_; apply ybk; (· first | (refine qv_max' rfl rfl rfl) | (apply yae; (· rfl); (· (first | exact hc0 _ | exact hc1 _ | exact yck (yaz 0 rfl) hu rfl)))); (· rfl); (· rfl)) | refine t1_ ?_ | (refine ta_ ?_; intro _) | ((fail_if_success (refine ybi rfl ?_)); refine ybj rfl ?_ ?_ <;> (intro ht; rw [ht]; first | replace ht := of_decide_eq_true ht | replace ht := of_decide_eq_false ht | skip)) | (refine ych ?_; first | (refine ybw rfl ?_ ?_ <;> intro ht) | (refine ybx rfl ?_ ?_ <;> intro ht)))
    · refine nx_round (k + 1) (by omega) (by omega) ?_ (fun _ s => s)
      rw [refN_take hkl, if_pos (by assumption)]
      exact ts_
    · refine nx_round (k + 1) (by omega) (by omega) ?_ (fun _ s => s)
      rw [refN_take hkl, if_neg (by assumption)]
      exact ts_
    all_goals omega
  · have hb := refN_bd r1 r3 c
    have ek : l.take k = l := List.take_of_length_le (by omega)
    rw [ek]
    rw [refN_eq e1] at hb ⊢
    repeat' (first | (refine ycf ?_; apply ybk; (· first | (refine qv_max' rfl rfl rfl) | (apply yae; (· rfl); (· (first | exact hc0 _ | exact hc1 _ | exact yck (yaz 0 rfl) hu rfl)))); (· rfl); (· rfl)) | refine t1_ ?_ | (refine ta_ ?_; intro _) | ((fail_if_success (refine ybi rfl ?_)); refine ybj rfl ?_ ?_ <;> (intro ht; rw [ht]; first | replace ht := of_decide_eq_true ht | replace ht := of_decide_eq_false ht | skip)) | (refine ych ?_; first | (refine ybw rfl ?_ ?_ <;> intro ht) | (refine ybx rfl ?_ ?_ <;> intro ht)))
    · omega
    · exact nx_ret2 rfl (rv_tmp rfl) (rv_tmp rfl) (fun w' s' => ⟨by simp only [nextC, e1]; rw [if_neg (by omega), if_pos (by omega)], s'.nil⟩)
    · exact nx_ret2 rfl (rv_tmp rfl) (rv_tmp rfl) (fun w' s' => ⟨by simp only [nextC, e1]; rw [if_neg (by omega), if_neg (by omega)], s'.nil⟩)
end Go.Proofs.Ytbpahaciegfpfaa
