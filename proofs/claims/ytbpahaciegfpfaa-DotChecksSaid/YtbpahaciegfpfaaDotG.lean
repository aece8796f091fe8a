/-
  DotG: dot.Covers, dot.Same, dot.Next.
  Conditions: each theorem states its own.
-/
import Derived.Test.YtbpahaciegfpfaaDotF
namespace Go.Proofs.Ytbpahaciegfpfaa
open Go Go.Ck
set_option maxRecDepth 100000
set_option maxHeartbeats 4000000
set_option linter.unusedVariables false

theorem Ds.mono {h h' : View} {v : Value} {l : List Dt} (s : Ds h v l) (hl : Le h h') : Ds h' v l := Sc.mono s hl
theorem Cx.mono {h h' : View} {v : Value} {u : List Int} {l : List Dt} (c : Cx h v u l) (hl : Le h h') : Cx h' v u l := ⟨c.len, by obtain ⟨mv, h1, h2⟩ := c.val; exact ⟨mv, h1, h2.mono hl⟩⟩

def upLe (v u : List Int) : Bool := (List.range 16).all fun i => decide (v.getD i 0 ≤ u.getD i 0)
def coversC (u : List Int) (l : List Dt) (v : List Int) (m : List Dt) : Bool := decide (checkC u l = 0) && decide (checkC v m = 0) && upLe v u && !(m.any fun d => !hasC u l d)

theorem check_right {u : List Int} {l : List Dt} (h : checkC u l = 0) : (∀ x ∈ u, 0 ≤ x ∧ x ≤ 1099511627776) ∧ l.length ≤ 32 ∧ ∀ d ∈ l, rightB d = true := by
  unfold checkC at h
  split at h
  · cases h
  split at h
  · cases h
  split at h
  · cases h
  · rename_i h1 h2 h3
    refine ⟨upOk_iff.1 (by simpa using h1), by omega, fun d hd => ?_⟩
    obtain ⟨i, hi, rfl⟩ := List.getElem_of_mem hd
    have h3 : moresOk u l = true := by simpa using h3
    have := List.all_eq_true.1 h3 i (List.mem_range.2 hi)
    simp only [moreB, Bool.and_eq_true] at this
    simpa [hi] using this.1.1

theorem Covers_sp (cv dvv : Value) (u v : List Int) (l m : List Dt) (h : View) (hc : Cx h cv u l) (hd : Cx h dvv v m) (hl : l.length ≤ 4611686018427387904) (hm : m.length ≤ 4611686018427387904) (w : World) (s : St ⟨w, h, []⟩ h [] w) :
    Calls Try.prog 22 [cv, dvv].toArray w fun e w' => e = .returned (.bool (coversC u l v m)) ∧ St ⟨w, h, []⟩ h [] w' := by
  have hc' := hc
  have hd' := hd
  obtain ⟨hu, mv, rfl, hs⟩ := hc
  obtain ⟨hv, nv, rfl, hs2⟩ := hd
  have hchk := check_sp _ u l h hc' hl
  have hchk2 := check_sp _ v m h hd' hm
  refine calls_enter Try.func22 rfl Try.ntmps22 rfl s ?_
  repeat' (first | (refine ycf ?_; apply ybk; (· first | (first | (apply yad; (· rfl); (· exact yaz 1 rfl); (· exact ycj hu)) | (apply yad; (· rfl); (· exact yaz 0 rfl); (· exact ycj hv)) | (apply yad; (· rfl); (· exact ycm (yaz 0 rfl)); (· simp [up, hv])))); (· rfl); (· rfl)) | refine t1_ ?_ | (refine ta_ ?_; intro _) | ((fail_if_success (refine ybi rfl ?_)); refine ybj rfl ?_ ?_ <;> (intro ht; rw [ht]; first | replace ht := of_decide_eq_true ht | replace ht := of_decide_eq_false ht | skip)) | (refine ych ?_; first | (refine ybw rfl ?_ ?_ <;> intro ht) | (refine ybx rfl ?_ ?_ <;> intro ht)))
  (refine ycn (ycp Try.func24 rfl (by kernel_rfl) rfl) (hchk) rfl rfl rfl ?_ ?_; (· (exact to_)))
  repeat' (first | (refine ycf ?_; apply ybk; (· first | (first | (apply yad; (· rfl); (· exact yaz 1 rfl); (· exact ycj hu)) | (apply yad; (· rfl); (· exact yaz 0 rfl); (· exact ycj hv)) | (apply yad; (· rfl); (· exact ycm (yaz 0 rfl)); (· simp [up, hv])))); (· rfl); (· rfl)) | refine t1_ ?_ | (refine ta_ ?_; intro _) | ((fail_if_success (refine ybi rfl ?_)); refine ybj rfl ?_ ?_ <;> (intro ht; rw [ht]; first | replace ht := of_decide_eq_true ht | replace ht := of_decide_eq_false ht | skip)) | (refine ych ?_; first | (refine ybw rfl ?_ ?_ <;> intro ht) | (refine ybx rfl ?_ ?_ <;> intro ht)))
  · exact nx_ret1 rfl (rv_tmp rfl) (fun w' s' => ⟨by simp [coversC, ‹checkC u l ≠ 0›], s'.nil⟩)
  (refine ycn (ycp Try.func24 rfl (by kernel_rfl) rfl) (hchk2) rfl rfl rfl ?_ ?_; (· (exact to_)))
  repeat' (first | (refine ycf ?_; apply ybk; (· first | (first | (apply yad; (· rfl); (· exact yaz 1 rfl); (· exact ycj hu)) | (apply yad; (· rfl); (· exact yaz 0 rfl); (· exact ycj hv)) | (apply yad; (· rfl); (· exact ycm (yaz 0 rfl)); (· simp [up, hv])))); (· rfl); (· rfl)) | refine t1_ ?_ | (refine ta_ ?_; intro _) | ((fail_if_success (refine ybi rfl ?_)); refine ybj rfl ?_ ?_ <;> (intro ht; rw [ht]; first | replace ht := of_decide_eq_true ht | replace ht := of_decide_eq_false ht | skip)) | (refine ych ?_; first | (refine ybw rfl ?_ ?_ <;> intro ht) | (refine ybx rfl ?_ ?_ <;> intro ht)))
  · exact nx_ret1 rfl (rv_tmp rfl) (fun w' s' => ⟨by simp [coversC, ‹checkC v m ≠ 0›], s'.nil⟩)
  have e1 : checkC u l = 0 := by simp_all
  have e2 : checkC v m = 0 := by simp_all
  rename_i b0 b1 _
  refine cx_loop (X := Nat) (fun k => [(2, .pointer (some ⟨b0, 0, none⟩)), (3, .pointer (some ⟨b1, 0, none⟩)), (16, .agg (up v).toArray), (17, .int .i64 k)]) (fun _ => h) (fun _ => _) (fun k => k ≤ 16 ∧ ∀ j, j < k → v.getD j 0 ≤ u.getD j 0) (fun k => 16 - k) 0 ⟨by omega, by omega⟩ ts_ (fun _ s => s) ?_
  rintro k ⟨hk, hok⟩
  by_cases hk16 : k < 16
  · have hidx : (up v).toArray[((k : Int)).toNat * 1]? = some (.int .i64 (v.getD k 0)) := by simp [up, show k < v.length by omega]
    repeat' (first | (refine ycf ?_; apply ybk; (· first | (first | (apply qv_index; (· rfl); (· rfl); (· omega); (· omega); (· exact hidx))) | (apply yae; (· rfl); (· (first | exact ycl (yaz 1 rfl) k (by omega) (by omega))))); (· rfl); (· rfl)) | refine t1_ ?_ | (refine ta_ ?_; intro _) | ((fail_if_success (refine ybi rfl ?_)); refine ybj rfl ?_ ?_ <;> (intro ht; rw [ht]; first | replace ht := of_decide_eq_true ht | replace ht := of_decide_eq_false ht | skip)) | (refine ych ?_; first | (refine ybw rfl ?_ ?_ <;> intro ht) | (refine ybx rfl ?_ ?_ <;> intro ht)))
    · refine nx_ret1 rfl (rv_tmp rfl) (fun w' s' => ⟨?_, s'.nil⟩)
      have : upLe v u = false := by
        cases hx : upLe v u with
        | false => rfl
        | true => have := List.all_eq_true.1 hx k (List.mem_range.2 hk16); simp only [decide_eq_true_eq] at this; omega
      simp [coversC, this]
    · refine nx_round (k + 1) ⟨by omega, fun j hjk => ?_⟩ (by omega) ts_ (fun _ s => s)
      by_cases hjk' : j = k
      · subst hjk'; omega
      · exact hok j (by omega)
    all_goals omega
  · have hup : upLe v u = true := List.all_eq_true.2 fun j hj => by
      have := List.mem_range.1 hj
      simpa using hok j (by omega)
    repeat' (first | (refine ycf ?_; apply ybk; (· first | (first | (apply qv_index; (· rfl); (· rfl); (· omega); (· omega); (· exact hidx))) | (apply yae; (· rfl); (· (first | exact yck (yaz 0 rfl) hv rfl)))); (· rfl); (· rfl)) | refine t1_ ?_ | (refine ta_ ?_; intro _) | ((fail_if_success (refine ybi rfl ?_)); refine ybj rfl ?_ ?_ <;> (intro ht; rw [ht]; first | replace ht := of_decide_eq_true ht | replace ht := of_decide_eq_false ht | skip)) | (refine ych ?_; first | (refine ybw rfl ?_ ?_ <;> intro ht) | (refine ybx rfl ?_ ?_ <;> intro ht)))
    · omega
    refine rx_perm (List.Perm.swap _ _ _) ?_
    refine rx_bpersist rfl fun hbn => ?_
    have hle := Le.addV (h := h) (o := .cells (cxc u mv).toArray 27) hbn
    (refine ycn (ycp Try.func39 rfl (by kernel_rfl) rfl) (containsFunc_sp 40 [.pointer (some ⟨b0, 0, none⟩)] _ _ (fun d => !hasC u l d) nv m _ (hs2.mono hle) hm Try.func40 rfl (by kernel_rfl) (fun d hd => covers1_sp b0 u mv l d _ hu (hs.mono hle) addV_same hl ((check_right e2).2.2 d hd))) rfl rfl rfl ?_ ?_; (· (exact to_)))
    repeat' (first | (refine ycf ?_; apply ybk; (· first | (first | (apply qv_index; (· rfl); (· rfl); (· omega); (· omega); (· exact hidx))) | (apply yae; (· rfl); (· (first | exact yck (yaz 0 rfl) hv rfl)))); (· rfl); (· rfl)) | refine t1_ ?_ | (refine ta_ ?_; intro _) | ((fail_if_success (refine ybi rfl ?_)); refine ybj rfl ?_ ?_ <;> (intro ht; rw [ht]; first | replace ht := of_decide_eq_true ht | replace ht := of_decide_eq_false ht | skip)) | (refine ych ?_; first | (refine ybw rfl ?_ ?_ <;> intro ht) | (refine ybx rfl ?_ ?_ <;> intro ht)))
    exact nx_ret1 rfl (rv_tmp rfl) (fun w' s' => ⟨by simp [coversC, e1, e2, hup], s'.base⟩)

def sameC (u : List Int) (l : List Dt) (v : List Int) (m : List Dt) : Bool := decide (u = v) && decide (l = m)

theorem Same_sp (cv dvv : Value) (u v : List Int) (l m : List Dt) (h : View) (hc : Cx h cv u l) (hd : Cx h dvv v m) (hl : l.length ≤ 4611686018427387904) (hm : m.length ≤ 4611686018427387904) (w : World) (s : St ⟨w, h, []⟩ h [] w) :
    Calls Try.prog 12 [cv, dvv].toArray w fun e w' => e = .returned (.bool (sameC u l v m)) ∧ St ⟨w, h, []⟩ h [] w' := by
  obtain ⟨hu, mv, rfl, hs⟩ := hc
  obtain ⟨hv, nv, rfl, hs2⟩ := hd
  have heq := equal_sp mv nv l m h hs hs2 hl hm
  refine calls_enter Try.func12 rfl Try.ntmps12 rfl s ?_
  repeat' (first|(refine ycf ?_;apply ybk;(·first|(first|(apply yad;(·rfl);(·exact ycm (yaz 0 rfl));(·simp [up, hv]))|(apply yad;(·rfl);(·exact ycm (yaz 1 rfl));(·simp [up, hu]))|(apply qv_eql_agg;(·rfl);(·rfl);(·exact fun w => run_equal_arr u v hu hv w)))|(apply yae;(·rfl);(·(first|exact yck (yaz 0 rfl) hv rfl|exact yck (yaz 1 rfl) hu rfl))));(·rfl);(·rfl))|refine t1_ ?_|(refine ta_ ?_;intro _)|((fail_if_success (refine ybi rfl ?_));refine ybj rfl ?_ ?_<;>(intro ht;rw [ht];first|replace ht := of_decide_eq_true ht|replace ht := of_decide_eq_false ht|skip))|(refine ych ?_;first|(refine ybw rfl ?_ ?_<;>intro ht)|(refine ybx rfl ?_ ?_<;>intro ht)))
  · (refine ycn (ycp Try.func35 rfl (by kernel_rfl) rfl) (heq) rfl rfl rfl ?_ ?_; (· (exact to_)))
    repeat' (first|(refine ycf ?_;apply ybk;(·first|(first|(apply yad;(·rfl);(·exact ycm (yaz 0 rfl));(·simp [up, hv]))|(apply yad;(·rfl);(·exact ycm (yaz 1 rfl));(·simp [up, hu]))|(apply qv_eql_agg;(·rfl);(·rfl);(·exact fun w => run_equal_arr u v hu hv w)))|(apply yae;(·rfl);(·(first|exact yck (yaz 0 rfl) hv rfl|exact yck (yaz 1 rfl) hu rfl))));(·rfl);(·rfl))|refine t1_ ?_|(refine ta_ ?_;intro _)|((fail_if_success (refine ybi rfl ?_));refine ybj rfl ?_ ?_<;>(intro ht;rw [ht];first|replace ht := of_decide_eq_true ht|replace ht := of_decide_eq_false ht|skip))|(refine ych ?_;first|(refine ybw rfl ?_ ?_<;>intro ht)|(refine ybx rfl ?_ ?_<;>intro ht)))
    exact nx_ret1 rfl (rv_tmp rfl) (fun w' s' => ⟨by simp [sameC, ‹u = v›], s'.nil⟩)
  · exact nx_ret1 rfl (rv_tmp rfl) (fun w' s' => ⟨by simp [sameC, ‹¬ u = v›], s'.nil⟩)

/-- the greatest number of a client -/
def lastN (u : List Int) (l : List Dt) (c : Int) : Int := l.foldl (fun n d => if d.1 = c then d.2 else n) (u.getD (c - 1).toNat 0)
def nextC (u : List Int) (l : List Dt) (c : Int) : Int × Int :=
  if checkC u l ≠ 0 ∨ c < 1 ∨ 16 < c then (0, 1) else if lastN u l c = 1099511627776 then (0, 5) else (lastN u l c + 1, 0)

theorem lastN_take {u : List Int} {l : List Dt} {c : Int} {k : Nat} (hk : k < l.length) : lastN u (l.take (k + 1)) c = if l[k].1 = c then l[k].2 else lastN u (l.take k) c := by
  unfold lastN
  rw [List.take_succ_eq_append_getElem hk, List.foldl_append]
  rfl
theorem lastN_bd {u : List Int} {c : Int} (hu : ∀ x ∈ u, 0 ≤ x ∧ x ≤ 1099511627776) : ∀ (l : List Dt), (∀ d ∈ l, rightB d = true) → 0 ≤ lastN u l c ∧ lastN u l c ≤ 1099511627776 := by
  intro l
  unfold lastN
  have h0 : 0 ≤ u.getD (c - 1).toNat 0 ∧ u.getD (c - 1).toNat 0 ≤ 1099511627776 := by
    by_cases hi : (c - 1).toNat < u.length
    · exact hu _ (getD_mem hi)
    · have : u.getD (c - 1).toNat 0 = 0 := by rw [List.getD_eq_getElem?_getD, List.getElem?_eq_none (Nat.le_of_not_lt hi)]; rfl
      omega
  generalize u.getD (c - 1).toNat 0 = n at h0 ⊢
  induction l generalizing n with
  | nil => intro _; exact h0
  | cons d l ih =>
    intro hr
    simp only [List.foldl_cons]
    have := right_of (hr d (List.mem_cons_self ..))
    exact ih _ (by split <;> omega) (fun d hd => hr d (List.mem_cons_of_mem _ hd))

theorem Next_sp (cv : Value) (u : List Int) (l : List Dt) (c : Int) (h : View) (hc : Cx h cv u l) (hl : l.length ≤ 4611686018427387904) (w : World) (s : St ⟨w, h, []⟩ h [] w) :
    Calls Try.prog 16 [cv, .int .i64 c].toArray w fun e w' => e = .returned (.tuple #[.int .i64 (nextC u l c).1, .int .i64 (nextC u l c).2]) ∧ St ⟨w, h, []⟩ h [] w' := by
  have hc' := hc
  obtain ⟨hu, mv, rfl, hs⟩ := hc
  obtain ⟨_, ad, cap, rfl, hcap, _⟩ := id hs
  have hchk := check_sp _ u l h hc' hl
  refine calls_enter Try.func16 rfl Try.ntmps16 rfl s ?_
  repeat' (first | (refine ycf ?_; apply ybk; (· first | (first | (apply yad; (· rfl); (· exact yaz 0 rfl); (· exact ycj hu))) | (apply yae; (· rfl); (· (first | exact ycl (yaz 0 rfl) (c - 1).toNat (by omega) (by omega) | exact yck (yaz 0 rfl) hu rfl)))); (· rfl); (· rfl)) | refine t1_ ?_ | (refine ta_ ?_; intro _) | ((fail_if_success (refine ybi rfl ?_)); refine ybj rfl ?_ ?_ <;> (intro ht; rw [ht]; first | replace ht := of_decide_eq_true ht | replace ht := of_decide_eq_false ht | skip)) | (refine ych ?_; first | (refine ybw rfl ?_ ?_ <;> intro ht) | (refine ybx rfl ?_ ?_ <;> intro ht)))
  (refine ycn (ycp Try.func24 rfl (by kernel_rfl) rfl) (hchk) rfl rfl rfl ?_ ?_; (· (exact to_)))
  repeat' (first | (refine ycf ?_; apply ybk; (· first | (first | (apply yad; (· rfl); (· exact yaz 0 rfl); (· exact ycj hu))) | (apply yae; (· rfl); (· (first | exact ycl (yaz 0 rfl) (c - 1).toNat (by omega) (by omega) | exact yck (yaz 0 rfl) hu rfl)))); (· rfl); (· rfl)) | refine t1_ ?_ | (refine ta_ ?_; intro _) | ((fail_if_success (refine ybi rfl ?_)); refine ybj rfl ?_ ?_ <;> (intro ht; rw [ht]; first | replace ht := of_decide_eq_true ht | replace ht := of_decide_eq_false ht | skip)) | (refine ych ?_; first | (refine ybw rfl ?_ ?_ <;> intro ht) | (refine ybx rfl ?_ ?_ <;> intro ht)))
  · exact nx_ret2 rfl (rv_tmp rfl) (rv_tmp rfl) (fun w' s' => ⟨by simp [nextC, ‹checkC u l ≠ 0›], s'.nil⟩)
  · exact nx_ret2 rfl (rv_tmp rfl) (rv_tmp rfl) (fun w' s' => ⟨by simp [nextC, ‹c < 1›], s'.nil⟩)
  · exact nx_ret2 rfl (rv_tmp rfl) (rv_tmp rfl) (fun w' s' => ⟨by simp [nextC, ‹16 < c›], s'.nil⟩)
  have e1 : checkC u l = 0 := by simp_all
  obtain ⟨r1, r2, r3⟩ := check_right e1
  rename_i b _ _ _
  refine cx_loop (X := Nat) (fun k => [(1, .int .i64 c), (6, .int .i64 (lastN u (l.take k) c)), (26, .slice ad l.length cap), (27, .int .i64 l.length), (28, .int .i64 k)]) (fun _ => h) (fun _ => []) (fun k => k ≤ l.length) (fun k => l.length - k) 0 (by omega) ts_ (fun _ s => s.nil) ?_
  intro k hk
  by_cases hkl : k < l.length
  · obtain ⟨bs, o, rfl⟩ := hs.ad (by omega) (by omega)
    have hel : ∀ L, Cells h L ⟨bs, o + k * 2, none⟩ (dcs l[k]) := fun L => hs.elem dcs_len k hkl
    repeat' (first | (refine ycf ?_; apply ybk; (· first | (first | (apply yad; (· rfl); (· exact hel _); (· rfl))) | (apply yae; (· rfl); (· (first | exact ycl (yaz 0 rfl) (c - 1).toNat (by omega) (by omega) | exact yck (yaz 0 rfl) hu rfl)))); (· rfl); (· rfl)) | refine t1_ ?_ | (refine ta_ ?_; intro _) | ((fail_if_success (refine ybi rfl ?_)); refine ybj rfl ?_ ?_ <;> (intro ht; rw [ht]; first | replace ht := of_decide_eq_true ht | replace ht := of_decide_eq_false ht | skip)) | (refine ych ?_; first | (refine ybw rfl ?_ ?_ <;> intro ht) | (refine ybx rfl ?_ ?_ <;> intro ht)))
    · refine nx_round (k + 1) (by omega) (by omega) ?_ (fun _ s => s.nil)
      rw [lastN_take hkl, if_pos (by assumption)]
      exact ts_
    · refine nx_round (k + 1) (by omega) (by omega) ?_ (fun _ s => s.nil)
      rw [lastN_take hkl, if_neg (by assumption)]
      exact ts_
    all_goals omega
  · have hb := lastN_bd (c := c) r1 l r3
    have ek : l.take k = l := List.take_of_length_le (by omega)
    rw [ek]
    repeat' (first | (refine ycf ?_; apply ybk; (· first | (first | (apply yad; (· rfl); (· exact hel _); (· rfl))) | (apply yae; (· rfl); (· (first | exact ycl (yaz 0 rfl) (c - 1).toNat (by omega) (by omega) | exact yck (yaz 0 rfl) hu rfl)))); (· rfl); (· rfl)) | refine t1_ ?_ | (refine ta_ ?_; intro _) | ((fail_if_success (refine ybi rfl ?_)); refine ybj rfl ?_ ?_ <;> (intro ht; rw [ht]; first | replace ht := of_decide_eq_true ht | replace ht := of_decide_eq_false ht | skip)) | (refine ych ?_; first | (refine ybw rfl ?_ ?_ <;> intro ht) | (refine ybx rfl ?_ ?_ <;> intro ht)))
    · omega
    · exact nx_ret2 rfl (rv_tmp rfl) (rv_tmp rfl) (fun w' s' => ⟨by simp only [nextC, e1]; rw [if_neg (by omega), if_pos (by assumption)], s'.nil⟩)
    · exact nx_ret2 rfl (rv_tmp rfl) (rv_tmp rfl) (fun w' s' => ⟨by simp only [nextC, e1]; rw [if_neg (by omega), if_neg (by assumption)], s'.nil⟩)
end Go.Proofs.Ytbpahaciegfpfaa
