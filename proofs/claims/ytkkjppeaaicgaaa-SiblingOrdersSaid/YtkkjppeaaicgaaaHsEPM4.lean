/-
  Part 4 of a proof: DotG DotH DotI DotJ.
  Conditions: each theorem states its own.
-/
import Derived.Shelf.SlSortCmp.NoneTotal
import Derived.Test.YtkkjppeaaicgaaaHsEPM3
section
namespace Go.Proofs.Ytkkjppeaaicgaaa
open Go Go.Ck
set_option maxRecDepth 100000
set_option maxHeartbeats 4000000
set_option linter.unusedVariables false

theorem Ds.mono {h h' : View} {v : Value} {l : List Dt} (s : Ds h v l) (hl : Le h h') : Ds h' v l := Sc.mono s hl
theorem Cx.mono {h h' : View} {v : Value} {u : List Int} {l : List Dt} (c : Cx h v u l) (hl : Le h h') : Cx h' v u l := ⟨c.len, by obtain ⟨mv, h1, h2⟩ := c.val; exact ⟨mv, h1, h2.mono hl⟩⟩

def upLe (v u : List Int) : Bool := (List.range 16).all fun i => decide (v.getD i 0 ≤ u.getD i 0)
def coversC (u : List Int) (l : List Dt) (v : List Int) (m : List Dt) : Bool := decide (checkC u l = 0) && decide (checkC v m = 0) && upLe v u && !(m.any fun d => !hasC u l d)

theorem check_right {u : List Int} {l : List Dt} (h : checkC u l = 0) : (∀ x ∈ u, 0 ≤ x ∧ x ≤ 1099511627776) ∧ l.length ≤ 32 ∧ ∀ d ∈ l, rightB d = true := by
  unfold checkC at h
  split at h
  · cases h
  split at h
  · cases h
  split at h
  · cases h
  · rename_i h1 h2 h3
    refine ⟨upOk_iff.1 (by simpa using h1), by omega, fun d hd => ?_⟩
    obtain ⟨i, hi, rfl⟩ := List.getElem_of_mem hd
    have h3 : moresOk u l = true := by simpa using h3
    have := List.all_eq_true.1 h3 i (List.mem_range.2 hi)
    simp only [moreB, Bool.and_eq_true] at this
    simpa [hi] using this.1.1

def sameC (u : List Int) (l : List Dt) (v : List Int) (m : List Dt) : Bool := decide (u = v) && decide (l = m)

theorem Same_sp (cv dvv : Value) (u v : List Int) (l m : List Dt) (h : View) (hc : Cx h cv u l) (hd : Cx h dvv v m) (hl : l.length ≤ 4611686018427387904) (hm : m.length ≤ 4611686018427387904) (w : World) (s : St ⟨w, h, []⟩ h [] w) :
    Calls Try.prog 45 [cv, dvv].toArray w fun e w' => e = .returned (.bool (sameC u l v m)) ∧ St ⟨w, h, []⟩ h [] w' := by
  obtain ⟨hu, mv, rfl, hs⟩ := hc
  obtain ⟨hv, nv, rfl, hs2⟩ := hd
  have heq := equal_sp mv nv l m h hs hs2 hl hm
  refine calls_enter Try.func45 rfl Try.ntmps45 rfl s ?_
  repeat' (first|(refine ycf ?_;apply ybk;(·first|(first|(apply yad;(·rfl);(·exact ycm (yaz 0 rfl));(·simp [up, hv]))|(apply yad;(·rfl);(·exact ycm (yaz 1 rfl));(·simp [up, hu]))|(apply qv_eql_agg;(·rfl);(·rfl);(·exact fun w => run_equal_arr u v hu hv w)))|(apply yae;(·rfl);(·(first|exact yck (yaz 0 rfl) hv rfl|exact yck (yaz 1 rfl) hu rfl))));(·rfl);(·rfl))|refine t1_ ?_|(refine ta_ ?_;intro _)|((fail_if_success (refine ybi rfl ?_));refine ybj rfl ?_ ?_<;>(intro ht;rw [ht];first|replace ht := of_decide_eq_true ht|replace ht := of_decide_eq_false ht|skip))|(refine ych ?_;first|(refine ybw rfl ?_ ?_<;>intro ht)|(refine ybx rfl ?_ ?_<;>intro ht)))
  · (refine ycn (ycp Try.func65 rfl (by kernel_rfl) rfl) (heq) rfl rfl rfl ?_ ?_; (· (exact to_)))
    repeat' (first|(refine ycf ?_;apply ybk;(·first|(first|(apply yad;(·rfl);(·exact ycm (yaz 0 rfl));(·simp [up, hv]))|(apply yad;(·rfl);(·exact ycm (yaz 1 rfl));(·simp [up, hu]))|(apply qv_eql_agg;(·rfl);(·rfl);(·exact fun w => run_equal_arr u v hu hv w)))|(apply yae;(·rfl);(·(first|exact yck (yaz 0 rfl) hv rfl|exact yck (yaz 1 rfl) hu rfl))));(·rfl);(·rfl))|refine t1_ ?_|(refine ta_ ?_;intro _)|((fail_if_success (refine ybi rfl ?_));refine ybj rfl ?_ ?_<;>(intro ht;rw [ht];first|replace ht := of_decide_eq_true ht|replace ht := of_decide_eq_false ht|skip))|(refine ych ?_;first|(refine ybw rfl ?_ ?_<;>intro ht)|(refine ybx rfl ?_ ?_<;>intro ht)))
    exact nx_ret1 rfl (rv_tmp rfl) (fun w' s' => ⟨by simp [sameC, ‹u = v›], s'.nil⟩)
  · exact nx_ret1 rfl (rv_tmp rfl) (fun w' s' => ⟨by simp [sameC, ‹¬ u = v›], s'.nil⟩)

/-- the greatest number of a client -/
def lastN (u : List Int) (l : List Dt) (c : Int) : Int := l.foldl (fun n d => if d.1 = c then d.2 else n) (u.getD (c - 1).toNat 0)
def nextC (u : List Int) (l : List Dt) (c : Int) : Int × Int :=
  if checkC u l ≠ 0 ∨ c < 1 ∨ 16 < c then (0, 1) else if lastN u l c = 1099511627776 then (0, 5) else (lastN u l c + 1, 0)

theorem lastN_take {u : List Int} {l : List Dt} {c : Int} {k : Nat} (hk : k < l.length) : lastN u (l.take (k + 1)) c = if l[k].1 = c then l[k].2 else lastN u (l.take k) c := by
  unfold lastN
  rw [List.take_succ_eq_append_getElem hk, List.foldl_append]
  rfl
theorem lastN_bd {u : List Int} {c : Int} (hu : ∀ x ∈ u, 0 ≤ x ∧ x ≤ 1099511627776) : ∀ (l : List Dt), (∀ d ∈ l, rightB d = true) → 0 ≤ lastN u l c ∧ lastN u l c ≤ 1099511627776 := by
  intro l
  unfold lastN
  have h0 : 0 ≤ u.getD (c - 1).toNat 0 ∧ u.getD (c - 1).toNat 0 ≤ 1099511627776 := by
    by_cases hi : (c - 1).toNat < u.length
    · exact hu _ (getD_mem hi)
    · have : u.getD (c - 1).toNat 0 = 0 := by rw [List.getD_eq_getElem?_getD, List.getElem?_eq_none (Nat.le_of_not_lt hi)]; rfl
      omega
  generalize u.getD (c - 1).toNat 0 = n at h0 ⊢
  induction l generalizing n with
  | nil => intro _; exact h0
  | cons d l ih =>
    intro hr
    simp only [List.foldl_cons]
    have := right_of (hr d (List.mem_cons_self ..))
    exact ih _ (by split <;> omega) (fun d hd => hr d (List.mem_cons_of_mem _ hd))

theorem Next_sp (cv : Value) (u : List Int) (l : List Dt) (c : Int) (h : View) (hc : Cx h cv u l) (hl : l.length ≤ 4611686018427387904) (w : World) (s : St ⟨w, h, []⟩ h [] w) :
    Calls Try.prog 14 [cv, .int .i64 c].toArray w fun e w' => e = .returned (.tuple #[.int .i64 (nextC u l c).1, .int .i64 (nextC u l c).2]) ∧ St ⟨w, h, []⟩ h [] w' := by
  have hc' := hc
  obtain ⟨hu, mv, rfl, hs⟩ := hc
  obtain ⟨_, ad, cap, rfl, hcap, _⟩ := id hs
  have hchk := check_sp _ u l h hc' hl
  refine calls_enter Try.func14 rfl Try.ntmps14 rfl s ?_
  repeat' (first | (refine ycf ?_; apply ybk; (· first | (first | (apply yad; (· rfl); (· exact yaz 0 rfl); (· exact ycj hu))) | (apply yae; (· rfl); (· (first | exact ycl (yaz 0 rfl) (c - 1).toNat (by omega) (by omega) | exact yck (yaz 0 rfl) hu rfl)))); (· rfl); (· rfl)) | refine t1_ ?_ | (refine ta_ ?_; intro _) | ((fail_if_success (refine ybi rfl ?_)); refine ybj rfl ?_ ?_ <;> (intro ht; rw [ht]; first | replace ht := of_decide_eq_true ht | replace ht := of_decide_eq_false ht | skip)) | (refine ych ?_; first | (refine ybw rfl ?_ ?_ <;> intro ht) | (refine ybx rfl ?_ ?_ <;> intro ht)))
  (refine ycn (ycp Try.func41 rfl (by kernel_rfl) rfl) (hchk) rfl rfl rfl ?_ ?_; (· (exact to_)))
  repeat' (first | (refine ycf ?_; apply ybk; (· first | (first | (apply yad; (· rfl); (· exact yaz 0 rfl); (· exact ycj hu))) | (apply yae; (· rfl); (· (first | exact ycl (yaz 0 rfl) (c - 1).toNat (by omega) (by omega) | exact yck (yaz 0 rfl) hu rfl)))); (· rfl); (· rfl)) | refine t1_ ?_ | (refine ta_ ?_; intro _) | ((fail_if_success (refine ybi rfl ?_)); refine ybj rfl ?_ ?_ <;> (intro ht; rw [ht]; first | replace ht := of_decide_eq_true ht | replace ht := of_decide_eq_false ht | skip)) | (refine ych ?_; first | (refine ybw rfl ?_ ?_ <;> intro ht) | (refine ybx rfl ?_ ?_ <;> intro ht)))
  · exact nx_ret2 rfl (rv_tmp rfl) (rv_tmp rfl) (fun w' s' => ⟨by simp [nextC, ‹checkC u l ≠ 0›], s'.nil⟩)
  · exact nx_ret2 rfl (rv_tmp rfl) (rv_tmp rfl) (fun w' s' => ⟨by simp [nextC, ‹c < 1›], s'.nil⟩)
  · exact nx_ret2 rfl (rv_tmp rfl) (rv_tmp rfl) (fun w' s' => ⟨by simp [nextC, ‹16 < c›], s'.nil⟩)
  have e1 : checkC u l = 0 := by simp_all
  obtain ⟨r1, r2, r3⟩ := check_right e1
  rename_i b _ _ _
  refine cx_loop (X := Nat) (fun k => [(1, .int .i64 c), (6, .int .i64 (lastN u (l.take k) c)), (26, .slice ad l.length cap), (27, .int .i64 l.length), (28, .int .i64 k)]) (fun _ => h) (fun _ => []) (fun k => k ≤ l.length) (fun k => l.length - k) 0 (by omega) ts_ (fun _ s => s.nil) ?_
  intro k hk
  by_cases hkl : k < l.length
  · obtain ⟨bs, o, rfl⟩ := hs.ad (by omega) (by omega)
    have hel : ∀ L, Cells h L ⟨bs, o + k * 2, none⟩ (dcs l[k]) := fun L => hs.elem dcs_len k hkl
    repeat' (first | (refine ycf ?_; apply ybk; (· first | (first | (apply yad; (· rfl); (· exact hel _); (· rfl))) | (apply yae; (· rfl); (· (first | exact ycl (yaz 0 rfl) (c - 1).toNat (by omega) (by omega) | exact yck (yaz 0 rfl) hu rfl)))); (· rfl); (· rfl)) | refine t1_ ?_ | (refine ta_ ?_; intro _) | ((fail_if_success (refine ybi rfl ?_)); refine ybj rfl ?_ ?_ <;> (intro ht; rw [ht]; first | replace ht := of_decide_eq_true ht | replace ht := of_decide_eq_false ht | skip)) | (refine ych ?_; first | (refine ybw rfl ?_ ?_ <;> intro ht) | (refine ybx rfl ?_ ?_ <;> intro ht)))
    · refine nx_round (k + 1) (by omega) (by omega) ?_ (fun _ s => s.nil)
      rw [lastN_take hkl, if_pos (by assumption)]
      exact ts_
    · refine nx_round (k + 1) (by omega) (by omega) ?_ (fun _ s => s.nil)
      rw [lastN_take hkl, if_neg (by assumption)]
      exact ts_
    all_goals omega
  · have hb := lastN_bd (c := c) r1 l r3
    have ek : l.take k = l := List.take_of_length_le (by omega)
    rw [ek]
    repeat' (first | (refine ycf ?_; apply ybk; (· first | (first | (apply yad; (· rfl); (· exact hel _); (· rfl))) | (apply yae; (· rfl); (· (first | exact ycl (yaz 0 rfl) (c - 1).toNat (by omega) (by omega) | exact yck (yaz 0 rfl) hu rfl)))); (· rfl); (· rfl)) | refine t1_ ?_ | (refine ta_ ?_; intro _) | ((fail_if_success (refine ybi rfl ?_)); refine ybj rfl ?_ ?_ <;> (intro ht; rw [ht]; first | replace ht := of_decide_eq_true ht | replace ht := of_decide_eq_false ht | skip)) | (refine ych ?_; first | (refine ybw rfl ?_ ?_ <;> intro ht) | (refine ybx rfl ?_ ?_ <;> intro ht)))
    · omega
    · exact nx_ret2 rfl (rv_tmp rfl) (rv_tmp rfl) (fun w' s' => ⟨by simp only [nextC, e1]; rw [if_neg (by omega), if_pos (by assumption)], s'.nil⟩)
    · exact nx_ret2 rfl (rv_tmp rfl) (rv_tmp rfl) (fun w' s' => ⟨by simp only [nextC, e1]; rw [if_neg (by omega), if_neg (by assumption)], s'.nil⟩)
end Go.Proofs.Ytkkjppeaaicgaaa
end

section
namespace Go.Proofs.Ytkkjppeaaicgaaa
open Go Go.Ck
set_option maxRecDepth 100000
set_option maxHeartbeats 2000000
set_option linter.unusedVariables false

theorem st_left {K : Bs} {h : View} {A B : List Res} {w : World} (s : St K h (A ++ B) w) : St K h A w := St.drop (L := B) (L' := A) (s.perm List.perm_append_comm)

theorem values1_sp (b l : Nat) (mv : Value) (Lm : List Dt) (h : View) (LL : Nat → Value → List Res) (v0 : Value) (hs : Ds h mv Lm) (hb : h b = some (.cells #[mv] 31)) (hlen : Lm.length ≤ 1000000)
    (hY : ∀ k (hk : k < Lm.length) v w, St ⟨w, h, doms (LL k v)⟩ h (LL k v) w → YieldAt Fence.wide (0 - 1) Try.prog l #[dv Lm[k]] w fun e w' => ∃ v', e = .returned (.bool true) ∧ St ⟨w, h, doms (LL k v)⟩ h (LL (k + 1) v') w' ∧ True)
    (w : World) (s : St ⟨w, h, doms (LL 0 v0)⟩ h (LL 0 v0) w) :
    Calls Try.prog 96 [.func (.yield l) #[] #[], .pointer (some ⟨b, 0, none⟩)].toArray w fun e w' => (∃ v, e = .returned v) ∧ ∃ v, True ∧ St ⟨w, h, doms (LL 0 v0)⟩ h (LL Lm.length v) w' := by
  obtain ⟨_, ad, cap, rfl, hcap, _⟩ := id hs
  refine calls_enter Try.func96 rfl Try.ntmps96 rfl s ?_
  repeat' (first | (refine ycf ?_; apply ybk; (· first | (apply yae; (· rfl); (· exact cell_view hb rfl))); (· rfl); (· rfl)) | refine t1_ ?_ | (refine ta_ ?_; intro _) | ((fail_if_success (refine ybi rfl ?_)); refine ybj rfl ?_ ?_ <;> (intro ht; rw [ht]; first | replace ht := of_decide_eq_true ht | replace ht := of_decide_eq_false ht | skip)) | (refine ych ?_; first | (refine ybw rfl ?_ ?_ <;> intro ht) | (refine ybx rfl ?_ ?_ <;> intro ht)))
  refine cx_loop (X := Nat × Value) (fun x => [(0, .func (.yield l) #[] #[]), (5, .slice ad Lm.length cap), (6, .int .i64 Lm.length), (7, .int .i64 x.1)]) (fun _ => h) (fun x => LL x.1 x.2) (fun x => x.1 ≤ Lm.length) (fun x => Lm.length - x.1) (0, v0) (by simp) ts_ (fun _ s => s) ?_
  rintro ⟨k, v⟩ hk
  replace hk : k ≤ Lm.length := hk
  by_cases hkl : k < Lm.length
  · obtain ⟨bs, o, rfl⟩ := hs.ad (by omega) (by omega)
    have hel : ∀ L, Cells h L ⟨bs, o + k * 2, none⟩ (dcs Lm[k]) := fun L => hs.elem dcs_len k hkl
    repeat' (first | (refine ych ?_; refine cx_regionI (id := 3) ?_) | (first | (refine ycf ?_; apply ybk; (· first | (first | (apply yad; (· rfl); (· exact hel _); (· rfl))) | (apply yae; (· rfl); (· exact cell_view hb rfl))); (· rfl); (· rfl)) | refine t1_ ?_ | (refine ta_ ?_; intro _) | ((fail_if_success (refine ybi rfl ?_)); refine ybj rfl ?_ ?_ <;> (intro ht; rw [ht]; first | replace ht := of_decide_eq_true ht | replace ht := of_decide_eq_false ht | skip)) | (refine ych ?_; first | (refine ybw rfl ?_ ?_ <;> intro ht) | (refine ybx rfl ?_ ?_ <;> intro ht))))
    · (apply li_v; (· (first | (first | (apply yad; (· rfl); (· exact hel _); (· rfl))) | (apply yae; (· rfl); (· exact cell_view hb rfl)) | exact tq_)); (· rfl))
      (apply li_v; (· (first | (first | (apply yad; (· rfl); (· exact hel _); (· rfl))) | (apply yae; (· rfl); (· exact cell_view hb rfl)) | exact tq_)); (· rfl))
      refine li_yield (X := Value) (v := fun _ => .bool true) (LL := fun v' => LL (k + 1) v') (p := fun _ => True) rfl rfl rfl (List.perm_append_comm (l₁ := [_])) (hY k hkl v) ?_
      intro v' _
      (apply li_v; (· (first | (first | (apply yad; (· rfl); (· exact hel _); (· rfl))) | (apply yae; (· rfl); (· exact cell_view hb rfl)) | exact tq_)); (· rfl))
      refine li_nil ?_
      repeat' (first | (refine ycf ?_; apply ybk; (· first | (first | (apply yad; (· rfl); (· exact hel _); (· rfl))) | (apply yae; (· rfl); (· exact cell_view hb rfl))); (· rfl); (· rfl)) | refine t1_ ?_ | (refine ta_ ?_; intro _) | ((fail_if_success (refine ybi rfl ?_)); refine ybj rfl ?_ ?_ <;> (intro ht; rw [ht]; first | replace ht := of_decide_eq_true ht | replace ht := of_decide_eq_false ht | skip)) | (refine ych ?_; first | (refine ybw rfl ?_ ?_ <;> intro ht) | (refine ybx rfl ?_ ?_ <;> intro ht)))
      exact nx_round (k + 1, v') (by show k + 1 ≤ _; omega) (by show Lm.length - (k + 1) < Lm.length - k; omega) ts_ (fun _ s => st_left s)
    · omega
  · repeat' (first | (refine ycf ?_; apply ybk; (· first | (first | (apply yad; (· rfl); (· exact hel _); (· rfl))) | (apply yae; (· rfl); (· exact cell_view hb rfl))); (· rfl); (· rfl)) | refine t1_ ?_ | (refine ta_ ?_; intro _) | ((fail_if_success (refine ybi rfl ?_)); refine ybj rfl ?_ ?_ <;> (intro ht; rw [ht]; first | replace ht := of_decide_eq_true ht | replace ht := of_decide_eq_false ht | skip)) | (refine ych ?_; first | (refine ybw rfl ?_ ?_ <;> intro ht) | (refine ybx rfl ?_ ?_ <;> intro ht)))
    · omega
    have ek : k = Lm.length := by omega
    subst ek
    exact nx_end0 rfl (fun w' s' => ⟨⟨_, rfl⟩, v, trivial, s'⟩)

abbrev asL (Bs : Nat) (Lm : List Dt) (k : Nat) (v : Value) : List Res := [Res.row 39 2 v k ((Lm.take k).flatMap dcs), Res.blk Bs (.cells #[v] 31 (0, 0))]
theorem appendSeq_sp (b : Nat) (mv : Value) (Lm : List Dt) (h : View) (hs : Ds h mv Lm) (hb : h b = some (.cells #[mv] 31)) (hlen : Lm.length ≤ 1000000) (w : World) (s : St ⟨w, h, []⟩ h [] w) :
    Calls Try.prog 100 [.slice none 0 0, .func (.func 96) #[] #[.pointer (some ⟨b, 0, none⟩)]].toArray w fun e w' => ∃ v, e = .returned v ∧ St ⟨w, h, []⟩ h [rowD v Lm] w' ∧ True := by
  refine calls_enter_marks rfl rfl rfl rfl s ?_
  repeat' (first | (refine ycf ?_; apply ybk; (· first | (first | (apply yad; (· rfl); (· exact hel _); (· rfl))) | (apply yae; (· rfl); (· exact cell_view hb rfl))); (· rfl); (· rfl)) | refine t1_ ?_ | (refine ta_ ?_; intro _) | ((fail_if_success (refine ybi rfl ?_)); refine ybj rfl ?_ ?_ <;> (intro ht; rw [ht]; first | replace ht := of_decide_eq_true ht | replace ht := of_decide_eq_false ht | skip)) | (refine ych ?_; first | (refine ybw rfl ?_ ?_ <;> intro ht) | (refine ybx rfl ?_ ?_ <;> intro ht)))
  rename_i Bs
  refine cx_row 39 2 ?_
  refine cx_rangeFunc (cap := [.pointer (some ⟨b, 0, none⟩)]) (X := Value) (LL := asL Bs Lm Lm.length) (p := fun _ => True) rfl rfl rfl rfl ?_ ?_
  · intro tm fn l D w0 f s0
    refine values1_sp b l mv Lm h (fun k v => Res.blk l (.loop (rec0 tm fn D _ _ _)) :: asL Bs Lm k v) (.slice none 0 0) hs hb hlen ?_ w0 s0
    intro k hk v w1 s1
    refine yieldAt_ck (List.Perm.refl _) rfl (f.put (dst := some 7) rfl _) s1 ?_
    refine ci_region rfl ?_
    repeat' (first | (refine ycf ?_; apply ybk; (· first | (first | (apply yad; (· rfl); (· exact hel _); (· rfl))) | (apply yae; (· rfl); (· exact cell_view hb rfl))); (· rfl); (· rfl)) | refine t1_ ?_ | (refine ta_ ?_; intro _) | ((fail_if_success (refine ybi rfl ?_)); refine ybj rfl ?_ ?_ <;> (intro ht; rw [ht]; first | replace ht := of_decide_eq_true ht | replace ht := of_decide_eq_false ht | skip)) | (refine ych ?_; first | (refine ybw rfl ?_ ?_ <;> intro ht) | (refine ybx rfl ?_ ?_ <;> intro ht)))
    refine nx_begins (List.Perm.swap _ _ _) rfl ?_
    refine ci_block (ci_region rfl ?_)
    repeat' (first | (refine ycf ?_; apply ybk; (· first | (first | (apply yad; (· rfl); (· exact hel _); (· rfl))) | (apply yae; (· rfl); (· exact cell_view hb rfl))); (· rfl); (· rfl)) | refine t1_ ?_ | (refine ta_ ?_; intro _) | ((fail_if_success (refine ybi rfl ?_)); refine ybj rfl ?_ ?_ <;> (intro ht; rw [ht]; first | replace ht := of_decide_eq_true ht | replace ht := of_decide_eq_false ht | skip)) | (refine ych ?_; first | (refine ybw rfl ?_ ?_ <;> intro ht) | (refine ybx rfl ?_ ?_ <;> intro ht)))
    refine rx_append (sz := 2) 3 rfl rfl rfl (yaz 0 rfl) rfl (one_dcs [Lm[k]]) rfl (by omega) (by unfold maxLen; omega) (by omega) rfl rfl rfl ybf (fun _ => ybf) ?_
    intro v' _
    refine rx_rowform 3 rfl (fun _ h0 _ => (by omega)) ?_
    rintro g cap rfl
    repeat' (first | (refine ycf ?_; apply ybk; (· first | (first | (apply yad; (· rfl); (· exact hel _); (· rfl))) | (apply yae; (· rfl); (· exact cell_view hb rfl))); (· rfl); (· rfl)) | refine t1_ ?_ | (refine ta_ ?_; intro _) | ((fail_if_success (refine ybi rfl ?_)); refine ybj rfl ?_ ?_ <;> (intro ht; rw [ht]; first | replace ht := of_decide_eq_true ht | replace ht := of_decide_eq_false ht | skip)) | (refine ych ?_; first | (refine ybw rfl ?_ ?_ <;> intro ht) | (refine ybx rfl ?_ ?_ <;> intro ht)))
    have eT : Lm.take (k + 1) = Lm.take k ++ [Lm[k]] := List.take_succ_eq_append_getElem hk
    refine nx_roundEnd (List.Perm.swap _ _ _) (fun w2 s2 => ⟨.slice (some ⟨g, 0, none⟩) (k + 1) cap, rfl, ?_, trivial⟩)
    have s3 := s2.perm (List.Perm.trans (List.Perm.swap _ _ _) (List.Perm.cons _ (List.Perm.swap _ _ _)))
    have s5 := s3.tl.tl
    show St _ _ (_ :: asL Bs Lm (k + 1) (.slice (some ⟨g, 0, none⟩) (k + 1) cap)) w2
    unfold asL
    rw [eT, List.flatMap_append]
    exact s5
  · intro v tm D _ f w0 s0
    change Code.wp _ _ _ _ _
    refine wp_seq (ld_region ?_ f s0)
    (apply ld_v; (· (first | (first | (apply yad; (· rfl); (· exact hel _); (· rfl))) | (apply yae; (· rfl); (· exact cell_view hb rfl)) | exact tq_)); (· rfl))
    (apply ld_v; (· (first | (first | (apply yad; (· rfl); (· exact hel _); (· rfl))) | (apply yae; (· rfl); (· exact cell_view hb rfl)) | exact tq_)); (· rfl))
    refine ld_nil (fun tm' w' f' s' => ?_)
    change Code.wp _ _ _ _ _
    refine wp_ret (marks_ret rfl f' s' (rv_tmp rfl) (fun w' s' => ⟨v, rfl, ?_, trivial⟩))
    have := s'.keep1
    rw [List.take_of_length_le (Nat.le_refl _)] at this
    exact this

theorem collect_sp (b : Nat) (mv : Value) (Lm : List Dt) (h : View) (hs : Ds h mv Lm) (hb : h b = some (.cells #[mv] 31)) (hlen : Lm.length ≤ 1000000) (w : World) (s : St ⟨w, h, []⟩ h [] w) :
    Calls Try.prog 95 [.func (.func 96) #[] #[.pointer (some ⟨b, 0, none⟩)]].toArray w fun e w' => ∃ v, e = .returned v ∧ St ⟨w, h, []⟩ h [rowD v Lm] w' ∧ True := by
  refine calls_enter Try.func95 rfl Try.ntmps95 rfl s ?_
  repeat' (first | (refine ycf ?_; apply ybk; (· first | (first | (apply yad; (· rfl); (· exact hel _); (· rfl))) | (apply yae; (· rfl); (· exact cell_view hb rfl))); (· rfl); (· rfl)) | refine t1_ ?_ | (refine ta_ ?_; intro _) | ((fail_if_success (refine ybi rfl ?_)); refine ybj rfl ?_ ?_ <;> (intro ht; rw [ht]; first | replace ht := of_decide_eq_true ht | replace ht := of_decide_eq_false ht | skip)) | (refine ych ?_; first | (refine ybw rfl ?_ ?_ <;> intro ht) | (refine ybx rfl ?_ ?_ <;> intro ht)))
  (refine yco (ycp Try.func100 rfl (by kernel_rfl) rfl) (appendSeq_sp b mv Lm h hs hb hlen) rfl rfl rfl ?_ ?_ ?_; (· (exact to_)); (· intro _ _ hle; (exact to_)); intro x px hle)
  repeat' (first | (refine ycf ?_; apply ybk; (· first | (first | (apply yad; (· rfl); (· exact hel _); (· rfl))) | (apply yae; (· rfl); (· exact cell_view hb rfl))); (· rfl); (· rfl)) | refine t1_ ?_ | (refine ta_ ?_; intro _) | ((fail_if_success (refine ybi rfl ?_)); refine ybj rfl ?_ ?_ <;> (intro ht; rw [ht]; first | replace ht := of_decide_eq_true ht | replace ht := of_decide_eq_false ht | skip)) | (refine ych ?_; first | (refine ybw rfl ?_ ?_ <;> intro ht) | (refine ybx rfl ?_ ?_ <;> intro ht)))
  exact nx_ret1 rfl (rv_tmp rfl) (fun w' s' => ⟨_, rfl, s', trivial⟩)

theorem values_sp (mv : Value) (Lm : List Dt) (h : View) (hs : Ds h mv Lm) (w : World) (s : St ⟨w, h, []⟩ h [] w) :
    Calls Try.prog 83 [mv].toArray w fun e w' => ∃ b, e = .returned (.func (.func 96) #[] #[.pointer (some ⟨b, 0, none⟩)]) ∧ St ⟨w, h, []⟩ (addV h b (.cells #[mv] 31 (0, 0))) [] w' ∧ h b = none := by
  obtain ⟨_, ad, cap, rfl, hcap, _⟩ := id hs
  refine calls_enter Try.func83 rfl Try.ntmps83 rfl s ?_
  repeat' (first | (refine ycf ?_; apply ybk; (· first | (first | (apply yad; (· rfl); (· exact hel _); (· rfl))) | (apply yae; (· rfl); (· exact cell_view hb rfl))); (· rfl); (· rfl)) | refine t1_ ?_ | (refine ta_ ?_; intro _) | ((fail_if_success (refine ybi rfl ?_)); refine ybj rfl ?_ ?_ <;> (intro ht; rw [ht]; first | replace ht := of_decide_eq_true ht | replace ht := of_decide_eq_false ht | skip)) | (refine ych ?_; first | (refine ybw rfl ?_ ?_ <;> intro ht) | (refine ybx rfl ?_ ?_ <;> intro ht)))
  rename_i b
  exact nx_ret1 rfl (rv_tmp rfl) (fun w' s' => ⟨b, rfl, s'.persist rfl, s'.dis b (by simp [doms, Res.blk])⟩)
end Go.Proofs.Ytkkjppeaaicgaaa
end

section
namespace Go.Proofs.Ytkkjppeaaicgaaa
open Go Go.Ck Go.Shelf Go.RowKit Go.Lib Go.Sort
set_option maxRecDepth 100000
set_option maxHeartbeats 2000000
set_option linter.unusedVariables false

theorem st_grow {w w' : World} {h : View} {L : List Res} (s : St ⟨w, h, []⟩ h L w') : ∃ q os', w' = Sort.grow (w.drewN q) os' := by
  refine ⟨w'.drawn - w.drawn, w'.heap.extract w.heap.size w'.heap.size, ?_⟩
  have e1 := s.os
  have e2 := s.tape
  have e3 := s.output
  have e4 := s.drawn
  have e5 : w'.heap = w.heap ++ w'.heap.extract w.heap.size w'.heap.size := by
    apply Array.ext_getElem?
    intro k
    have hs : w.heap.size ≤ w'.heap.size := s.size
    by_cases hk : k < w.heap.size
    · rw [Array.getElem?_append_left hk]
      exact s.keep k hk (by simp)
    · rw [Array.getElem?_append_right (by omega), Array.getElem?_extract]
      by_cases hk2 : k < w'.heap.size
      · rw [if_pos (by omega)]
        congr 1; omega
      · rw [if_neg (by omega), Array.getElem?_eq_none (by omega)]
  have e4' : w.drawn ≤ w'.drawn := e4
  obtain ⟨a1, a2, a3, a4, a5⟩ := w'
  obtain ⟨b1, b2, b3, b4, b5⟩ := w
  simp only at e1 e2 e3 e4' e5
  subst e1 e2 e3
  show World.mk _ _ _ _ _ = World.mk _ _ _ _ _
  congr 1
  show a3 = b3 + (a3 - b3)
  omega

theorem order_lays (blk off size : Nat) (w : World) : CmpLays Try.prog 84 #[] dcs 2 ordD blk off size w := fun m os dk _ x y => by
  have := order_sp x y (fun _ => none) _ (St.start (w := sortWorldK dcs 2 w blk off m dk os) (L := []) ⟨fun b o hb => (by cases hb), fun r hr => (by cases hr)⟩ (by simp [doms]) (fun b hb => rfl))
  refine this.mono ?_
  rintro e w' ⟨rfl, s'⟩
  exact ⟨rfl, st_grow s'⟩

theorem ord_lt (x y : Dt) : ltOf ordD x y = decide (x.1 < y.1 ∨ x.1 = y.1 ∧ x.2 < y.2) := by
  unfold ltOf ordD cmpI
  rw [decide_eq_decide]
  repeat' split
  all_goals omega
theorem ord_swo : Sort.SWO (ltOf ordD) where
  irrefl x := by rw [ord_lt]; simp
  trans x y z h1 h2 := by rw [ord_lt] at *; simp at *; omega
  ntrans x y z h1 h2 := by rw [ord_lt] at *; simp at *; omega

theorem holds_row {w : World} {g : Nat} {l : List Dt} {cur : Array Value} {e : TypeId} (hg : w.heap[g]? = some (.cells cur e (0, 0))) (ht : cur.toList.take (l.length * 2) = l.flatMap dcs) : HoldsK dcs 2 w g 0 l.toArray := by
  intro j hj
  rw [size_flatK] at hj
  have hj' : j < l.length * 2 := by simpa using hj
  refine ⟨?_, by simp [World.frozen?, hg]⟩
  rw [get_flatK dcs 2 l.toArray j hj]
  have hd : j / 2 < l.length := by omega
  have h1 : ((l.flatMap dcs).drop (j / 2 * 2)).take 2 = dcs l[j / 2] := flat_at dcs_len l (j / 2) hd
  have h2 : cur[j]? = (l.flatMap dcs)[j]? := by
    rw [← ht, List.getElem?_take_of_lt hj', Array.getElem?_toList]
  have h3 : (l.flatMap dcs)[j]? = (dcs l[j / 2])[j % 2]? := by
    rw [← h1, List.getElem?_take_of_lt (by omega), List.getElem?_drop]
    congr 1; omega
  simp only [World.cell?, hg, Nat.zero_add]
  simp only [Option.isSome_none, Bool.false_eq_true, if_false]
  rw [h2, h3]
  have h4 : (dcs l[j / 2])[j % 2]? = some ((dcs l[j / 2])[j % 2]!) := by
    rw [getElem!_pos _ (j % 2) (by rw [dcs_len]; omega), List.getElem?_eq_getElem]
  rw [h4]
  simp [getElem!_pos, hd]

def SortedD (l : List Dt) : Prop := l.Pairwise fun x y => ¬ ordD y x < 0

theorem flat_eq {l : List Dt} : (flatK dcs 2 l.toArray).toList = l.flatMap dcs := by
  apply List.ext_getElem?
  intro j
  by_cases hj : j < l.length * 2
  · have hd : j / 2 < l.length := by omega
    have h1 : ((l.flatMap dcs).drop (j / 2 * 2)).take 2 = dcs l[j / 2] := flat_at dcs_len l (j / 2) hd
    have h3 : (l.flatMap dcs)[j]? = (dcs l[j / 2])[j % 2]? := by
      rw [← h1, List.getElem?_take_of_lt (by omega), List.getElem?_drop]
      congr 1; omega
    have h4 : (dcs l[j / 2])[j % 2]? = some ((dcs l[j / 2])[j % 2]!) := by
      rw [getElem!_pos _ (j % 2) (by rw [dcs_len]; omega), List.getElem?_eq_getElem]
    have hs : j < (flatK dcs 2 l.toArray).size := by simpa using hj
    have := get_flatK dcs 2 l.toArray j (by simpa using hj)
    rw [getElem!_pos _ j hs] at this
    rw [h3, h4, Array.getElem?_toList, Array.getElem?_eq_getElem hs, this]
    simp [getElem!_pos, hd]
  · rw [List.getElem?_eq_none (by simp; omega), List.getElem?_eq_none]
    have : (l.flatMap dcs).length = l.length * 2 := by
      clear hj
      induction l with
      | nil => rfl
      | cons d l ih => simp [dcs_len, ih]; omega
    omega

theorem row_sorted {w : World} {g cap n : Nat} {e : TypeId} {os : Array Obj} {cur : Array Value} {l l' : List Dt} (hl : l'.length = l.length) (hb : w.heap[g]? = some (.cells cur e (0, 0))) (h1 : l.length ≤ cap) (h2 : cap ≤ maxLen) (h3 : cur.size = cap * 2) :
    (sortWorldK dcs 2 w g 0 n l'.toArray os).ownsRow 0 e 2 (.slice (some ⟨g, 0, none⟩) l.length cap) l'.length (l'.flatMap dcs) := by
  have hg : g < w.heap.size := (Array.getElem?_eq_some_iff.1 hb).1
  have hfl : (flatK dcs 2 l'.toArray).size = l'.length * 2 := by simp
  have hh : (sortWorldK dcs 2 w g 0 n l'.toArray os).heap[g]? = some (.cells (Sort.putCells id 0 (flatK dcs 2 l'.toArray) cur) e (0, 0)) := by
    unfold sortWorldK putRowK
    rw [Sort.heap_grow_old _ _ (by simpa using hg)]
    simp [Sort.putRow, Sort.mapBlock, Sort.ahead, Array.getElem?_modify, hb, Sort.onCells]
  refine ⟨?_, .inr ⟨g, cap, _, by rw [hl], Nat.zero_le _, hh, by omega, h2, by simp [Sort.putCells, h3], ?_⟩⟩
  · rw [← flat_eq]; simp
  · rw [← flat_eq]
    apply List.ext_getElem?
    intro j
    by_cases hj : j < l'.length * 2
    · have hs : j < (flatK dcs 2 l'.toArray).size := by omega
      rw [List.getElem?_take_of_lt hj, Array.getElem?_toList, Array.getElem?_toList]
      simp only [Sort.putCells, Array.getElem?_mapIdx]
      rw [Array.getElem?_eq_getElem (show j < cur.size by rw [h3]; omega), Array.getElem?_eq_getElem hs]
      simp only [Option.map_some, Nat.zero_le, Nat.zero_add, true_and, Nat.sub_zero, id]
      rw [if_pos hs, getElem!_pos _ j hs]
    · rw [List.getElem?_take_eq_none (by omega), List.getElem?_eq_none]
      simp; omega

theorem sort_sp (v : Value) (l : List Dt) (h : View) (hlen : l.length ≤ 1000000) (w : World) (s : St ⟨w, h, doms [rowD v l]⟩ h [rowD v l] w) :
    Calls Try.prog 36 [v, .func (.func 84) #[] #[]].toArray w fun e w' => ∃ l', e = .returned (.tuple #[]) ∧ St ⟨w, h, doms [rowD v l]⟩ h [rowD v l'] w' ∧ l'.Perm l ∧ SortedD l' := by
  have ho : w.ownsRow 0 39 2 v l.length (l.flatMap dcs) := s.hd.own (rowD v l) (List.mem_cons_self ..)
  rcases ho.2 with ⟨rfl, h0⟩ | ⟨g, cap, cur, rfl, _, hg, hn, hm, hs, ht⟩
  · obtain rfl : l = [] := List.eq_nil_of_length_eq_zero h0
    refine (AnyF.slices_SortFunc_none Try.sortDot none 0 _ w).mono ?_
    rintro e w' ⟨rfl, rfl⟩
    exact ⟨[], rfl, s, List.Perm.nil, List.Pairwise.nil⟩
  · have hblk : g < w.heap.size := (Array.getElem?_eq_some_iff.1 hg).1
    have eg : ∀ args w, (callFunc 84 args).run Try.prog w = .ok (.enter 84 args) w := enters_of (fn := Try.f84) rfl (by kernel_rfl) rfl
    have hcon := AnyQ.slices_SortFunc Try.sortDot 2 Try.isAgg39 Try.sizeOf39 dcs dcs_len (fun x v hv => one_dcs [x] v (by simpa using hv)) ordD ord_swo 84 #[] g 0 cap l.toArray w eg (order_lays g 0 l.toArray.size w) (holds_row hg ht) hblk (by simp; omega)
    refine hcon.mono ?_
    rintro e w' ⟨rfl, d', n, os, hp, hso, rfl⟩
    have hsz : d'.toList.length = l.length := by simpa using hp.1
    refine ⟨d'.toList, rfl, ?_, ?_, ?_⟩
    · have hr := row_sorted (n := n) (os := os) (l' := d'.toList) hsz hg hn hm hs
      rw [Array.toArray_toList] at hr
      refine St.swap (k := 0) s rfl rfl rfl rfl ?_ ?_ ?_ hr ?_ ?_
      · show w.drawn ≤ w.drawn + n
        omega
      · simp [sortWorldK, putRowK, Sort.grow, Sort.ahead]
      · intro j hj hjn
        have hjg : g ≠ j := fun e => hjn (by simp [Res.row, Value.ownBlock, e])
        unfold sortWorldK putRowK
        rw [Sort.heap_grow_old _ _ (by simpa using hj)]
        simp [Sort.putRow, Sort.mapBlock, Sort.ahead, Array.getElem?_modify, hjg]
      · simp [Res.row, Value.ownBlock]
      · intro b hb
        exact .inl hb
    · have := hp.2.2
      have e1 : (d'.extract 0 l.toArray.size).toList = d'.toList := by
        have : l.toArray.size = d'.size := by simp [← hsz]
        rw [this, Array.extract_size]
      have e2 : (l.toArray.extract 0 l.toArray.size).toList = l := by rw [Array.extract_size]
      rw [e1, e2] at this
      exact this
    · unfold SortedD
      rw [List.pairwise_iff_getElem]
      intro i j hi hj hij
      have := hso i j (Nat.zero_le _) hij (by simpa [← hsz] using hj)
      rw [getElem!_pos d' i (by simpa using hi), getElem!_pos d' j (by simpa using hj)] at this
      simpa [ltOf] using this

theorem sortedFunc_sp (b : Nat) (mv : Value) (Lm : List Dt) (h : View) (hs : Ds h mv Lm) (hb : h b = some (.cells #[mv] 31)) (hlen : Lm.length ≤ 1000000) (w : World) (s : St ⟨w, h, []⟩ h [] w) :
    Calls Try.prog 82 [.func (.func 96) #[] #[.pointer (some ⟨b, 0, none⟩)], .func (.func 84) #[] #[]].toArray w fun e w' => ∃ x : Value × List Dt, e = .returned x.1 ∧ St ⟨w, h, []⟩ h [rowD x.1 x.2] w' ∧ x.2.Perm Lm ∧ SortedD x.2 := by
  refine calls_enter Try.func82 rfl Try.ntmps82 rfl s ?_
  repeat' (first | refine tw_ ?_ | (refine ta_ ?_; intro _) | ((fail_if_success (refine ybi rfl ?_)); refine ybj rfl ?_ ?_ <;> (intro ht; rw [ht]; first | replace ht := of_decide_eq_true ht | replace ht := of_decide_eq_false ht | skip)) | (refine ych ?_; first | (refine ybw rfl ?_ ?_ <;> intro ht) | (refine ybx rfl ?_ ?_ <;> intro ht)))
  (refine yco (ycp Try.func95 rfl (by kernel_rfl) rfl) (collect_sp b mv Lm h hs hb hlen) rfl rfl rfl ?_ ?_ ?_; (· (exact to_)); (· intro _ _ hle; (exact to_)); intro x px hle)
  repeat' (first | refine tw_ ?_ | (refine ta_ ?_; intro _) | ((fail_if_success (refine ybi rfl ?_)); refine ybj rfl ?_ ?_ <;> (intro ht; rw [ht]; first | replace ht := of_decide_eq_true ht | replace ht := of_decide_eq_false ht | skip)) | (refine ych ?_; first | (refine ybw rfl ?_ ?_ <;> intro ht) | (refine ybx rfl ?_ ?_ <;> intro ht)))
  (refine rx_call_m (ycp Try.func36 rfl (by kernel_rfl) rfl) (perm_at (k := 0) rfl) (sort_sp _ Lm h hlen) rfl rfl rfl ?_ ?_ ?_; (· (exact to_)); (· intro _ _ hle; (exact to_)); intro x px hle)
  repeat' (first | refine tw_ ?_ | (refine ta_ ?_; intro _) | ((fail_if_success (refine ybi rfl ?_)); refine ybj rfl ?_ ?_ <;> (intro ht; rw [ht]; first | replace ht := of_decide_eq_true ht | replace ht := of_decide_eq_false ht | skip)) | (refine ych ?_; first | (refine ybw rfl ?_ ?_ <;> intro ht) | (refine ybx rfl ?_ ?_ <;> intro ht)))
  exact nx_ret1 rfl (rv_tmp rfl) (fun w' s' => ⟨(_, x), rfl, s', px⟩)
end Go.Proofs.Ytkkjppeaaicgaaa
end

section
namespace Go.Proofs.Ytkkjppeaaicgaaa
open Go Go.Ck
set_option maxRecDepth 100000
set_option maxHeartbeats 1000000
set_option linter.unusedVariables false

def tstep (x : List Int × List Dt) (d : Dt) : List Int × List Dt :=
  if d.2 = x.1.getD (d.1 - 1).toNat 0 + 1 then (x.1.set (d.1 - 1).toNat d.2, x.2)
  else if x.1.getD (d.1 - 1).toNat 0 < d.2 ∧ d ∉ x.2 then (x.1, x.2 ++ [d]) else x
def tfold (u : List Int) (l : List Dt) : List Int × List Dt := l.foldl tstep (u, [])
def zeroU : List Int := List.replicate 16 0

theorem list16 : ∀ u : List Int, u.length = 16 → ∃ a0 a1 a2 a3 a4 a5 a6 a7 a8 a9 a10 a11 a12 a13 a14 a15, u = [a0, a1, a2, a3, a4, a5, a6, a7, a8, a9, a10, a11, a12, a13, a14, a15]
  | [a0, a1, a2, a3, a4, a5, a6, a7, a8, a9, a10, a11, a12, a13, a14, a15], _ => ⟨a0, a1, a2, a3, a4, a5, a6, a7, a8, a9, a10, a11, a12, a13, a14, a15, rfl⟩

theorem cxc_sz {u : List Int} {x : Value} (hu : u.length = 16) : (Value.agg (cxc u x).toArray).cells.size = 17 := by
  show (cxc u x).toArray.size = 17
  simp [ycj hu]
theorem cxc_fit {u : List Int} {x : Value} (hu : u.length = 16) : 0 + (Value.agg (cxc u x).toArray).cells.size ≤ 17 := by rw [cxc_sz hu]; omega
theorem cxc_all {u : List Int} {x : Value} (hu : u.length = 16) : (Value.agg (cxc u x).toArray).cells.toList.length = 17 := by
  show (cxc u x).toArray.toList.length = 17
  simp [ycj hu]
theorem cxc_one {u : List Int} {x : Value} (hx : x.oneCell' = true) : (Value.agg (cxc u x).toArray).cells.toList.all Value.oneCell' = true := by
  show (cxc u x).toArray.toList.all Value.oneCell' = true
  simp only [cxc, up, List.all_append, List.all_map, List.all_cons, List.all_nil, hx]
  simp [Value.oneCell', List.all_eq_true]
theorem tstep_len {x : List Int × List Dt} {d : Dt} : (tstep x d).1.length = x.1.length := by
  unfold tstep; split
  · simp
  · split <;> rfl
theorem tfold_succ {u : List Int} {l : List Dt} {k : Nat} (hk : k < l.length) : tfold u (l.take (k + 1)) = tstep (tfold u (l.take k)) l[k] := by
  unfold tfold
  rw [List.take_succ_eq_append_getElem hk, List.foldl_append]
  rfl
theorem tfold_ok {u : List Int} (hu : u.length = 16) (hub : ∀ x ∈ u, 0 ≤ x ∧ x ≤ 1099511627776) {l : List Dt} (hr : ∀ d ∈ l, rightB d = true) : ∀ k, k ≤ l.length →
    (tfold u (l.take k)).1.length = 16 ∧ (∀ x ∈ (tfold u (l.take k)).1, 0 ≤ x ∧ x ≤ 1099511627776) ∧ (tfold u (l.take k)).2.length ≤ k ∧ ∀ d ∈ (tfold u (l.take k)).2, rightB d = true := by
  intro k
  induction k with
  | zero => intro _; exact ⟨hu, hub, by simp [tfold], by simp [tfold]⟩
  | succ k ih =>
    intro hk
    obtain ⟨h1, h2, h3, h4⟩ := ih (by omega)
    rw [tfold_succ (by omega)]
    have hd := hr l[k] (List.getElem_mem _)
    have hdr := right_of hd
    unfold tstep
    split
    · refine ⟨by simpa using h1, fun x hx => ?_, Nat.le_succ_of_le h3, h4⟩
      rcases List.mem_or_eq_of_mem_set hx with hx | rfl
      · exact h2 x hx
      · omega
    · split
      · refine ⟨h1, h2, by simp; omega, fun d hd' => ?_⟩
        rcases List.mem_append.1 hd' with hd' | hd'
        · exact h4 d hd'
        · have : d = l[k] := by simpa using hd'
          rw [this]; exact hd
      · exact ⟨h1, h2, by omega, h4⟩

theorem spl_cxc {u : List Int} {mv : Value} {x : Int} {i o : Nat} (ho : o = i) (hi : i < u.length) : spl (cxc u mv).toArray.toList o (Value.int .i64 x).cells.toList = cxc (u.set i x) mv := by
  subst ho
  show (up u ++ [mv]).take o ++ [Value.int .i64 x] ++ (up u ++ [mv]).drop (o + 1) = up (u.set o x) ++ [mv]
  have hl : (up u).length = u.length := by simp [up]
  rw [List.take_append_of_le_length (by omega), List.drop_append_of_le_length (by omega)]
  unfold up
  rw [List.map_set, List.set_eq_take_append_cons_drop, if_pos (by simpa using hi)]
  simp
theorem fit_cxc {u : List Int} {mv : Value} {x : Int} {i o : Nat} (hu : u.length = 16) (ho : o = i) (hi : i < u.length) : o + (Value.int .i64 x).cells.size ≤ (cxc u mv).toArray.size := by
  show o + 1 ≤ _
  simp [ycj hu]; omega

theorem spl_more {u : List Int} {mv : Value} {ad : Option Addr} {m c : Nat} (hu : u.length = 16) : spl (cxc u mv).toArray.toList 16 (Value.slice ad m c).cells.toList = cxc u (.slice ad m c) := by
  show (up u ++ [mv]).take 16 ++ [Value.slice ad m c] ++ (up u ++ [mv]).drop (16 + 1) = up u ++ [Value.slice ad m c]
  have hl : (up u).length = 16 := by simp [up, hu]
  rw [← hl, List.take_left, List.drop_eq_nil_of_le (by simp)]
  simp
theorem fit_more {u : List Int} {mv : Value} {ad : Option Addr} {m c : Nat} (hu : u.length = 16) : 0 + 16 + (Value.slice ad m c).cells.size ≤ (cxc u mv).toArray.size := by
  show 16 + 1 ≤ _
  simp [ycj hu]

theorem tidy_sp (u : List Int) (mv : Value) (Lm : List Dt) (h : View) (hu : u.length = 16) (hub : ∀ x ∈ u, 0 ≤ x ∧ x ≤ 1099511627776) (hs : Ds h mv Lm) (hr : ∀ d ∈ Lm, rightB d = true) (hlen : Lm.length ≤ 1000000) (w : World) (s : St ⟨w, h, []⟩ h [] w) :
    Calls Try.prog 62 [.agg (up u).toArray, mv].toArray w fun e w' => ∃ x : View × Value × List Dt × Int, e = .returned (.tuple #[x.2.1, .int .i64 x.2.2.2]) ∧ St ⟨w, h, []⟩ x.1 [] w' ∧ x.2.2.1.Perm Lm ∧ SortedD x.2.2.1 ∧
      (if 32 < (tfold u x.2.2.1).2.length then x.2.2.2 = 11 ∧ Cx x.1 x.2.1 zeroU [] else x.2.2.2 = 0 ∧ Cx x.1 x.2.1 (tfold u x.2.2.1).1 (tfold u x.2.2.1).2) := by
  refine calls_enter Try.func62 rfl Try.ntmps62 rfl s ?_
  have hfu : fillL (fun i : Nat => ([(0, 16), (16, 1)] : List (Nat × Nat))[i]?) (up zeroU ++ [.slice none 0 0]) [(0, .agg (up u).toArray)] = some (cxc u (.slice none 0 0)) := by
    obtain ⟨a0, a1, a2, a3, a4, a5, a6, a7, a8, a9, a10, a11, a12, a13, a14, a15, rfl⟩ := list16 u hu
    rfl
  repeat' (first | (refine ycf ?_; apply ybk; (· first | (first | (apply yad (vs := up u); (· rfl); (· exact yaz 1 rfl); (· simp [up, hu])) | (apply yax (cs := cxc u (.slice none 0 0)); (· rfl); (· exact hfu)))); (· rfl); (· rfl)) | (refine ybg 0 rfl rfl rfl (cxc_sz hu) (cxc_fit hu) (cxc_one rfl) (ybh (cxc_all hu)) rfl rfl ?_ ?_ ?_; (· (exact to_)); (· (exact to_))) | refine t1_ ?_ | (refine ta_ ?_; intro _) | ((fail_if_success (refine ybi rfl ?_)); refine ybj rfl ?_ ?_ <;> (intro ht; rw [ht]; first | replace ht := of_decide_eq_true ht | replace ht := of_decide_eq_false ht | skip)) | (refine ych ?_; first | (refine ybw rfl ?_ ?_ <;> intro ht) | (refine ybx rfl ?_ ?_ <;> intro ht)))
  (refine yco (ycp Try.func83 rfl (by kernel_rfl) rfl) (values_sp mv Lm h hs) rfl rfl rfl ?_ ?_ ?_; (· (exact to_)); (· intro _ _ hle; (exact to_)); intro x px hle)
  repeat' (first | (refine ycf ?_; apply ybk; (· first | (first | (apply yad (vs := up u); (· rfl); (· exact yaz 1 rfl); (· simp [up, hu])) | (apply yax (cs := cxc u (.slice none 0 0)); (· rfl); (· exact hfu)))); (· rfl); (· rfl)) | (refine ybg 0 rfl rfl rfl (cxc_sz hu) (cxc_fit hu) (cxc_one rfl) (ybh (cxc_all hu)) rfl rfl ?_ ?_ ?_; (· (exact to_)); (· (exact to_))) | refine t1_ ?_ | (refine ta_ ?_; intro _) | ((fail_if_success (refine ybi rfl ?_)); refine ybj rfl ?_ ?_ <;> (intro ht; rw [ht]; first | replace ht := of_decide_eq_true ht | replace ht := of_decide_eq_false ht | skip)) | (refine ych ?_; first | (refine ybw rfl ?_ ?_ <;> intro ht) | (refine ybx rfl ?_ ?_ <;> intro ht)))
  generalize hv1 : addV h x _ = h1 at *
  have hb1 : h1 x = some (.cells #[mv] 31 (0, 0)) := by rw [← hv1]; exact addV_same
  have hle1 := hle
  (refine yco (ycp Try.func82 rfl (by kernel_rfl) rfl) (sortedFunc_sp x mv Lm h1 (hs.mono hle1) hb1 hlen) rfl rfl rfl ?_ ?_ ?_; (· (exact to_)); (· intro _ _ hle; (exact to_)); intro x px hle)
  refine rx_persist rfl fun h2 hle2 hsv => ?_
  obtain ⟨v, srt⟩ := x
  obtain ⟨hperm, hsorted⟩ := px
  replace hsv : Ds h2 v srt := hsv
  obtain ⟨_, ad, cap, rfl, hcap, _⟩ := id hsv
  have hsl : srt.length = Lm.length := hperm.length_eq
  have hsr : ∀ d ∈ srt, rightB d = true := fun d hd => hr d (hperm.mem_iff.1 hd)
  repeat' (first | (refine ycf ?_; apply ybk; (· first | (first | (apply yad (vs := up u); (· rfl); (· exact yaz 1 rfl); (· simp [up, hu])) | (apply yax (cs := cxc u (.slice none 0 0)); (· rfl); (· exact hfu)))); (· rfl); (· rfl)) | (refine ybg 0 rfl rfl rfl (cxc_sz hu) (cxc_fit hu) (cxc_one rfl) (ybh (cxc_all hu)) rfl rfl ?_ ?_ ?_; (· (exact to_)); (· (exact to_))) | refine t1_ ?_ | (refine ta_ ?_; intro _) | ((fail_if_success (refine ybi rfl ?_)); refine ybj rfl ?_ ?_ <;> (intro ht; rw [ht]; first | replace ht := of_decide_eq_true ht | replace ht := of_decide_eq_false ht | skip)) | (refine ych ?_; first | (refine ybw rfl ?_ ?_ <;> intro ht) | (refine ybx rfl ?_ ?_ <;> intro ht)))
  rename_i b2 b4 b6 hlex hl1 hl2
  refine cx_row 39 2 ?_
  refine cx_loop (X := Nat × Value) (fun y => [(4, .pointer (some ⟨b4, 0, none⟩)), (5, .int .i64 0), (6, .pointer (some ⟨b6, 0, none⟩)), (14, .slice ad srt.length cap), (15, .int .i64 srt.length), (16, .int .i64 y.1)]) (fun _ => h2)
    (fun y => [Res.row 39 2 y.2 (tfold u (srt.take y.1)).2.length ((tfold u (srt.take y.1)).2.flatMap dcs), Res.blk b6 (.cells (cxc (tfold u (srt.take y.1)).1 y.2).toArray 33 (0, 0)), Res.blk b4 (.cells (cxc zeroU (.slice none 0 0)).toArray 33 (0, 0))])
    (fun y => y.1 ≤ srt.length) (fun y => srt.length - y.1) (0, .slice none 0 0) (Nat.zero_le _) ts_ (fun _ s => st_left (B := [_]) s) ?_
  rintro ⟨k, v'⟩ hk
  replace hk : k ≤ srt.length := hk
  obtain ⟨t1, t2, t3, t4⟩ := tfold_ok hu hub hsr k hk
  by_cases hkl : k < srt.length
  · have eT := tfold_succ (u := u) hkl
    dsimp only
    generalize tfold u (srt.take k) = T at t1 t2 t3 t4 eT ⊢
    obtain ⟨u1, m1⟩ := T
    dsimp only at t1 t2 t3 t4 ⊢
    have hd := hsr srt[k] (List.getElem_mem _)
    have hdr := right_of hd
    obtain ⟨bs, o, rfl⟩ := hsv.ad (by omega) (by omega)
    have hel : ∀ L, Cells h2 L ⟨bs, o + k * 2, none⟩ (dcs srt[k]) := fun L => hsv.elem dcs_len k hkl
    have hgb := t2 (u1.getD (srt[k].1 - 1).toNat 0) (getD_mem (by omega))
    repeat' (first|(refine ycf ?_;apply ybk;(·first|(first|(apply yad;(·rfl);(·exact hel _);(·rfl))|(apply qv_nilCheck;rfl))|(apply yae;(·rfl);(·(first|exact ycl (yaz 2 rfl) (srt[k].1 - 1).toNat (by omega) (by omega)|exact yck (yaz 2 rfl) t1 rfl))));(·rfl);(·rfl))|(refine ybg 2 rfl rfl rfl rfl (fit_cxc (i := (srt[k].1 - 1).toNat) t1 (by omega) (by omega)) rfl (spl_cxc (i := (srt[k].1 - 1).toNat) (by omega) (by omega)) rfl rfl ?_ ?_ ?_;(·(exact to_));(·(exact to_)))|refine t1_ ?_|(refine ta_ ?_;intro _)|((fail_if_success (refine ybi rfl ?_));refine ybj rfl ?_ ?_<;>(intro ht;rw [ht];first|replace ht := of_decide_eq_true ht|replace ht := of_decide_eq_false ht|skip))|(refine ych ?_;first|(refine ybw rfl ?_ ?_<;>intro ht)|(refine ybx rfl ?_ ?_<;>intro ht)))
    · refine cx_region_draw' rfl (by kernel_rfl) ?_
      repeat' (refine ycf ?_;(first|(first|(apply ybm;(·(first|(first|(apply yad;(·rfl);(·exact hel _);(·rfl))|(apply qv_nilCheck;rfl))|(apply yae;(·rfl);(·(first|exact ycl (yaz 2 rfl) (srt[k].1 - 1).toNat (by omega) (by omega)|exact yck (yaz 2 rfl) t1 rfl)))|exact tq_));(·rfl);(·rfl);(·(exact th_)))|refine ybl rfl rfl ?_|((fail_if_success (refine ybi rfl ?_));refine ybj rfl ?_ ?_<;>(intro ht;rw [ht];first|replace ht := of_decide_eq_true ht|replace ht := of_decide_eq_false ht|skip))|(refine tb_ ?_ ?_ ?_;(·(exact to_));(·intro _;(exact to_));intro _)|(first|(refine ybg 2 rfl rfl rfl rfl (fit_cxc (i := (srt[k].1 - 1).toNat) t1 (by omega) (by omega)) rfl (spl_cxc (i := (srt[k].1 - 1).toNat) (by omega) (by omega)) rfl rfl ?_ ?_ ?_;(·(exact to_));(·(exact to_)))|(refine tqs_ ?_ ?_ ?_;(·(exact to_));(·(exact to_))))|(apply ybn;(·(first|(first|(apply yad;(·rfl);(·exact hel _);(·rfl))|(apply qv_nilCheck;rfl))|(apply yae;(·rfl);(·(first|exact ycl (yaz 2 rfl) (srt[k].1 - 1).toNat (by omega) (by omega)|exact yck (yaz 2 rfl) t1 rfl)))|exact tq_));(·rfl);(·rfl);(·rfl);(·(exact to_))))|refine ycg ?_))
      repeat' (first|(refine ycf ?_;apply ybk;(·first|(first|(apply yad;(·rfl);(·exact hel _);(·rfl))|(apply qv_nilCheck;rfl))|(apply yae;(·rfl);(·(first|exact ycl (yaz 2 rfl) (srt[k].1 - 1).toNat (by omega) (by omega)|exact yck (yaz 2 rfl) t1 rfl))));(·rfl);(·rfl))|(refine ybg 2 rfl rfl rfl rfl (fit_cxc (i := (srt[k].1 - 1).toNat) t1 (by omega) (by omega)) rfl (spl_cxc (i := (srt[k].1 - 1).toNat) (by omega) (by omega)) rfl rfl ?_ ?_ ?_;(·(exact to_));(·(exact to_)))|refine t1_ ?_|(refine ta_ ?_;intro _)|((fail_if_success (refine ybi rfl ?_));refine ybj rfl ?_ ?_<;>(intro ht;rw [ht];first|replace ht := of_decide_eq_true ht|replace ht := of_decide_eq_false ht|skip))|(refine ych ?_;first|(refine ybw rfl ?_ ?_<;>intro ht)|(refine ybx rfl ?_ ?_<;>intro ht)))
      · have e2 : tstep (u1, m1) srt[k] = (u1.set (srt[k].1 - 1).toNat (u1.getD (srt[k].1 - 1).toNat 0 + 1), m1) := by
          unfold tstep
          rw [if_pos ht, ht]
        refine nx_round (k + 1, v') (by show k + 1 ≤ _; omega) (by show srt.length - (k + 1) < srt.length - k; omega) ts_ (fun _ s => ?_)
        dsimp only
        rw [eT, e2]
        exact s.tl
      · have hne := ht
        refine cx_region_draw' rfl (by kernel_rfl) ?_
        repeat' (refine ycf ?_;(first|(first|(apply ybm;(·(first|(first|(apply yad;(·rfl);(·exact hel _);(·rfl))|(apply qv_nilCheck;rfl))|(apply yae;(·rfl);(·(first|exact ycl (yaz 2 rfl) (srt[k].1 - 1).toNat (by omega) (by omega)|exact yck (yaz 2 rfl) t1 rfl)))|exact tq_));(·rfl);(·rfl);(·(exact th_)))|refine ybl rfl rfl ?_|((fail_if_success (refine ybi rfl ?_));refine ybj rfl ?_ ?_<;>(intro ht;rw [ht];first|replace ht := of_decide_eq_true ht|replace ht := of_decide_eq_false ht|skip))|(refine tb_ ?_ ?_ ?_;(·(exact to_));(·intro _;(exact to_));intro _)|(first|(refine ybg 2 rfl rfl rfl rfl (fit_cxc (i := (srt[k].1 - 1).toNat) t1 (by omega) (by omega)) rfl (spl_cxc (i := (srt[k].1 - 1).toNat) (by omega) (by omega)) rfl rfl ?_ ?_ ?_;(·(exact to_));(·(exact to_)))|(refine tqs_ ?_ ?_ ?_;(·(exact to_));(·(exact to_))))|(apply ybn;(·(first|(first|(apply yad;(·rfl);(·exact hel _);(·rfl))|(apply qv_nilCheck;rfl))|(apply yae;(·rfl);(·(first|exact ycl (yaz 2 rfl) (srt[k].1 - 1).toNat (by omega) (by omega)|exact yck (yaz 2 rfl) t1 rfl)))|exact tq_));(·rfl);(·rfl);(·rfl);(·(exact to_))))|refine ycg ?_))
        · have hgt := ht
          (refine rx_call_lend (u := .bool (decide (srt[k] ∈ m1))) 1 (ycp Try.func85 rfl (by kernel_rfl) rfl) rfl (fun h' _ hsc => contains_sp v' m1 srt[k] h' hsc (by omega)) rfl rfl rfl ?_ ?_; (· (exact to_)))
          by_cases hin : srt[k] ∈ m1
          · have e2 : tstep (u1, m1) srt[k] = (u1, m1) := by
              unfold tstep
              rw [if_neg hne, if_neg (fun hx => hx.2 hin)]
            have ed : decide (srt[k] ∈ m1) = true := decide_eq_true hin
            rw [ed]
            repeat' (refine ycf ?_;(first|(first|(apply ybm;(·(first|(first|(apply yad;(·rfl);(·exact hel _);(·rfl))|(apply qv_nilCheck;rfl))|(apply yae;(·rfl);(·(first|exact ycl (yaz 2 rfl) (srt[k].1 - 1).toNat (by omega) (by omega)|exact yck (yaz 2 rfl) t1 rfl)))|exact tq_));(·rfl);(·rfl);(·(exact th_)))|refine ybl rfl rfl ?_|((fail_if_success (refine ybi rfl ?_));refine ybj rfl ?_ ?_<;>(intro ht;rw [ht];first|replace ht := of_decide_eq_true ht|replace ht := of_decide_eq_false ht|skip))|(refine tb_ ?_ ?_ ?_;(·(exact to_));(·intro _;(exact to_));intro _)|(first|(refine ybg 2 rfl rfl rfl rfl (fit_cxc (i := (srt[k].1 - 1).toNat) t1 (by omega) (by omega)) rfl (spl_cxc (i := (srt[k].1 - 1).toNat) (by omega) (by omega)) rfl rfl ?_ ?_ ?_;(·(exact to_));(·(exact to_)))|(refine tqs_ ?_ ?_ ?_;(·(exact to_));(·(exact to_))))|(apply ybn;(·(first|(first|(apply yad;(·rfl);(·exact hel _);(·rfl))|(apply qv_nilCheck;rfl))|(apply yae;(·rfl);(·(first|exact ycl (yaz 2 rfl) (srt[k].1 - 1).toNat (by omega) (by omega)|exact yck (yaz 2 rfl) t1 rfl)))|exact tq_));(·rfl);(·rfl);(·rfl);(·(exact to_))))|refine ycg ?_))
            repeat' (first|(refine ycf ?_;apply ybk;(·first|(first|(apply yad;(·rfl);(·exact hel _);(·rfl))|(apply qv_nilCheck;rfl))|(apply yae;(·rfl);(·(first|exact ycl (yaz 2 rfl) (srt[k].1 - 1).toNat (by omega) (by omega)|exact yck (yaz 2 rfl) t1 rfl))));(·rfl);(·rfl))|(refine ybg 2 rfl rfl rfl rfl (fit_cxc (i := (srt[k].1 - 1).toNat) t1 (by omega) (by omega)) rfl (spl_cxc (i := (srt[k].1 - 1).toNat) (by omega) (by omega)) rfl rfl ?_ ?_ ?_;(·(exact to_));(·(exact to_)))|refine t1_ ?_|(refine ta_ ?_;intro _)|((fail_if_success (refine ybi rfl ?_));refine ybj rfl ?_ ?_<;>(intro ht;rw [ht];first|replace ht := of_decide_eq_true ht|replace ht := of_decide_eq_false ht|skip))|(refine ych ?_;first|(refine ybw rfl ?_ ?_<;>intro ht)|(refine ybx rfl ?_ ?_<;>intro ht)))
            refine nx_round (k + 1, v') (by show k + 1 ≤ _; omega) (by show srt.length - (k + 1) < srt.length - k; omega) ts_ (fun _ s => ?_)
            dsimp only
            rw [eT, e2]
            exact s.tl
          · have e2 : tstep (u1, m1) srt[k] = (u1, m1 ++ [srt[k]]) := by
              unfold tstep
              rw [if_neg hne, if_pos ⟨hgt, hin⟩]
            have ed : decide (srt[k] ∈ m1) = false := decide_eq_false hin
            rw [ed]
            repeat' (refine ycf ?_;(first|(first|(apply ybm;(·(first|(first|(apply yad;(·rfl);(·exact hel _);(·rfl))|(apply qv_nilCheck;rfl))|(apply yae;(·rfl);(·(first|exact ycl (yaz 2 rfl) (srt[k].1 - 1).toNat (by omega) (by omega)|exact yck (yaz 2 rfl) t1 rfl)))|exact tq_));(·rfl);(·rfl);(·(exact th_)))|refine ybl rfl rfl ?_|((fail_if_success (refine ybi rfl ?_));refine ybj rfl ?_ ?_<;>(intro ht;rw [ht];first|replace ht := of_decide_eq_true ht|replace ht := of_decide_eq_false ht|skip))|(refine tb_ ?_ ?_ ?_;(·(exact to_));(·intro _;(exact to_));intro _)|(first|(refine ybg 2 rfl rfl rfl rfl (fit_cxc (i := (srt[k].1 - 1).toNat) t1 (by omega) (by omega)) rfl (spl_cxc (i := (srt[k].1 - 1).toNat) (by omega) (by omega)) rfl rfl ?_ ?_ ?_;(·(exact to_));(·(exact to_)))|(refine tqs_ ?_ ?_ ?_;(·(exact to_));(·(exact to_))))|(apply ybn;(·(first|(first|(apply yad;(·rfl);(·exact hel _);(·rfl))|(apply qv_nilCheck;rfl))|(apply yae;(·rfl);(·(first|exact ycl (yaz 2 rfl) (srt[k].1 - 1).toNat (by omega) (by omega)|exact yck (yaz 2 rfl) t1 rfl)))|exact tq_));(·rfl);(·rfl);(·rfl);(·(exact to_))))|refine ycg ?_))
            repeat' (first|(refine ycf ?_;apply ybk;(·first|(first|(apply yad;(·rfl);(·exact hel _);(·rfl))|(apply qv_nilCheck;rfl))|(apply yae;(·rfl);(·(first|exact ycl (yaz 2 rfl) (srt[k].1 - 1).toNat (by omega) (by omega)|exact yck (yaz 2 rfl) t1 rfl))));(·rfl);(·rfl))|(refine ybg 2 rfl rfl rfl rfl (fit_cxc (i := (srt[k].1 - 1).toNat) t1 (by omega) (by omega)) rfl (spl_cxc (i := (srt[k].1 - 1).toNat) (by omega) (by omega)) rfl rfl ?_ ?_ ?_;(·(exact to_));(·(exact to_)))|refine t1_ ?_|(refine ta_ ?_;intro _)|((fail_if_success (refine ybi rfl ?_));refine ybj rfl ?_ ?_<;>(intro ht;rw [ht];first|replace ht := of_decide_eq_true ht|replace ht := of_decide_eq_false ht|skip))|(refine ych ?_;first|(refine ybw rfl ?_ ?_<;>intro ht)|(refine ybx rfl ?_ ?_<;>intro ht)))
            refine rx_append (sz := 2) 2 rfl rfl rfl (yaz 0 rfl) rfl (one_dcs [srt[k]]) rfl (by omega) (by unfold maxLen; omega) (by omega) rfl rfl rfl ybf (fun _ => ybf) ?_
            intro v2 _
            refine rx_rowform 2 rfl (fun _ h0 _ => (by omega)) ?_
            rintro g2 cap2 rfl
            repeat' (first|(refine ycf ?_;apply ybk;(·first|(first|(apply yad;(·rfl);(·exact hel _);(·rfl))|(apply qv_nilCheck;rfl))|(apply yae;(·rfl);(·(first|exact ycl (yaz 2 rfl) (srt[k].1 - 1).toNat (by omega) (by omega)|exact yck (yaz 2 rfl) t1 rfl))));(·rfl);(·rfl))|(refine ybg 3 rfl rfl rfl rfl (fit_more t1) rfl (spl_more t1) rfl rfl ?_ ?_ ?_;(·(exact to_));(·(exact to_)))|refine t1_ ?_|(refine ta_ ?_;intro _)|((fail_if_success (refine ybi rfl ?_));refine ybj rfl ?_ ?_<;>(intro ht;rw [ht];first|replace ht := of_decide_eq_true ht|replace ht := of_decide_eq_false ht|skip))|(refine ych ?_;first|(refine ybw rfl ?_ ?_<;>intro ht)|(refine ybx rfl ?_ ?_<;>intro ht)))
            refine nx_round (k + 1, .slice (some ⟨g2, 0, none⟩) (m1.length + 1) cap2) (by show k + 1 ≤ _; omega) (by show srt.length - (k + 1) < srt.length - k; omega) ts_ (fun _ s => ?_)
            dsimp only
            rw [eT, e2]
            dsimp only
            rw [List.length_append, List.flatMap_append]
            exact s.tl.tl
        · have e2 : tstep (u1, m1) srt[k] = (u1, m1) := by
            unfold tstep
            rw [if_neg hne, if_neg (fun hx => ht hx.1)]
          repeat' (first|(refine ycf ?_;apply ybk;(·first|(first|(apply yad;(·rfl);(·exact hel _);(·rfl))|(apply qv_nilCheck;rfl))|(apply yae;(·rfl);(·(first|exact ycl (yaz 2 rfl) (srt[k].1 - 1).toNat (by omega) (by omega)|exact yck (yaz 2 rfl) t1 rfl))));(·rfl);(·rfl))|(refine ybg 3 rfl rfl rfl rfl (fit_more t1) rfl (spl_more t1) rfl rfl ?_ ?_ ?_;(·(exact to_));(·(exact to_)))|refine t1_ ?_|(refine ta_ ?_;intro _)|((fail_if_success (refine ybi rfl ?_));refine ybj rfl ?_ ?_<;>(intro ht;rw [ht];first|replace ht := of_decide_eq_true ht|replace ht := of_decide_eq_false ht|skip))|(refine ych ?_;first|(refine ybw rfl ?_ ?_<;>intro ht)|(refine ybx rfl ?_ ?_<;>intro ht)))
          refine nx_round (k + 1, v') (by show k + 1 ≤ _; omega) (by show srt.length - (k + 1) < srt.length - k; omega) ts_ (fun _ s => ?_)
          dsimp only
          rw [eT, e2]
          exact s.tl
    all_goals omega
  · have ek : k = srt.length := by omega
    subst ek
    dsimp only
    rw [List.take_length] at t1 t2 t3 t4 ⊢
    generalize hT : tfold u srt = T at t1 t2 t3 t4 ⊢
    obtain ⟨u1, m1⟩ := T
    dsimp only at t1 t2 t3 t4 ⊢
    refine cx_persist rfl fun h3 hle3 hsm => ?_
    replace hsm : Ds h3 v' m1 := hsm
    obtain ⟨_, ad2, cap2, rfl, _, _⟩ := id hsm
    repeat' (first | (refine ycf ?_; apply ybk; (· first | (apply yad; (· rfl); (· exact yaz 0 rfl); (· exact ycj t1)) | (apply yae; (· rfl); (· exact yck (yaz 0 rfl) t1 rfl))); (· rfl); (· rfl)) | (refine ybg 1 rfl rfl rfl (cxc_sz t1) (cxc_fit t1) (cxc_one rfl) (ybh (cxc_all t1)) rfl rfl ?_ ?_ ?_; (· (exact to_)); (· (exact to_))) | refine t1_ ?_ | (refine ta_ ?_; intro _) | ((fail_if_success (refine ybi rfl ?_)); refine ybj rfl ?_ ?_ <;> (intro ht; rw [ht]; first | replace ht := of_decide_eq_true ht | replace ht := of_decide_eq_false ht | skip)) | (refine ych ?_; first | (refine ybw rfl ?_ ?_ <;> intro ht) | (refine ybx rfl ?_ ?_ <;> intro ht)))
    · omega
    · refine nx_ret2 rfl (rv_cells rfl (yaz 1 rfl) rfl) (rv_tmp rfl) (fun w' s' => ⟨(h3, cxv zeroU (.slice none 0 0), srt, 11), rfl, s'.nil, hperm, hsorted, ?_⟩)
      rw [hT, if_pos (by show 32 < m1.length; omega)]
      exact ⟨rfl, rfl, _, rfl, Sc.nil h3 2 none 0⟩
    · refine nx_ret2 rfl (rv_cells rfl (yaz 1 rfl) (cxc_all t1)) (rv_tmp rfl) (fun w' s' => ⟨(h3, cxv u1 (.slice ad2 m1.length cap2), srt, 0), rfl, s'.nil, hperm, hsorted, ?_⟩)
      rw [hT, if_neg (by show ¬ 32 < m1.length; omega)]
      exact ⟨rfl, t1, _, rfl, hsm⟩
end Go.Proofs.Ytkkjppeaaicgaaa
end
