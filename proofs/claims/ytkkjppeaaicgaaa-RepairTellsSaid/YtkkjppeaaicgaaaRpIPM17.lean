/-
  Part 17 of a proof: RpD DotV.
  Conditions: each theorem states its own.
-/
import Derived.Test.YtkkjppeaaicgaaaRpIPM16
section
namespace Go.Proofs.Ytkkjppeaaicgaaa
open Go Go.Ck
set_option maxRecDepth 100000
set_option maxHeartbeats 4000000
set_option linter.unusedVariables false

/-- the document's answers, as an argument has them -/
def Ra (h : View) (v : Value) (l : List An) : Prop := Sc h 2 v l.length (l.flatMap anc) ∧ ∀ x ∈ l, Rs h x.sv x.set
theorem Ra.mono {h h' : View} {v : Value} {l : List An} (s : Ra h v l) (hl : Le h h') : Ra h' v l := ⟨s.1.mono hl, fun x hx => (s.2 x hx).mono hl⟩
theorem tame_fits {T l : List Sb} (e : T.map Sb.a = (l.take 5).map fun x => cutA 34 60 x.a) : Fits T := by
  refine ⟨?_, fun x hx => ?_⟩
  · have := congrArg List.length e
    simp at this
    omega
  · have h2 : x.a ∈ (l.take 5).map fun x => cutA 34 60 x.a := by rw [← e]; exact List.mem_map_of_mem hx
    obtain ⟨y, _, e⟩ := List.mem_map.1 h2
    have e1 : x.l = y.l.take 34 := (congrArg (·.2.2.1) e).symm
    have e2 : x.b = y.b.take 60 := (congrArg (·.2.2.2) e).symm
    rw [e1, e2]
    simp
    omega
theorem fits_same {T I : List Sb} (e : I.map Sb.a = T.map Sb.a) (f : Fits T) : Fits I := by
  refine ⟨?_, fun x hx => ?_⟩
  · have := congrArg List.length e
    simp at this
    rw [this]
    exact f.1
  · have h2 : x.a ∈ T.map Sb.a := by rw [← e]; exact List.mem_map_of_mem hx
    obtain ⟨y, hy, e⟩ := List.mem_map.1 h2
    have e1 : x.l = y.l := (congrArg (·.2.2.1) e).symm
    have e2 : x.b = y.b := (congrArg (·.2.2.2) e).symm
    rw [e1, e2]
    exact f.2 y hy
theorem anc_one {h : View} {l : List An} (hs : ∀ x ∈ l, Ss h x.sv x.set) : ∀ u ∈ l.flatMap anc, u.oneCell' = true := fun u hu => by
  obtain ⟨x, hx, hu⟩ := List.mem_flatMap.1 hu
  obtain ⟨_, _, _, e, _⟩ := (hs x hx).1
  simp only [anc, e, List.mem_cons, List.not_mem_nil, or_false] at hu
  rcases hu with rfl | rfl <;> rfl
theorem spl_an {l : List An} {j o : Nat} {x : An} {v : Value} {S : List Sb} (hx : l[j]? = some x) (ho : o = 0 + j * 2 + 1) : spl (l.flatMap anc) o [v] = (l.set j ⟨x.fr, v, S⟩).flatMap anc := by
  subst ho
  induction l generalizing j with
  | nil => simp at hx
  | cons y l ih =>
    cases j with
    | zero =>
      have e : y = x := by simpa using hx
      subst e
      rfl
    | succ j =>
      have h1 := ih (j := j) (by simpa using hx)
      obtain ⟨q, hq⟩ : ∃ q, q = 0 + j * 2 + 1 := ⟨_, rfl⟩
      rw [← hq] at h1
      unfold spl at h1 ⊢
      simp only [List.flatMap_cons, List.set_cons_succ]
      have e1 : 0 + (j + 1) * 2 + 1 = (anc y).length + q := by rw [anc_len]; omega
      rw [e1, List.take_length_add_append, Nat.add_assoc, List.drop_length_add_append, List.append_assoc, List.append_assoc, ← List.append_assoc (List.take _ _), h1]
theorem one_an (k : Int) (ad : Option Addr) (m c : Nat) : ∀ u ∈ [Value.int .i64 k, .slice ad m c], u.oneCell' = true := fun u hu => by
  simp only [List.mem_cons, List.not_mem_nil, or_false] at hu
  rcases hu with rfl | rfl <;> rfl
/-- the row is numbered -/
def NumA (l : List An) : Prop := ∀ (i : Nat) x, l[i]? = some x → x.fr = (i : Int)
theorem lack_all {O : List An} {W : List Ab} (hw : wholeF [] (setsA O) = (W, 0)) (hn : NumA O) : ∀ (j : Nat) x, O[j]? = some x → x.set.map Sb.a = W ∨ (j : Int) ∈ lackF O := fun j x hx => by
  by_cases e : x.set.map Sb.a = W
  · exact .inl e
  · right
    unfold lackF
    rw [hw, if_pos rfl]
    refine List.mem_map.2 ⟨x, List.mem_filter.2 ⟨List.mem_of_getElem? hx, by simp [e]⟩, hn j x hx⟩
theorem lack_bd {O : List An} (hn : NumA O) : ∀ n ∈ lackF O, 0 ≤ n ∧ n < O.length := fun n h => by
  unfold lackF at h
  split at h
  · obtain ⟨x, hx, rfl⟩ := List.mem_map.1 h
    obtain ⟨i, hi, rfl⟩ := List.mem_iff_getElem.1 (List.mem_filter.1 hx).1
    rw [hn i O[i] (List.getElem?_eq_getElem hi)]
    omega
  · cases h
theorem lack_none {O : List An} {W : List Ab} (hw : wholeF [] (setsA O) = (W, 0)) (ha : ∀ x ∈ O, x.set.map Sb.a = W) : lackF O = [] := by
  unfold lackF
  rw [hw, if_pos rfl, List.filter_eq_nil_iff.2 fun x hx => by simp [ha x hx]]
  rfl
/-- when all that lack something are given the whole, they come to the same -/
theorem whole_again {O O' : List An} {W : List Ab} (hw : wholeF [] (setsA O) = (W, 0)) (hl : O'.length = O.length) (ha : ∀ x ∈ O', x.set.map Sb.a = W) : wholeF [] (setsA O') = (W, 0) := by
  have hc : checkA W = 0 := by
    have := wholeF_set (r := setsA O) (o := []) (by kernel_rfl) (by rw [hw])
    rwa [hw] at this
  refine wholeF_all hc (fun B hB => ?_) fun h0 => ?_
  · obtain ⟨x, hx, rfl⟩ := List.mem_map.1 hB
    exact ha x hx
  · have : O' = [] := List.map_eq_nil_iff.1 h0
    rw [this] at hl
    have : O = [] := List.eq_nil_of_length_eq_zero hl.symm
    rw [this] at hw
    exact (congrArg (·.1) hw).symm

theorem RepairDone_sp (lv : Value) (l : List An) (h : View) (hs : Ra h lv l) (hl : l.length ≤ 9223372036854775807) (hll : ∀ x ∈ l, x.set.length ≤ 9223372036854775807 ∧ ∀ y ∈ x.set, y.l.length ≤ 9223372036854775807 ∧ y.b.length ≤ 9223372036854775807) (w : World) (s : St ⟨w, h, []⟩ h [] w) :
    Calls Try.prog 5 [lv].toArray w fun e w' => ∃ h', e = .returned (.bool true) ∧ St ⟨w, h, []⟩ h' [] w' := by
  obtain ⟨hs, hsv⟩ := hs
  obtain ⟨_, ad, cap, rfl, hcap, _⟩ := id hs
  refine calls_enter Try.func5 rfl Try.ntmps5 rfl s ?_
  iterate 10 (first | refine t1_ ?_ | (refine ta_ ?_; intro _) | ((fail_if_success (refine ybi rfl ?_)); refine ybj rfl ?_ ?_ <;> (intro ht; rw [ht]; first | replace ht := of_decide_eq_true ht | replace ht := of_decide_eq_false ht | skip)) | (refine ych ?_; first | (refine ybw rfl ?_ ?_ <;> intro ht) | (refine ybx rfl ?_ ?_ <;> intro ht)))
  refine ybo ?_
  refine cx_cut (X := View × Value × List An) (fun y => [(3, y.2.1)]) (fun y => y.1) (fun y => [rowA y.2.1 y.2.2]) (fun y => y.2.2.length ≤ 6 ∧ Le h y.1 ∧ AnOk y.1 y.2.2 ∧ NumA y.2.2) ?_ ?_
  · --
    repeat' (first | refine tw_ ?_ | (refine ta_ ?_; intro _) | ((fail_if_success (refine ybi rfl ?_)); refine ybj rfl ?_ ?_ <;> (intro ht; rw [ht]; first | replace ht := of_decide_eq_true ht | replace ht := of_decide_eq_false ht | skip)) | (refine ych ?_; first | (refine ybw rfl ?_ ?_ <;> intro ht) | (refine ybx rfl ?_ ?_ <;> intro ht)))
    refine cx_row 50 2 ?_
    refine cx_loop (X := Nat × View × Value × List An) (fun y => [(0, .slice ad l.length cap), (3, y.2.2.1), (4, .int .i64 (y.1 : Nat))]) (fun y => y.2.1) (fun y => [rowA y.2.2.1 y.2.2.2])
      (fun y => y.1 ≤ l.length ∧ y.1 ≤ 6 ∧ y.2.2.2.length = y.1 ∧ Le h y.2.1 ∧ AnOk y.2.1 y.2.2.2 ∧ NumA y.2.2.2) (fun y => 6 - y.1) (0, h, .slice none 0 0, []) ⟨Nat.zero_le _, Nat.zero_le _, rfl, Le.refl _, fun o ho => (by cases ho), fun i x hx => (by simp at hx)⟩ ts_ (fun _ s => s) ?_
    rintro ⟨k, hk, vo, O⟩ ⟨p1, p2, p3, p4, p5, p6⟩
    dsimp only at p1 p2 p3 p4 p5 p6 ⊢
    by_cases hkl : k < l.length ∧ k < 6
    · obtain ⟨hkl, hk6⟩ := hkl
      obtain ⟨bs, o, rfl⟩ := hs.ad (by omega) (by omega)
      have hs3 := hs.mono p4
      have hel : ∀ L, Cells hk L ⟨bs, o + k * 2, none⟩ (anc l[k]) := fun L => hs3.elem anc_len k hkl
      have hxv : Rs hk l[k].sv l[k].set := (hsv _ (List.getElem_mem hkl)).mono p4
      have hlim := hll _ (List.getElem_mem hkl)
      generalize l[k] = e0 at hel hxv hlim
      obtain ⟨fr, sv, set⟩ := e0
      obtain ⟨_, ads, caps, hsv', _, _⟩ := id hxv.1
      dsimp only at hsv' hxv hlim
      subst hsv'
      have hel1 : ∀ L, CellAt hk L bs (o + k * 2 + 1) (.slice ads set.length caps) := fun L => (hel L).cell (j := 1) rfl
      repeat' (first | (refine ycf ?_; apply ybk; (· first | (exact tk_) | (apply yae; (· rfl); (· (exact hel1 _)))); (· rfl); (· rfl)) | refine t1_ ?_ | (refine ta_ ?_; intro _) | ((fail_if_success (refine ybi rfl ?_)); refine ybj rfl ?_ ?_ <;> (intro ht; rw [ht]; first | replace ht := of_decide_eq_true ht | replace ht := of_decide_eq_false ht | skip)) | (refine ych ?_; first | (refine ybw rfl ?_ ?_ <;> intro ht) | (refine ybx rfl ?_ ?_ <;> intro ht)))
      (refine yco (ycp Try.func16 rfl (by kernel_rfl) rfl) (rtame_sp _ set hk hxv hlim.1 hlim.2) rfl rfl rfl ?_ ?_ ?_; (· (exact to_)); (· intro _ _ hle; (exact to_)); intro x px hle)
      obtain ⟨h1, v1, T⟩ := x
      obtain ⟨hT, eT⟩ := px
      dsimp only at hT eT
      have hle1 : Le hk h1 := hle
      clear hle
      have fT := tame_fits eT
      (refine yco (ycp Try.func17 rfl (by kernel_rfl) rfl) (rto_sp v1 T h1 hT fT) rfl rfl rfl ?_ ?_ ?_; (· (exact to_)); (· intro _ _ hle; (exact to_)); intro x px hle)
      obtain ⟨h2, v2, I⟩ := x
      obtain ⟨hI, eI⟩ := px
      dsimp only at hI eI
      have hle2 : Le h1 h2 := hle
      clear hle
      have fI := fits_same eI fT
      obtain ⟨_, ad2, cap2, hv2, _, _⟩ := id hI.1
      subst hv2
      repeat' (first | (refine ycf ?_; apply ybk; (· first | (exact tk_) | (apply yae; (· rfl); (· (exact hel1 _)))); (· rfl); (· rfl)) | refine t1_ ?_ | (refine ta_ ?_; intro _) | ((fail_if_success (refine ybi rfl ?_)); refine ybj rfl ?_ ?_ <;> (intro ht; rw [ht]; first | replace ht := of_decide_eq_true ht | replace ht := of_decide_eq_false ht | skip)) | (refine ych ?_; first | (refine ybw rfl ?_ ?_ <;> intro ht) | (refine ybx rfl ?_ ?_ <;> intro ht)))
      refine rx_append (sz := 2) 1 rfl rfl rfl (yaz 0 rfl) rfl (one_an k ad2 I.length cap2) rfl (by omega) (by unfold maxLen; omega) (by omega) rfl rfl rfl ybf (fun _ => ybf) ?_
      intro v3 _
      repeat' (first | (refine ycf ?_; apply ybk; (· first | (exact tk_) | (apply yae; (· rfl); (· (exact hel1 _)))); (· rfl); (· rfl)) | refine t1_ ?_ | (refine ta_ ?_; intro _) | ((fail_if_success (refine ybi rfl ?_)); refine ybj rfl ?_ ?_ <;> (intro ht; rw [ht]; first | replace ht := of_decide_eq_true ht | replace ht := of_decide_eq_false ht | skip)) | (refine ych ?_; first | (refine ybw rfl ?_ ?_ <;> intro ht) | (refine ybx rfl ?_ ?_ <;> intro ht)))
      refine nx_round (k + 1, h2, v3, O ++ [⟨(k : Nat), .slice ad2 I.length cap2, I⟩]) ⟨by show k + 1 ≤ _; omega, by show k + 1 ≤ 6; omega, by show (O ++ [_]).length = _; simp [p3], p4.trans (hle1.trans hle2), ?_, ?_⟩ (by show 6 - (k + 1) < 6 - k; omega) ts_ (fun _ s => ?_)
      · intro x hx
        rcases List.mem_append.1 hx with hx | hx
        · exact p5.mono (hle1.trans hle2) x hx
        · rw [List.mem_singleton.1 hx]
          exact ⟨hI, fI⟩
      · intro i x hx
        dsimp only at hx
        rw [List.getElem?_append] at hx
        split at hx
        · exact p6 i x hx
        · rename_i hi
          have hi2 : i = k := by
            have := (List.getElem?_eq_some_iff.1 hx).1
            simp at this
            omega
          subst hi2
          have : x = ⟨(i : Nat), .slice ad2 I.length cap2, I⟩ := by
            rw [p3, Nat.sub_self] at hx
            simpa using hx.symm
          rw [this]
      · have s2 := s.tl
        dsimp only
        show St _ h2 [Res.row _ _ v3 (O ++ [_]).length ((O ++ [_]).flatMap anc)] _
        rw [List.length_append, List.flatMap_append]
        exact s2
    · --
      by_cases hk0 : k < l.length
      · have hk6 : ¬ k < 6 := fun hx => hkl ⟨hk0, hx⟩
        repeat' (first | (refine ycf ?_; apply ybk; (· first | (exact tk_) | (apply yae; (· rfl); (· (exact hel1 _)))); (· rfl); (· rfl)) | refine t1_ ?_ | (refine ta_ ?_; intro _) | ((fail_if_success (refine ybi rfl ?_)); refine ybj rfl ?_ ?_ <;> (intro ht; rw [ht]; first | replace ht := of_decide_eq_true ht | replace ht := of_decide_eq_false ht | skip)) | (refine ych ?_; first | (refine ybw rfl ?_ ?_ <;> intro ht) | (refine ybx rfl ?_ ?_ <;> intro ht)))
        exact nx_cut (hk, vo, O) ⟨by show O.length ≤ 6; omega, p4, p5, p6⟩ ts_ (fun _ s => s)
      · repeat' (first | (refine ycf ?_; apply ybk; (· first | (exact tk_) | (apply yae; (· rfl); (· (exact hel1 _)))); (· rfl); (· rfl)) | refine t1_ ?_ | (refine ta_ ?_; intro _) | ((fail_if_success (refine ybi rfl ?_)); refine ybj rfl ?_ ?_ <;> (intro ht; rw [ht]; first | replace ht := of_decide_eq_true ht | replace ht := of_decide_eq_false ht | skip)) | (refine ych ?_; first | (refine ybw rfl ?_ ?_ <;> intro ht) | (refine ybx rfl ?_ ?_ <;> intro ht)))
        exact nx_cut (hk, vo, O) ⟨by show O.length ≤ 6; omega, p4, p5, p6⟩ ts_ (fun _ s => s)
  rintro ⟨h1, vO, O⟩ ⟨q1, q2, q3, q4⟩
  dsimp only at q1 q2 q3 q4 ⊢
  refine yby ?_
  iterate 3 (first | (refine ycf ?_; apply ybk; (· first | (exact tk_) | (apply yae; (· rfl); (· (exact hel1 _)))); (· rfl); (· rfl)) | refine t1_ ?_ | (refine ta_ ?_; intro _) | ((fail_if_success (refine ybi rfl ?_)); refine ybj rfl ?_ ?_ <;> (intro ht; rw [ht]; first | replace ht := of_decide_eq_true ht | replace ht := of_decide_eq_false ht | skip)) | (refine ych ?_; first | (refine ybw rfl ?_ ?_ <;> intro ht) | (refine ybx rfl ?_ ?_ <;> intro ht)))
  refine rx_rowslice 0 rfl fun adO capO hvO => ?_
  subst hvO
  obtain ⟨⟨WA, er⟩, hW⟩ : ∃ p, p = wholeF [] (setsA O) := ⟨_, rfl⟩
  have WH := whole_sp adO capO O h1 (by omega) q3
  rw [← hW] at WH
  repeat' (first | (refine ycf ?_; apply ybk; (· first | (exact tk_) | (apply yae; (· rfl); (· (exact hel1 _)))); (· rfl); (· rfl)) | refine t1_ ?_ | (refine ta_ ?_; intro _) | ((fail_if_success (refine ybi rfl ?_)); refine ybj rfl ?_ ?_ <;> (intro ht; rw [ht]; first | replace ht := of_decide_eq_true ht | replace ht := of_decide_eq_false ht | skip)) | (refine ych ?_; first | (refine ybw rfl ?_ ?_ <;> intro ht) | (refine ybx rfl ?_ ?_ <;> intro ht)))
  (refine rx_call_m (ycp Try.func18 rfl (by kernel_rfl) rfl) (perm_at (k := 0) rfl) (WH) rfl rfl rfl ?_ ?_ ?_; (· (exact to_)); (· intro _ _ hle; (exact to_)); intro x px hle)
  obtain ⟨h2, v2, M⟩ := x
  obtain ⟨S2, E2⟩ := px
  dsimp only at S2 E2
  have hle2 : Le h1 h2 := hle
  clear hle
  have LK := lacking_sp adO capO O h2 (by omega) (q3.mono hle2)
  rw [← hW] at LK
  repeat' (first | (refine ycf ?_; apply ybk; (· first | (exact tk_) | (apply yae; (· rfl); (· (exact hel1 _)))); (· rfl); (· rfl)) | refine t1_ ?_ | (refine ta_ ?_; intro _) | ((fail_if_success (refine ybi rfl ?_)); refine ybj rfl ?_ ?_ <;> (intro ht; rw [ht]; first | replace ht := of_decide_eq_true ht | replace ht := of_decide_eq_false ht | skip)) | (refine ych ?_; first | (refine ybw rfl ?_ ?_ <;> intro ht) | (refine ybx rfl ?_ ?_ <;> intro ht)))
  (refine rx_call_m (ycp Try.func20 rfl (by kernel_rfl) rfl) (perm_at (k := 0) rfl) (LK) rfl rfl rfl ?_ ?_ ?_; (· (exact to_)); (· intro _ _ hle; (exact to_)); intro x px hle)
  obtain ⟨h3, v3, c⟩ := x
  obtain ⟨S3, E3⟩ := px
  dsimp only at S3 E3
  have hle3 : Le h2 h3 := hle
  clear hle
  by_cases he : er = 0
  · subst he
    repeat' (first | (refine ycf ?_; apply ybk; (· first | (exact tk_) | (apply yae; (· rfl); (· (exact hel1 _)))); (· rfl); (· rfl)) | refine t1_ ?_ | (refine ta_ ?_; intro _) | ((fail_if_success (refine ybi rfl ?_)); refine ybj rfl ?_ ?_ <;> (intro ht; rw [ht]; first | replace ht := of_decide_eq_true ht | replace ht := of_decide_eq_false ht | skip)) | (refine ych ?_; first | (refine ybw rfl ?_ ?_ <;> intro ht) | (refine ybx rfl ?_ ?_ <;> intro ht)))
    (refine ycn (ycp Try.func22 rfl (by kernel_rfl) rfl) (repairs_sp h3) rfl rfl rfl ?_ ?_; (· (exact to_)))
    repeat' (first | (refine ycf ?_; apply ybk; (· first | (exact tk_) | (apply yae; (· rfl); (· (exact hel1 _)))); (· rfl); (· rfl)) | refine t1_ ?_ | (refine ta_ ?_; intro _) | ((fail_if_success (refine ybi rfl ?_)); refine ybj rfl ?_ ?_ <;> (intro ht; rw [ht]; first | replace ht := of_decide_eq_true ht | replace ht := of_decide_eq_false ht | skip)) | (refine ych ?_; first | (refine ybw rfl ?_ ?_ <;> intro ht) | (refine ybx rfl ?_ ?_ <;> intro ht)))
    have hbd : ∀ n ∈ c, 0 ≤ n ∧ n < O.length := by rw [E3]; exact lack_bd q4
    have hall : ∀ (j : Nat) x, O[j]? = some x → x.set.map Sb.a = WA ∨ (j : Int) ∈ c := by rw [E3]; exact lack_all hW.symm q4
    have fM : Fits M := by
      have hc := wholeF_set (r := setsA O) (o := []) (by kernel_rfl) (by rw [← hW])
      rw [← hW] at hc
      exact fits_check (by rw [E2]; exact hc)
    have hcl : c.length ≤ O.length := by
      rw [E3]
      unfold lackF
      split
      · rw [List.length_map]; exact List.length_filter_le ..
      · exact Nat.zero_le _
    obtain ⟨_, ad2, cap2, hv2, _, _⟩ := id S2.1
    subst hv2
    obtain ⟨_, ad3, cap3, hv3, _, _⟩ := id S3
    subst hv3
    have S23 := S2.mono hle3
    refine cx_loop (X := Nat × List An) (fun y => [(3, .slice adO O.length capO), (5, .slice ad2 M.length cap2), (7, .slice ad3 c.length cap3), (9, .int .i64 (y.1 : Nat))]) (fun _ => h3) (fun y => [Res.row 50 2 (.slice adO O.length capO) O.length (y.2.flatMap anc)])
      (fun y => y.1 ≤ c.length ∧ y.2.length = O.length ∧ AnOk h3 y.2 ∧ ∀ (j : Nat) x, y.2[j]? = some x → x.set.map Sb.a = WA ∨ (j : Int) ∈ c.drop y.1) (fun y => c.length - y.1) (0, O) ⟨Nat.zero_le _, rfl, q3.mono (hle2.trans hle3), hall⟩ ts_ (fun _ s => s) ?_
    rintro ⟨k, O1⟩ ⟨p1, p2, p3, p4⟩
    dsimp only at p1 p2 p3 p4 ⊢
    by_cases hkl : k < c.length
    · refine cx_rowform 0 rfl (fun e1 e2 e3 => ?_) ?_
      · omega
      rintro g cap' hgc
      cases hgc
      obtain ⟨bs, o, rfl⟩ := S3.ad (by omega) (by omega)
      have hdr : c.drop k = c[k] :: c.drop (k + 1) := List.drop_eq_getElem_cons hkl
      have hcel : ∀ L, CellAt h3 L bs (o + k) (.int .i64 c[k]) := fun L => (S3.cells (L := L)).cell (by simp [ics, hkl])
      have hb := hbd _ (List.getElem_mem hkl)
      rw [hdr] at p4
      generalize c[k] = n0 at hcel hb p4
      obtain ⟨j0, rfl⟩ : ∃ j : Nat, n0 = (j : Int) := ⟨n0.toNat, by omega⟩
      obtain ⟨x0, hx0⟩ : ∃ x, O1[j0]? = some x := ⟨_, List.getElem?_eq_getElem (by omega)⟩
      repeat' (first|(refine ycf ?_;apply ybk;(·first|(exact tk_)|(apply yae;(·rfl);(·(first|exact hcel _|(rw [Nat.mul_one];exact hcel _)))));(·rfl);(·rfl))|(refine rx_rowstore 0 rfl rfl rfl rfl (by show 0 + (j0 : Int).toNat * 2 + 1 + 1 ≤ _;omega) rfl (spl_an (S := M) hx0 (by show 0 + (j0 : Int).toNat * 2 + 1 = _;omega)) rfl rfl ?_ ?_ ?_;(·(exact to_));(·(exact to_)))|refine t1_ ?_|(refine ta_ ?_;intro _)|((fail_if_success (refine ybi rfl ?_));refine ybj rfl ?_ ?_<;>(intro ht;rw [ht];first|replace ht := of_decide_eq_true ht|replace ht := of_decide_eq_false ht|skip))|(refine ych ?_;first|(refine ybw rfl ?_ ?_<;>intro ht)|(refine ybx rfl ?_ ?_<;>intro ht)))
      refine nx_round (k + 1, O1.set j0 ⟨x0.fr, .slice ad2 M.length cap2, M⟩) ⟨by show k + 1 ≤ _; omega, by show (O1.set _ _).length = _; rw [List.length_set]; exact p2, ?_, ?_⟩ (by show c.length - (k + 1) < c.length - k; omega) ts_ (fun _ s => s)
      · intro x hx
        rcases List.mem_or_eq_of_mem_set hx with hx | hx
        · exact p3 x hx
        · rw [hx]
          exact ⟨S23, fM⟩
      · intro j x hx
        dsimp only at hx
        rw [List.getElem?_set] at hx
        split at hx
        · rename_i ej
          rw [if_pos (by omega)] at hx
          left
          rw [← Option.some.inj hx]
          exact E2
        · rename_i ej
          rcases p4 j x hx with h4 | h4
          · exact .inl h4
          · rcases List.mem_cons.1 h4 with h4 | h4
            · exact absurd (by omega) ej
            · exact .inr h4
    · have hd0 : c.drop k = [] := List.drop_of_length_le (by omega)
      rw [hd0] at p4
      have ha : ∀ x ∈ O1, x.set.map Sb.a = WA := fun x hx => by
        obtain ⟨j, hj, rfl⟩ := List.mem_iff_getElem.1 hx
        rcases p4 j O1[j] (List.getElem?_eq_getElem hj) with h4 | h4
        · exact h4
        · cases h4
      have hW1 := whole_again hW.symm p2 ha
      have eR : rowA (.slice adO O.length capO) O1 = Res.row 50 2 (.slice adO O.length capO) O.length (O1.flatMap anc) := by
        show Res.row _ _ _ O1.length _ = _
        rw [p2]
      have LK2 := lacking_sp adO capO O1 h3 (by omega) p3
      rw [hW1, lack_none hW1 ha, p2] at LK2
      simp only [eR] at LK2
      repeat' (first|(refine ycf ?_;apply ybk;(·first|(exact tk_)|(apply yae;(·rfl);(·(first|exact hcel _|(rw [Nat.mul_one];exact hcel _)))));(·rfl);(·rfl))|(refine rx_rowstore 0 rfl rfl rfl rfl (by show 0 + (j0 : Int).toNat * 2 + 1 + 1 ≤ _;omega) rfl (spl_an (S := M) hx0 (by show 0 + (j0 : Int).toNat * 2 + 1 = _;omega)) rfl rfl ?_ ?_ ?_;(·(exact to_));(·(exact to_)))|refine t1_ ?_|(refine ta_ ?_;intro _)|((fail_if_success (refine ybi rfl ?_));refine ybj rfl ?_ ?_<;>(intro ht;rw [ht];first|replace ht := of_decide_eq_true ht|replace ht := of_decide_eq_false ht|skip))|(refine ych ?_;first|(refine ybw rfl ?_ ?_<;>intro ht)|(refine ybx rfl ?_ ?_<;>intro ht)))
      (refine rx_call_m (ycp Try.func20 rfl (by kernel_rfl) rfl) (perm_at (k := 0) rfl) (LK2) rfl rfl rfl ?_ ?_ ?_; (· (exact to_)); (· intro _ _ hle; (exact to_)); intro x px hle)
      obtain ⟨h4, v4, d⟩ := x
      obtain ⟨S4, E4⟩ := px
      dsimp only at S4 E4
      subst E4
      have hle4 : Le h3 h4 := hle
      clear hle
      obtain ⟨_, ad4, cap4, hv4, _, _⟩ := id S4
      subst hv4
      have WH2 := whole_sp adO capO O1 h4 (by omega) (p3.mono hle4)
      rw [hW1, p2] at WH2
      simp only [eR] at WH2
      repeat' (first|(refine ycf ?_;apply ybk;(·first|(exact tk_)|(apply yae;(·rfl);(·(first|exact hcel _|(rw [Nat.mul_one];exact hcel _)))));(·rfl);(·rfl))|(refine rx_rowstore 0 rfl rfl rfl rfl (by show 0 + (j0 : Int).toNat * 2 + 1 + 1 ≤ _;omega) rfl (spl_an (S := M) hx0 (by show 0 + (j0 : Int).toNat * 2 + 1 = _;omega)) rfl rfl ?_ ?_ ?_;(·(exact to_));(·(exact to_)))|refine t1_ ?_|(refine ta_ ?_;intro _)|((fail_if_success (refine ybi rfl ?_));refine ybj rfl ?_ ?_<;>(intro ht;rw [ht];first|replace ht := of_decide_eq_true ht|replace ht := of_decide_eq_false ht|skip))|(refine ych ?_;first|(refine ybw rfl ?_ ?_<;>intro ht)|(refine ybx rfl ?_ ?_<;>intro ht)))
      (refine rx_call_m (ycp Try.func18 rfl (by kernel_rfl) rfl) (perm_at (k := 0) rfl) (WH2) rfl rfl rfl ?_ ?_ ?_; (· (exact to_)); (· intro _ _ hle; (exact to_)); intro x px hle)
      obtain ⟨h5, v5, N⟩ := x
      obtain ⟨S5, E5⟩ := px
      dsimp only at S5 E5
      have hle5 : Le h4 h5 := hle
      clear hle
      have fN : Fits N := by
        have hc := wholeF_set (r := setsA O) (o := []) (by kernel_rfl) (by rw [← hW])
        rw [← hW] at hc
        exact fits_check (by rw [E5]; exact hc)
      have SM := sSame_sp v5 (.slice ad2 M.length cap2) N M h5 S5 (S23.mono (hle4.trans hle5)) (by have := fN.1; omega) (by have := fM.1; omega) (fun x hx => by have := (fN.2 x hx).1; omega) (fun x hx => by have := (fM.2 x hx).1; omega)
      rw [E5, E2, decide_eq_true rfl] at SM
      have l0 : ([] : List Int).length = 0 := rfl
      repeat' (first|(refine ycf ?_;apply ybk;(·first|(exact tk_)|(apply yae;(·rfl);(·(first|exact hcel _|(rw [Nat.mul_one];exact hcel _)))));(·rfl);(·rfl))|(refine rx_rowstore 0 rfl rfl rfl rfl (by show 0 + (j0 : Int).toNat * 2 + 1 + 1 ≤ _;omega) rfl (spl_an (S := M) hx0 (by show 0 + (j0 : Int).toNat * 2 + 1 = _;omega)) rfl rfl ?_ ?_ ?_;(·(exact to_));(·(exact to_)))|refine t1_ ?_|(refine ta_ ?_;intro _)|((fail_if_success (refine ybi rfl ?_));refine ybj rfl ?_ ?_<;>(intro ht;rw [ht];first|replace ht := of_decide_eq_true ht|replace ht := of_decide_eq_false ht|skip))|(refine ych ?_;first|(refine ybw rfl ?_ ?_<;>intro ht)|(refine ybx rfl ?_ ?_<;>intro ht)))
      (refine ycn (ycp Try.func25 rfl (by kernel_rfl) rfl) (SM) rfl rfl rfl ?_ ?_; (· (exact to_)))
      repeat' (first|(refine ycf ?_;apply ybk;(·first|(exact tk_)|(apply yae;(·rfl);(·(first|exact hcel _|(rw [Nat.mul_one];exact hcel _)))));(·rfl);(·rfl))|(refine rx_rowstore 0 rfl rfl rfl rfl (by show 0 + (j0 : Int).toNat * 2 + 1 + 1 ≤ _;omega) rfl (spl_an (S := M) hx0 (by show 0 + (j0 : Int).toNat * 2 + 1 = _;omega)) rfl rfl ?_ ?_ ?_;(·(exact to_));(·(exact to_)))|refine t1_ ?_|(refine ta_ ?_;intro _)|((fail_if_success (refine ybi rfl ?_));refine ybj rfl ?_ ?_<;>(intro ht;rw [ht];first|replace ht := of_decide_eq_true ht|replace ht := of_decide_eq_false ht|skip))|(refine ych ?_;first|(refine ybw rfl ?_ ?_<;>intro ht)|(refine ybx rfl ?_ ?_<;>intro ht)))
      exact nx_ret1 rfl (rv_tmp rfl) (fun w' s' => ⟨h, rfl, s'.nil.base⟩)
  · repeat' (first|(refine ycf ?_;apply ybk;(·first|(exact tk_)|(apply yae;(·rfl);(·(first|exact hcel _|(rw [Nat.mul_one];exact hcel _)))));(·rfl);(·rfl))|(refine rx_rowstore 0 rfl rfl rfl rfl (by show 0 + (j0 : Int).toNat * 2 + 1 + 1 ≤ _;omega) rfl (spl_an (S := M) hx0 (by show 0 + (j0 : Int).toNat * 2 + 1 = _;omega)) rfl rfl ?_ ?_ ?_;(·(exact to_));(·(exact to_)))|refine t1_ ?_|(refine ta_ ?_;intro _)|((fail_if_success (refine ybi rfl ?_));refine ybj rfl ?_ ?_<;>(intro ht;rw [ht];first|replace ht := of_decide_eq_true ht|replace ht := of_decide_eq_false ht|skip))|(refine ych ?_;first|(refine ybw rfl ?_ ?_<;>intro ht)|(refine ybx rfl ?_ ?_<;>intro ht)))
    (refine ycn (ycp Try.func22 rfl (by kernel_rfl) rfl) (repairs_sp h3) rfl rfl rfl ?_ ?_; (· (exact to_)))
    repeat' (first|(refine ycf ?_;apply ybk;(·first|(exact tk_)|(apply yae;(·rfl);(·(first|exact hcel _|(rw [Nat.mul_one];exact hcel _)))));(·rfl);(·rfl))|(refine rx_rowstore 0 rfl rfl rfl rfl (by show 0 + (j0 : Int).toNat * 2 + 1 + 1 ≤ _;omega) rfl (spl_an (S := M) hx0 (by show 0 + (j0 : Int).toNat * 2 + 1 = _;omega)) rfl rfl ?_ ?_ ?_;(·(exact to_));(·(exact to_)))|refine t1_ ?_|(refine ta_ ?_;intro _)|((fail_if_success (refine ybi rfl ?_));refine ybj rfl ?_ ?_<;>(intro ht;rw [ht];first|replace ht := of_decide_eq_true ht|replace ht := of_decide_eq_false ht|skip))|(refine ych ?_;first|(refine ybw rfl ?_ ?_<;>intro ht)|(refine ybx rfl ?_ ?_<;>intro ht)))
    (refine ycn (ycp Try.func22 rfl (by kernel_rfl) rfl) (repairs_sp h3) rfl rfl rfl ?_ ?_; (· (exact to_)))
    repeat' (first|(refine ycf ?_;apply ybk;(·first|(exact tk_)|(apply yae;(·rfl);(·(first|exact hcel _|(rw [Nat.mul_one];exact hcel _)))));(·rfl);(·rfl))|(refine rx_rowstore 0 rfl rfl rfl rfl (by show 0 + (j0 : Int).toNat * 2 + 1 + 1 ≤ _;omega) rfl (spl_an (S := M) hx0 (by show 0 + (j0 : Int).toNat * 2 + 1 = _;omega)) rfl rfl ?_ ?_ ?_;(·(exact to_));(·(exact to_)))|refine t1_ ?_|(refine ta_ ?_;intro _)|((fail_if_success (refine ybi rfl ?_));refine ybj rfl ?_ ?_<;>(intro ht;rw [ht];first|replace ht := of_decide_eq_true ht|replace ht := of_decide_eq_false ht|skip))|(refine ych ?_;first|(refine ybw rfl ?_ ?_<;>intro ht)|(refine ybx rfl ?_ ?_<;>intro ht)))
    exact nx_ret1 rfl (rv_tmp rfl) (fun w' s' => ⟨h, rfl, s'.nil.base⟩)
end Go.Proofs.Ytkkjppeaaicgaaa
end

section
namespace Go.Proofs.Ytkkjppeaaicgaaa
open Go Go.Ck
set_option maxRecDepth 100000
set_option maxHeartbeats 1000000
set_option linter.unusedVariables false

theorem ord_neg {x y : Dt} : ordD x y < 0 ↔ (x.1 < y.1 ∨ x.1 = y.1 ∧ x.2 < y.2) := by
  have := ord_lt x y
  unfold ltOf at this
  rwa [decide_eq_decide] at this

theorem refCheck_sp (cv : Value) (u : List Int) (l : List Dt) (h : View) (hc : Cx h cv u l) (hl : l.length ≤ 4611686018427387904) (w : World) (s : St ⟨w, h, []⟩ h [] w) :
    Calls Try.prog 89 [cv].toArray w fun e w' => e = .returned (.int .i64 (checkC u l)) ∧ St ⟨w, h, []⟩ h [] w' := by
  obtain ⟨hu, mv, rfl, hs⟩ := hc
  obtain ⟨_, ad, cap, rfl, hcap, _⟩ := id hs
  refine calls_enter Try.func89 rfl Try.ntmps89 rfl s ?_
  repeat' (first | refine tw_ ?_ | (refine ta_ ?_; intro _) | ((fail_if_success (refine ybi rfl ?_)); refine ybj rfl ?_ ?_ <;> (intro ht; rw [ht]; first | replace ht := of_decide_eq_true ht | replace ht := of_decide_eq_false ht | skip)) | (refine ych ?_; first | (refine ybw rfl ?_ ?_ <;> intro ht) | (refine ybx rfl ?_ ?_ <;> intro ht)))
  rename_i b
  refine cx_loop (X := Nat) (fun k => [(1, .pointer (some ⟨b, 0, none⟩)), (3, .int .i64 k)]) (fun _ => h) (fun _ => _) (fun k => k ≤ 16 ∧ ∀ j (hj : j < u.length), j < k → 0 ≤ u[j] ∧ u[j] ≤ 1099511627776) (fun k => 16 - k) 0 ⟨by omega, by omega⟩ ts_ (fun _ s => s) ?_
  rintro k ⟨hk, hok⟩
  by_cases hk16 : k < 16
  · have hku : k < u.length := by omega
    have egk : u.getD k 0 = u[k] := by simp [hku]
    repeat' (first | (refine ycf ?_; apply ybk; (· first | (apply yae; (· rfl); (· (first | exact ycl (yaz 0 rfl) k (by omega) hku)))); (· rfl); (· rfl)) | refine t1_ ?_ | (refine ta_ ?_; intro _) | ((fail_if_success (refine ybi rfl ?_)); refine ybj rfl ?_ ?_ <;> (intro ht; rw [ht]; first | replace ht := of_decide_eq_true ht | replace ht := of_decide_eq_false ht | skip)) | (refine ych ?_; first | (refine ybw rfl ?_ ?_ <;> intro ht) | (refine ybx rfl ?_ ?_ <;> intro ht)))
    · refine nx_ret1 rfl (rv_tmp rfl) (fun w' s' => ⟨?_, s'.nil⟩)
      have : upOk u = false := by
        cases hx : upOk u with
        | false => rfl
        | true => have := upOk_iff.1 hx _ (List.getElem_mem hku); omega
      simp [checkC, this]
    · refine nx_ret1 rfl (rv_tmp rfl) (fun w' s' => ⟨?_, s'.nil⟩)
      have : upOk u = false := by
        cases hx : upOk u with
        | false => rfl
        | true => have := upOk_iff.1 hx _ (List.getElem_mem hku); omega
      simp [checkC, this]
    · refine nx_round (k + 1) ⟨by omega, fun j hj hjk => ?_⟩ (by omega) ts_ (fun _ s => s)
      by_cases hjk' : j = k
      · subst hjk'; omega
      · exact hok j hj (by omega)
    · omega
  · have hup : upOk u = true := upOk_iff.2 fun x hx => by
      obtain ⟨j, hj, rfl⟩ := List.getElem_of_mem hx
      exact hok j hj (by omega)
    have hub := upOk_iff.1 hup
    repeat' (first | (refine ycf ?_; apply ybk; (· first | (apply yae; (· rfl); (· (first | exact yck (yaz 0 rfl) hu rfl)))); (· rfl); (· rfl)) | refine t1_ ?_ | (refine ta_ ?_; intro _) | ((fail_if_success (refine ybi rfl ?_)); refine ybj rfl ?_ ?_ <;> (intro ht; rw [ht]; first | replace ht := of_decide_eq_true ht | replace ht := of_decide_eq_false ht | skip)) | (refine ych ?_; first | (refine ybw rfl ?_ ?_ <;> intro ht) | (refine ybx rfl ?_ ?_ <;> intro ht)))
    · omega
    · refine nx_ret1 rfl (rv_tmp rfl) (fun w' s' => ⟨?_, s'.nil⟩)
      have : 32 < l.length := by omega
      simp [checkC, hup, this]
    have hl32 : l.length ≤ 32 := by omega
    refine cx_loop (X := Nat) (fun k => [(1, .pointer (some ⟨b, 0, none⟩)), (4, .int .i64 k)]) (fun _ => h) (fun _ => _) (fun k => k ≤ l.length ∧ ∀ j, j < k → moreB u l j = true) (fun k => l.length - k) 0 ⟨by omega, by omega⟩ ts_ (fun _ s => s) ?_
    rintro j ⟨hj, hm⟩
    by_cases hjl : j < l.length
    · obtain ⟨bs, o, rfl⟩ := hs.ad (by omega) (by omega)
      have hel : ∀ L, Cells h L ⟨bs, o + j * 2, none⟩ (dcs l[j]) := fun L => hs.elem dcs_len j hjl
      have ei : l.getD j (0, 0) = l[j] := by simp [hjl]
      have hdot := refDot_sp l[j] h
      have bad : moreB u l j = false → checkC u l = 1 := fun hM => by
        have h1 : moresOk u l = false := by
          cases hx : moresOk u l with
          | false => rfl
          | true =>
            have := List.all_eq_true.1 hx j (List.mem_range.2 hjl)
            rw [hM] at this; cases this
        have h2 : ¬ 32 < l.length := by omega
        simp [checkC, hup, h1, h2]
      have next : moreB u l j = true → ∀ i, i < j + 1 → moreB u l i = true := fun hM i hi => by
        by_cases hij : i = j
        · subst hij; exact hM
        · exact hm i (by omega)
      unfold moreB at bad next
      rw [ei] at bad next
      cases hR : rightB l[j] with
      | false =>
        rw [hR] at hdot bad
        repeat' (first | (refine ycf ?_; apply ybk; (· first | (first | (refine yad rfl (hel _) ?_; rfl)) | (apply yae; (· rfl); (· (first | exact yck (yaz 0 rfl) hu rfl)))); (· rfl); (· rfl)) | refine t1_ ?_ | (refine ta_ ?_; intro _) | ((fail_if_success (refine ybi rfl ?_)); refine ybj rfl ?_ ?_ <;> (intro ht; rw [ht]; first | replace ht := of_decide_eq_true ht | replace ht := of_decide_eq_false ht | skip)) | (refine ych ?_; first | (refine ybw rfl ?_ ?_ <;> intro ht) | (refine ybx rfl ?_ ?_ <;> intro ht)))
        · refine cx_region_draw' rfl (by kernel_rfl) ?_
          repeat' (refine ycf ?_;(first|(first|(apply ybm;(·(first|(first|(refine yad rfl (hel _) ?_;rfl))|(apply yae;(·rfl);(·(first|exact yck (yaz 0 rfl) hu rfl)))|exact tq_));(·rfl);(·rfl);(·(exact th_)))|refine ybl rfl rfl ?_|((fail_if_success (refine ybi rfl ?_));refine ybj rfl ?_ ?_<;>(intro ht;rw [ht];first|replace ht := of_decide_eq_true ht|replace ht := of_decide_eq_false ht|skip))|(refine tb_ ?_ ?_ ?_;(·(exact to_));(·intro _;(exact to_));intro _)|(first|(refine tqs_ ?_ ?_ ?_;(·(exact to_));(·(exact to_))))|(apply ybn;(·(first|(first|(refine yad rfl (hel _) ?_;rfl))|(apply yae;(·rfl);(·(first|exact yck (yaz 0 rfl) hu rfl)))|exact tq_));(·rfl);(·rfl);(·rfl);(·(exact to_))))|refine ycg ?_))
          (refine ycn (ycp Try.func88 rfl (by kernel_rfl) rfl) (hdot) rfl rfl rfl ?_ ?_; (· (exact to_)))
          repeat' (refine ycf ?_;(first|(first|(apply ybm;(·(first|(first|(refine yad rfl (hel _) ?_;rfl))|(apply yae;(·rfl);(·(first|exact yck (yaz 0 rfl) hu rfl)))|exact tq_));(·rfl);(·rfl);(·(exact th_)))|refine ybl rfl rfl ?_|((fail_if_success (refine ybi rfl ?_));refine ybj rfl ?_ ?_<;>(intro ht;rw [ht];first|replace ht := of_decide_eq_true ht|replace ht := of_decide_eq_false ht|skip))|(refine tb_ ?_ ?_ ?_;(·(exact to_));(·intro _;(exact to_));intro _)|(first|(refine tqs_ ?_ ?_ ?_;(·(exact to_));(·(exact to_))))|(apply ybn;(·(first|(first|(refine yad rfl (hel _) ?_;rfl))|(apply yae;(·rfl);(·(first|exact yck (yaz 0 rfl) hu rfl)))|exact tq_));(·rfl);(·rfl);(·rfl);(·(exact to_))))|refine ycg ?_))
          repeat' (first | (refine ycf ?_; apply ybk; (· first | (first | (refine yad rfl (hel _) ?_; rfl)) | (apply yae; (· rfl); (· (first | exact yck (yaz 0 rfl) hu rfl)))); (· rfl); (· rfl)) | refine t1_ ?_ | (refine ta_ ?_; intro _) | ((fail_if_success (refine ybi rfl ?_)); refine ybj rfl ?_ ?_ <;> (intro ht; rw [ht]; first | replace ht := of_decide_eq_true ht | replace ht := of_decide_eq_false ht | skip)) | (refine ych ?_; first | (refine ybw rfl ?_ ?_ <;> intro ht) | (refine ybx rfl ?_ ?_ <;> intro ht)))
          refine nx_ret1 rfl (rv_tmp rfl) (fun w' s' => ⟨?_, s'.nil⟩)
          rw [bad rfl]
        · omega
      | true =>
        rw [hR] at hdot bad next
        have hr' := right_of hR
        have hb := hub _ (getD_mem (u := u) (i := (l[j].1 - 1).toNat) (by omega))
        repeat' (first | (refine ycf ?_; apply ybk; (· first | (first | (refine yad rfl (hel _) ?_; rfl)) | (apply yae; (· rfl); (· (first | exact ycl (yaz 1 rfl) (l[j].1 - 1).toNat (by omega) (by omega) | exact yck (yaz 1 rfl) hu rfl | exact yck (yaz 0 rfl) hu rfl)))); (· rfl); (· rfl)) | refine t1_ ?_ | (refine ta_ ?_; intro _) | ((fail_if_success (refine ybi rfl ?_)); refine ybj rfl ?_ ?_ <;> (intro ht; rw [ht]; first | replace ht := of_decide_eq_true ht | replace ht := of_decide_eq_false ht | skip)) | (refine ych ?_; first | (refine ybw rfl ?_ ?_ <;> intro ht) | (refine ybx rfl ?_ ?_ <;> intro ht)))
        · refine cx_region_draw' rfl (by kernel_rfl) ?_
          repeat' (refine ycf ?_;(first|(first|(apply ybm;(·(first|(first|(refine yad rfl (hel _) ?_;rfl))|(apply yae;(·rfl);(·(first|exact ycl (yaz 1 rfl) (l[j].1 - 1).toNat (by omega) (by omega)|exact yck (yaz 1 rfl) hu rfl|exact yck (yaz 0 rfl) hu rfl)))|exact tq_));(·rfl);(·rfl);(·(exact th_)))|refine ybl rfl rfl ?_|((fail_if_success (refine ybi rfl ?_));refine ybj rfl ?_ ?_<;>(intro ht;rw [ht];first|replace ht := of_decide_eq_true ht|replace ht := of_decide_eq_false ht|skip))|(refine tb_ ?_ ?_ ?_;(·(exact to_));(·intro _;(exact to_));intro _)|(first|(refine tqs_ ?_ ?_ ?_;(·(exact to_));(·(exact to_))))|(apply ybn;(·(first|(first|(refine yad rfl (hel _) ?_;rfl))|(apply yae;(·rfl);(·(first|exact ycl (yaz 1 rfl) (l[j].1 - 1).toNat (by omega) (by omega)|exact yck (yaz 1 rfl) hu rfl|exact yck (yaz 0 rfl) hu rfl)))|exact tq_));(·rfl);(·rfl);(·rfl);(·(exact to_))))|refine ycg ?_))
          (refine ycn (ycp Try.func88 rfl (by kernel_rfl) rfl) (hdot) rfl rfl rfl ?_ ?_; (· (exact to_)))
          repeat' (refine ycf ?_;(first|(first|(apply ybm;(·(first|(first|(refine yad rfl (hel _) ?_;rfl))|(apply yae;(·rfl);(·(first|exact ycl (yaz 1 rfl) (l[j].1 - 1).toNat (by omega) (by omega)|exact yck (yaz 1 rfl) hu rfl|exact yck (yaz 0 rfl) hu rfl)))|exact tq_));(·rfl);(·rfl);(·(exact th_)))|refine ybl rfl rfl ?_|((fail_if_success (refine ybi rfl ?_));refine ybj rfl ?_ ?_<;>(intro ht;rw [ht];first|replace ht := of_decide_eq_true ht|replace ht := of_decide_eq_false ht|skip))|(refine tb_ ?_ ?_ ?_;(·(exact to_));(·intro _;(exact to_));intro _)|(first|(refine tqs_ ?_ ?_ ?_;(·(exact to_));(·(exact to_))))|(apply ybn;(·(first|(first|(refine yad rfl (hel _) ?_;rfl))|(apply yae;(·rfl);(·(first|exact ycl (yaz 1 rfl) (l[j].1 - 1).toNat (by omega) (by omega)|exact yck (yaz 1 rfl) hu rfl|exact yck (yaz 0 rfl) hu rfl)))|exact tq_));(·rfl);(·rfl);(·rfl);(·(exact to_))))|refine ycg ?_))
          repeat' (first | (refine ycf ?_; apply ybk; (· first | (first | (refine yad rfl (hel _) ?_; rfl)) | (apply yae; (· rfl); (· (first | exact ycl (yaz 1 rfl) (l[j].1 - 1).toNat (by omega) (by omega) | exact yck (yaz 1 rfl) hu rfl | exact yck (yaz 0 rfl) hu rfl)))); (· rfl); (· rfl)) | refine t1_ ?_ | (refine ta_ ?_; intro _) | ((fail_if_success (refine ybi rfl ?_)); refine ybj rfl ?_ ?_ <;> (intro ht; rw [ht]; first | replace ht := of_decide_eq_true ht | replace ht := of_decide_eq_false ht | skip)) | (refine ych ?_; first | (refine ybw rfl ?_ ?_ <;> intro ht) | (refine ybx rfl ?_ ?_ <;> intro ht)))
          · have hge := ht
            have hf : decide (uD u l[j] + 1 < l[j].2) = false := decide_eq_false (by unfold uD; omega)
            refine nx_ret1 rfl (rv_tmp rfl) (fun w' s' => ⟨?_, s'.nil⟩)
            rw [bad (by rw [hf, Bool.and_false, Bool.false_and])]
          · have hge := ht
            have hT : decide (uD u l[j] + 1 < l[j].2) = true := decide_eq_true (by unfold uD; omega)
            by_cases h0 : j = 0
            · subst h0
              refine cx_region_draw' rfl (by kernel_rfl) ?_
              repeat' (refine ycf ?_;(first|(first|(apply ybm;(·(first|(first|(refine yad rfl (hel _) ?_;rfl))|(apply yae;(·rfl);(·(first|exact ycl (yaz 1 rfl) (l[j].1 - 1).toNat (by omega) (by omega)|exact yck (yaz 1 rfl) hu rfl|exact yck (yaz 0 rfl) hu rfl)))|exact tq_));(·rfl);(·rfl);(·(exact th_)))|refine ybl rfl rfl ?_|((fail_if_success (refine ybi rfl ?_));refine ybj rfl ?_ ?_<;>(intro ht;rw [ht];first|replace ht := of_decide_eq_true ht|replace ht := of_decide_eq_false ht|skip))|(refine tb_ ?_ ?_ ?_;(·(exact to_));(·intro _;(exact to_));intro _)|(first|(refine tqs_ ?_ ?_ ?_;(·(exact to_));(·(exact to_))))|(apply ybn;(·(first|(first|(refine yad rfl (hel _) ?_;rfl))|(apply yae;(·rfl);(·(first|exact ycl (yaz 1 rfl) (l[j].1 - 1).toNat (by omega) (by omega)|exact yck (yaz 1 rfl) hu rfl|exact yck (yaz 0 rfl) hu rfl)))|exact tq_));(·rfl);(·rfl);(·rfl);(·(exact to_))))|refine ycg ?_))
              repeat' (first | (refine ycf ?_; apply ybk; (· first | (first | (refine yad rfl (hel _) ?_; rfl)) | (apply yae; (· rfl); (· (first | exact ycl (yaz 1 rfl) (l[j].1 - 1).toNat (by omega) (by omega) | exact yck (yaz 1 rfl) hu rfl | exact yck (yaz 0 rfl) hu rfl)))); (· rfl); (· rfl)) | refine t1_ ?_ | (refine ta_ ?_; intro _) | ((fail_if_success (refine ybi rfl ?_)); refine ybj rfl ?_ ?_ <;> (intro ht; rw [ht]; first | replace ht := of_decide_eq_true ht | replace ht := of_decide_eq_false ht | skip)) | (refine ych ?_; first | (refine ybw rfl ?_ ?_ <;> intro ht) | (refine ybx rfl ?_ ?_ <;> intro ht)))
              refine nx_round 1 ⟨by omega, next (by rw [hT]; rfl)⟩ (by omega) ts_ (fun _ s => s.tl)
            · have hel2 : ∀ L, Cells h L ⟨bs, o + (j - 1) * 2, none⟩ (dcs l[j - 1]) := fun L => hs.elem dcs_len (j - 1) (by omega)
              have ei2 : l.getD (j - 1) (0, 0) = l[j - 1] := by simp [show j - 1 < l.length by omega]
              have hjj : ((j : Int) - 1).toNat = j - 1 := by omega
              have hc0 : ∀ L, CellAt h L bs (o + ((j : Int) - 1).toNat * 2 + 0) (.int .i64 l[j - 1].1) := fun L => by rw [hjj]; exact (hel2 L).cell (j := 0) rfl
              have hc1 : ∀ L, CellAt h L bs (o + ((j : Int) - 1).toNat * 2 + 1) (.int .i64 l[j - 1].2) := fun L => by rw [hjj]; exact (hel2 L).cell (j := 1) rfl
              rw [ei2, hT, decide_eq_false h0, Bool.and_true, Bool.true_and, Bool.false_or] at next bad
              refine cx_region_draw' rfl (by kernel_rfl) ?_
              repeat' (refine ycf ?_;(first|(first|(apply ybm;(·(first|(first|(refine yad rfl (hel _) ?_;rfl))|(apply yae;(·rfl);(·(first|exact hc0 _|exact hc1 _|exact ycl (yaz 1 rfl) (l[j].1 - 1).toNat (by omega) (by omega)|exact yck (yaz 1 rfl) hu rfl)))|exact tq_));(·rfl);(·rfl);(·(exact th_)))|refine ybl rfl rfl ?_|((fail_if_success (refine ybi rfl ?_));refine ybj rfl ?_ ?_<;>(intro ht;rw [ht];first|replace ht := of_decide_eq_true ht|replace ht := of_decide_eq_false ht|skip))|(refine tb_ ?_ ?_ ?_;(·(exact to_));(·intro _;(exact to_));intro _)|(first|(refine tqs_ ?_ ?_ ?_;(·(exact to_));(·(exact to_))))|(apply ybn;(·(first|(first|(refine yad rfl (hel _) ?_;rfl))|(apply yae;(·rfl);(·(first|exact hc0 _|exact hc1 _|exact ycl (yaz 1 rfl) (l[j].1 - 1).toNat (by omega) (by omega)|exact yck (yaz 1 rfl) hu rfl)))|exact tq_));(·rfl);(·rfl);(·rfl);(·(exact to_))))|refine ycg ?_))
              · have hq := ht
                have hf : decide (ordD l[j - 1] l[j] < 0) = false := decide_eq_false (fun hx => by rw [ord_neg] at hx; omega)
                repeat' (first | (refine ycf ?_; apply ybk; (· first | (first | (refine yad rfl (hel _) ?_; rfl)) | (apply yae; (· rfl); (· (first | exact hc0 _ | exact hc1 _ | exact ycl (yaz 1 rfl) (l[j].1 - 1).toNat (by omega) (by omega) | exact yck (yaz 1 rfl) hu rfl)))); (· rfl); (· rfl)) | refine t1_ ?_ | (refine ta_ ?_; intro _) | ((fail_if_success (refine ybi rfl ?_)); refine ybj rfl ?_ ?_ <;> (intro ht; rw [ht]; first | replace ht := of_decide_eq_true ht | replace ht := of_decide_eq_false ht | skip)) | (refine ych ?_; first | (refine ybw rfl ?_ ?_ <;> intro ht) | (refine ybx rfl ?_ ?_ <;> intro ht)))
                refine nx_ret1 rfl (rv_tmp rfl) (fun w' s' => ⟨?_, s'.nil⟩)
                rw [bad hf]
              · have hq := ht
                repeat' (first | (refine ycf ?_; apply ybk; (· first | (first | (refine yad rfl (hel _) ?_; rfl)) | (apply yae; (· rfl); (· (first | exact hc0 _ | exact hc1 _ | exact ycl (yaz 1 rfl) (l[j].1 - 1).toNat (by omega) (by omega) | exact yck (yaz 1 rfl) hu rfl)))); (· rfl); (· rfl)) | refine t1_ ?_ | (refine ta_ ?_; intro _) | ((fail_if_success (refine ybi rfl ?_)); refine ybj rfl ?_ ?_ <;> (intro ht; rw [ht]; first | replace ht := of_decide_eq_true ht | replace ht := of_decide_eq_false ht | skip)) | (refine ych ?_; first | (refine ybw rfl ?_ ?_ <;> intro ht) | (refine ybx rfl ?_ ?_ <;> intro ht)))
                · have hf : decide (ordD l[j - 1] l[j] < 0) = false := decide_eq_false (fun hx => by rw [ord_neg] at hx; omega)
                  refine nx_ret1 rfl (rv_tmp rfl) (fun w' s' => ⟨?_, s'.nil⟩)
                  rw [bad hf]
                · have hf : decide (ordD l[j - 1] l[j] < 0) = true := decide_eq_true (by rw [ord_neg]; omega)
                  refine nx_round (j + 1) ⟨by omega, next hf⟩ (by omega) ts_ (fun _ s => s.tl)
              · have hq := ht
                have hf : decide (ordD l[j - 1] l[j] < 0) = true := decide_eq_true (by rw [ord_neg]; omega)
                repeat' (first | (refine ycf ?_; apply ybk; (· first | (first | (refine yad rfl (hel _) ?_; rfl)) | (apply yae; (· rfl); (· (first | exact hc0 _ | exact hc1 _ | exact ycl (yaz 1 rfl) (l[j].1 - 1).toNat (by omega) (by omega) | exact yck (yaz 1 rfl) hu rfl)))); (· rfl); (· rfl)) | refine t1_ ?_ | (refine ta_ ?_; intro _) | ((fail_if_success (refine ybi rfl ?_)); refine ybj rfl ?_ ?_ <;> (intro ht; rw [ht]; first | replace ht := of_decide_eq_true ht | replace ht := of_decide_eq_false ht | skip)) | (refine ych ?_; first | (refine ybw rfl ?_ ?_ <;> intro ht) | (refine ybx rfl ?_ ?_ <;> intro ht)))
                refine nx_round (j + 1) ⟨by omega, next hf⟩ (by omega) ts_ (fun _ s => s.tl)
              · omega
        · omega
    · --
      repeat' (first | (refine ycf ?_; apply ybk; (· first | (first | (refine yad rfl (hel _) ?_; rfl)) | (apply yae; (· rfl); (· (first | exact yck (yaz 0 rfl) hu rfl)))); (· rfl); (· rfl)) | refine t1_ ?_ | (refine ta_ ?_; intro _) | ((fail_if_success (refine ybi rfl ?_)); refine ybj rfl ?_ ?_ <;> (intro ht; rw [ht]; first | replace ht := of_decide_eq_true ht | replace ht := of_decide_eq_false ht | skip)) | (refine ych ?_; first | (refine ybw rfl ?_ ?_ <;> intro ht) | (refine ybx rfl ?_ ?_ <;> intro ht)))
      · omega
      refine nx_ret1 rfl (rv_tmp rfl) (fun w' s' => ⟨?_, s'.nil⟩)
      have h1 : moresOk u l = true := List.all_eq_true.2 fun i hi => hm i (by have := List.mem_range.1 hi; omega)
      have h2 : ¬ 32 < l.length := by omega
      simp [checkC, hup, h1, h2]
end Go.Proofs.Ytkkjppeaaicgaaa
end
