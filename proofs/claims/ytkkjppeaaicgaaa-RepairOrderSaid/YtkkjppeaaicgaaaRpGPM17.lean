/-
  Part 17 of a proof: RpD RpF RpG CkTrod CkTrodS.
  Conditions: each theorem states its own.
-/
import Derived.Deep.Slices
import Derived.Carry
import Derived.DataReads
import Derived.Test.YtkkjppeaaicgaaaRpGPM16
section
namespace Go.Proofs.Ytkkjppeaaicgaaa
open Go Go.Ck
set_option maxRecDepth 100000
set_option maxHeartbeats 4000000
set_option linter.unusedVariables false

/-- the document's answers, as an argument has them -/
def Ra (h : View) (v : Value) (l : List An) : Prop := Sc h 2 v l.length (l.flatMap anc) ∧ ∀ x ∈ l, Rs h x.sv x.set
theorem Ra.mono {h h' : View} {v : Value} {l : List An} (s : Ra h v l) (hl : Le h h') : Ra h' v l := ⟨s.1.mono hl, fun x hx => (s.2 x hx).mono hl⟩
theorem tame_fits {T l : List Sb} (e : T.map Sb.a = (l.take 5).map fun x => cutA 34 60 x.a) : Fits T := by
  refine ⟨?_, fun x hx => ?_⟩
  · have := congrArg List.length e
    simp at this
    omega
  · have h2 : x.a ∈ (l.take 5).map fun x => cutA 34 60 x.a := by rw [← e]; exact List.mem_map_of_mem hx
    obtain ⟨y, _, e⟩ := List.mem_map.1 h2
    have e1 : x.l = y.l.take 34 := (congrArg (·.2.2.1) e).symm
    have e2 : x.b = y.b.take 60 := (congrArg (·.2.2.2) e).symm
    rw [e1, e2]
    simp
    omega
theorem fits_same {T I : List Sb} (e : I.map Sb.a = T.map Sb.a) (f : Fits T) : Fits I := by
  refine ⟨?_, fun x hx => ?_⟩
  · have := congrArg List.length e
    simp at this
    rw [this]
    exact f.1
  · have h2 : x.a ∈ T.map Sb.a := by rw [← e]; exact List.mem_map_of_mem hx
    obtain ⟨y, hy, e⟩ := List.mem_map.1 h2
    have e1 : x.l = y.l := (congrArg (·.2.2.1) e).symm
    have e2 : x.b = y.b := (congrArg (·.2.2.2) e).symm
    rw [e1, e2]
    exact f.2 y hy
theorem anc_one {h : View} {l : List An} (hs : ∀ x ∈ l, Ss h x.sv x.set) : ∀ u ∈ l.flatMap anc, u.oneCell' = true := fun u hu => by
  obtain ⟨x, hx, hu⟩ := List.mem_flatMap.1 hu
  obtain ⟨_, _, _, e, _⟩ := (hs x hx).1
  simp only [anc, e, List.mem_cons, List.not_mem_nil, or_false] at hu
  rcases hu with rfl | rfl <;> rfl
theorem spl_an {l : List An} {j o : Nat} {x : An} {v : Value} {S : List Sb} (hx : l[j]? = some x) (ho : o = 0 + j * 2 + 1) : spl (l.flatMap anc) o [v] = (l.set j ⟨x.fr, v, S⟩).flatMap anc := by
  subst ho
  induction l generalizing j with
  | nil => simp at hx
  | cons y l ih =>
    cases j with
    | zero =>
      have e : y = x := by simpa using hx
      subst e
      rfl
    | succ j =>
      have h1 := ih (j := j) (by simpa using hx)
      obtain ⟨q, hq⟩ : ∃ q, q = 0 + j * 2 + 1 := ⟨_, rfl⟩
      rw [← hq] at h1
      unfold spl at h1 ⊢
      simp only [List.flatMap_cons, List.set_cons_succ]
      have e1 : 0 + (j + 1) * 2 + 1 = (anc y).length + q := by rw [anc_len]; omega
      rw [e1, List.take_length_add_append, Nat.add_assoc, List.drop_length_add_append, List.append_assoc, List.append_assoc, ← List.append_assoc (List.take _ _), h1]
theorem one_an (k : Int) (ad : Option Addr) (m c : Nat) : ∀ u ∈ [Value.int .i64 k, .slice ad m c], u.oneCell' = true := fun u hu => by
  simp only [List.mem_cons, List.not_mem_nil, or_false] at hu
  rcases hu with rfl | rfl <;> rfl
/-- the row is numbered -/
def NumA (l : List An) : Prop := ∀ (i : Nat) x, l[i]? = some x → x.fr = (i : Int)
theorem lack_all {O : List An} {W : List Ab} (hw : wholeF [] (setsA O) = (W, 0)) (hn : NumA O) : ∀ (j : Nat) x, O[j]? = some x → x.set.map Sb.a = W ∨ (j : Int) ∈ lackF O := fun j x hx => by
  by_cases e : x.set.map Sb.a = W
  · exact .inl e
  · right
    unfold lackF
    rw [hw, if_pos rfl]
    refine List.mem_map.2 ⟨x, List.mem_filter.2 ⟨List.mem_of_getElem? hx, by simp [e]⟩, hn j x hx⟩
theorem lack_bd {O : List An} (hn : NumA O) : ∀ n ∈ lackF O, 0 ≤ n ∧ n < O.length := fun n h => by
  unfold lackF at h
  split at h
  · obtain ⟨x, hx, rfl⟩ := List.mem_map.1 h
    obtain ⟨i, hi, rfl⟩ := List.mem_iff_getElem.1 (List.mem_filter.1 hx).1
    rw [hn i O[i] (List.getElem?_eq_getElem hi)]
    omega
  · cases h
theorem lack_none {O : List An} {W : List Ab} (hw : wholeF [] (setsA O) = (W, 0)) (ha : ∀ x ∈ O, x.set.map Sb.a = W) : lackF O = [] := by
  unfold lackF
  rw [hw, if_pos rfl, List.filter_eq_nil_iff.2 fun x hx => by simp [ha x hx]]
  rfl
/-- when all that lack something are given the whole, they come to the same -/
theorem whole_again {O O' : List An} {W : List Ab} (hw : wholeF [] (setsA O) = (W, 0)) (hl : O'.length = O.length) (ha : ∀ x ∈ O', x.set.map Sb.a = W) : wholeF [] (setsA O') = (W, 0) := by
  have hc : checkA W = 0 := by
    have := wholeF_set (r := setsA O) (o := []) (by kernel_rfl) (by rw [hw])
    rwa [hw] at this
  refine wholeF_all hc (fun B hB => ?_) fun h0 => ?_
  · obtain ⟨x, hx, rfl⟩ := List.mem_map.1 hB
    exact ha x hx
  · have : O' = [] := List.map_eq_nil_iff.1 h0
    rw [this] at hl
    have : O = [] := List.eq_nil_of_length_eq_zero hl.symm
    rw [this] at hw
    exact (congrArg (·.1) hw).symm

theorem RepairDone_sp (lv : Value) (l : List An) (h : View) (hs : Ra h lv l) (hl : l.length ≤ 9223372036854775807) (hll : ∀ x ∈ l, x.set.length ≤ 9223372036854775807 ∧ ∀ y ∈ x.set, y.l.length ≤ 9223372036854775807 ∧ y.b.length ≤ 9223372036854775807) (w : World) (s : St ⟨w, h, []⟩ h [] w) :
    Calls Try.prog 5 [lv].toArray w fun e w' => ∃ h', e = .returned (.bool true) ∧ St ⟨w, h, []⟩ h' [] w' := by
  obtain ⟨hs, hsv⟩ := hs
  obtain ⟨_, ad, cap, rfl, hcap, _⟩ := id hs
  refine calls_enter Try.func5 rfl Try.ntmps5 rfl s ?_
  iterate 10 (first | refine t1_ ?_ | (refine ta_ ?_; intro _) | ((fail_if_success (refine ybi rfl ?_)); refine ybj rfl ?_ ?_ <;> (intro ht; rw [ht]; first | replace ht := of_decide_eq_true ht | replace ht := of_decide_eq_false ht | skip)) | (refine ych ?_; first | (refine ybw rfl ?_ ?_ <;> intro ht) | (refine ybx rfl ?_ ?_ <;> intro ht)))
  refine ybo ?_
  refine cx_cut (X := View × Value × List An) (fun y => [(3, y.2.1)]) (fun y => y.1) (fun y => [rowA y.2.1 y.2.2]) (fun y => y.2.2.length ≤ 6 ∧ Le h y.1 ∧ AnOk y.1 y.2.2 ∧ NumA y.2.2) ?_ ?_
  · --
    repeat' (first | refine tw_ ?_ | (refine ta_ ?_; intro _) | ((fail_if_success (refine ybi rfl ?_)); refine ybj rfl ?_ ?_ <;> (intro ht; rw [ht]; first | replace ht := of_decide_eq_true ht | replace ht := of_decide_eq_false ht | skip)) | (refine ych ?_; first | (refine ybw rfl ?_ ?_ <;> intro ht) | (refine ybx rfl ?_ ?_ <;> intro ht)))
    refine cx_row 50 2 ?_
    refine cx_loop (X := Nat × View × Value × List An) (fun y => [(0, .slice ad l.length cap), (3, y.2.2.1), (4, .int .i64 (y.1 : Nat))]) (fun y => y.2.1) (fun y => [rowA y.2.2.1 y.2.2.2])
      (fun y => y.1 ≤ l.length ∧ y.1 ≤ 6 ∧ y.2.2.2.length = y.1 ∧ Le h y.2.1 ∧ AnOk y.2.1 y.2.2.2 ∧ NumA y.2.2.2) (fun y => 6 - y.1) (0, h, .slice none 0 0, []) ⟨Nat.zero_le _, Nat.zero_le _, rfl, Le.refl _, fun o ho => (by cases ho), fun i x hx => (by simp at hx)⟩ ts_ (fun _ s => s) ?_
    rintro ⟨k, hk, vo, O⟩ ⟨p1, p2, p3, p4, p5, p6⟩
    dsimp only at p1 p2 p3 p4 p5 p6 ⊢
    by_cases hkl : k < l.length ∧ k < 6
    · obtain ⟨hkl, hk6⟩ := hkl
      obtain ⟨bs, o, rfl⟩ := hs.ad (by omega) (by omega)
      have hs3 := hs.mono p4
      have hel : ∀ L, Cells hk L ⟨bs, o + k * 2, none⟩ (anc l[k]) := fun L => hs3.elem anc_len k hkl
      have hxv : Rs hk l[k].sv l[k].set := (hsv _ (List.getElem_mem hkl)).mono p4
      have hlim := hll _ (List.getElem_mem hkl)
      generalize l[k] = e0 at hel hxv hlim
      obtain ⟨fr, sv, set⟩ := e0
      obtain ⟨_, ads, caps, hsv', _, _⟩ := id hxv.1
      dsimp only at hsv' hxv hlim
      subst hsv'
      have hel1 : ∀ L, CellAt hk L bs (o + k * 2 + 1) (.slice ads set.length caps) := fun L => (hel L).cell (j := 1) rfl
      repeat' (first | (refine ycf ?_; apply ybk; (· first | (exact tk_) | (apply yae; (· rfl); (· (exact hel1 _)))); (· rfl); (· rfl)) | refine t1_ ?_ | (refine ta_ ?_; intro _) | ((fail_if_success (refine ybi rfl ?_)); refine ybj rfl ?_ ?_ <;> (intro ht; rw [ht]; first | replace ht := of_decide_eq_true ht | replace ht := of_decide_eq_false ht | skip)) | (refine ych ?_; first | (refine ybw rfl ?_ ?_ <;> intro ht) | (refine ybx rfl ?_ ?_ <;> intro ht)))
      (refine yco (ycp Try.func16 rfl (by kernel_rfl) rfl) (rtame_sp _ set hk hxv hlim.1 hlim.2) rfl rfl rfl ?_ ?_ ?_; (· (exact to_)); (· intro _ _ hle; (exact to_)); intro x px hle)
      obtain ⟨h1, v1, T⟩ := x
      obtain ⟨hT, eT⟩ := px
      dsimp only at hT eT
      have hle1 : Le hk h1 := hle
      clear hle
      have fT := tame_fits eT
      (refine yco (ycp Try.func17 rfl (by kernel_rfl) rfl) (rto_sp v1 T h1 hT fT) rfl rfl rfl ?_ ?_ ?_; (· (exact to_)); (· intro _ _ hle; (exact to_)); intro x px hle)
      obtain ⟨h2, v2, I⟩ := x
      obtain ⟨hI, eI⟩ := px
      dsimp only at hI eI
      have hle2 : Le h1 h2 := hle
      clear hle
      have fI := fits_same eI fT
      obtain ⟨_, ad2, cap2, hv2, _, _⟩ := id hI.1
      subst hv2
      repeat' (first | (refine ycf ?_; apply ybk; (· first | (exact tk_) | (apply yae; (· rfl); (· (exact hel1 _)))); (· rfl); (· rfl)) | refine t1_ ?_ | (refine ta_ ?_; intro _) | ((fail_if_success (refine ybi rfl ?_)); refine ybj rfl ?_ ?_ <;> (intro ht; rw [ht]; first | replace ht := of_decide_eq_true ht | replace ht := of_decide_eq_false ht | skip)) | (refine ych ?_; first | (refine ybw rfl ?_ ?_ <;> intro ht) | (refine ybx rfl ?_ ?_ <;> intro ht)))
      refine rx_append (sz := 2) 1 rfl rfl rfl (yaz 0 rfl) rfl (one_an k ad2 I.length cap2) rfl (by omega) (by unfold maxLen; omega) (by omega) rfl rfl rfl ybf (fun _ => ybf) ?_
      intro v3 _
      repeat' (first | (refine ycf ?_; apply ybk; (· first | (exact tk_) | (apply yae; (· rfl); (· (exact hel1 _)))); (· rfl); (· rfl)) | refine t1_ ?_ | (refine ta_ ?_; intro _) | ((fail_if_success (refine ybi rfl ?_)); refine ybj rfl ?_ ?_ <;> (intro ht; rw [ht]; first | replace ht := of_decide_eq_true ht | replace ht := of_decide_eq_false ht | skip)) | (refine ych ?_; first | (refine ybw rfl ?_ ?_ <;> intro ht) | (refine ybx rfl ?_ ?_ <;> intro ht)))
      refine nx_round (k + 1, h2, v3, O ++ [⟨(k : Nat), .slice ad2 I.length cap2, I⟩]) ⟨by show k + 1 ≤ _; omega, by show k + 1 ≤ 6; omega, by show (O ++ [_]).length = _; simp [p3], p4.trans (hle1.trans hle2), ?_, ?_⟩ (by show 6 - (k + 1) < 6 - k; omega) ts_ (fun _ s => ?_)
      · intro x hx
        rcases List.mem_append.1 hx with hx | hx
        · exact p5.mono (hle1.trans hle2) x hx
        · rw [List.mem_singleton.1 hx]
          exact ⟨hI, fI⟩
      · intro i x hx
        dsimp only at hx
        rw [List.getElem?_append] at hx
        split at hx
        · exact p6 i x hx
        · rename_i hi
          have hi2 : i = k := by
            have := (List.getElem?_eq_some_iff.1 hx).1
            simp at this
            omega
          subst hi2
          have : x = ⟨(i : Nat), .slice ad2 I.length cap2, I⟩ := by
            rw [p3, Nat.sub_self] at hx
            simpa using hx.symm
          rw [this]
      · have s2 := s.tl
        dsimp only
        show St _ h2 [Res.row _ _ v3 (O ++ [_]).length ((O ++ [_]).flatMap anc)] _
        rw [List.length_append, List.flatMap_append]
        exact s2
    · --
      by_cases hk0 : k < l.length
      · have hk6 : ¬ k < 6 := fun hx => hkl ⟨hk0, hx⟩
        repeat' (first | (refine ycf ?_; apply ybk; (· first | (exact tk_) | (apply yae; (· rfl); (· (exact hel1 _)))); (· rfl); (· rfl)) | refine t1_ ?_ | (refine ta_ ?_; intro _) | ((fail_if_success (refine ybi rfl ?_)); refine ybj rfl ?_ ?_ <;> (intro ht; rw [ht]; first | replace ht := of_decide_eq_true ht | replace ht := of_decide_eq_false ht | skip)) | (refine ych ?_; first | (refine ybw rfl ?_ ?_ <;> intro ht) | (refine ybx rfl ?_ ?_ <;> intro ht)))
        exact nx_cut (hk, vo, O) ⟨by show O.length ≤ 6; omega, p4, p5, p6⟩ ts_ (fun _ s => s)
      · repeat' (first | (refine ycf ?_; apply ybk; (· first | (exact tk_) | (apply yae; (· rfl); (· (exact hel1 _)))); (· rfl); (· rfl)) | refine t1_ ?_ | (refine ta_ ?_; intro _) | ((fail_if_success (refine ybi rfl ?_)); refine ybj rfl ?_ ?_ <;> (intro ht; rw [ht]; first | replace ht := of_decide_eq_true ht | replace ht := of_decide_eq_false ht | skip)) | (refine ych ?_; first | (refine ybw rfl ?_ ?_ <;> intro ht) | (refine ybx rfl ?_ ?_ <;> intro ht)))
        exact nx_cut (hk, vo, O) ⟨by show O.length ≤ 6; omega, p4, p5, p6⟩ ts_ (fun _ s => s)
  rintro ⟨h1, vO, O⟩ ⟨q1, q2, q3, q4⟩
  dsimp only at q1 q2 q3 q4 ⊢
  refine yby ?_
  iterate 3 (first | (refine ycf ?_; apply ybk; (· first | (exact tk_) | (apply yae; (· rfl); (· (exact hel1 _)))); (· rfl); (· rfl)) | refine t1_ ?_ | (refine ta_ ?_; intro _) | ((fail_if_success (refine ybi rfl ?_)); refine ybj rfl ?_ ?_ <;> (intro ht; rw [ht]; first | replace ht := of_decide_eq_true ht | replace ht := of_decide_eq_false ht | skip)) | (refine ych ?_; first | (refine ybw rfl ?_ ?_ <;> intro ht) | (refine ybx rfl ?_ ?_ <;> intro ht)))
  refine rx_rowslice 0 rfl fun adO capO hvO => ?_
  subst hvO
  obtain ⟨⟨WA, er⟩, hW⟩ : ∃ p, p = wholeF [] (setsA O) := ⟨_, rfl⟩
  have WH := whole_sp adO capO O h1 (by omega) q3
  rw [← hW] at WH
  repeat' (first | (refine ycf ?_; apply ybk; (· first | (exact tk_) | (apply yae; (· rfl); (· (exact hel1 _)))); (· rfl); (· rfl)) | refine t1_ ?_ | (refine ta_ ?_; intro _) | ((fail_if_success (refine ybi rfl ?_)); refine ybj rfl ?_ ?_ <;> (intro ht; rw [ht]; first | replace ht := of_decide_eq_true ht | replace ht := of_decide_eq_false ht | skip)) | (refine ych ?_; first | (refine ybw rfl ?_ ?_ <;> intro ht) | (refine ybx rfl ?_ ?_ <;> intro ht)))
  (refine rx_call_m (ycp Try.func18 rfl (by kernel_rfl) rfl) (perm_at (k := 0) rfl) (WH) rfl rfl rfl ?_ ?_ ?_; (· (exact to_)); (· intro _ _ hle; (exact to_)); intro x px hle)
  obtain ⟨h2, v2, M⟩ := x
  obtain ⟨S2, E2⟩ := px
  dsimp only at S2 E2
  have hle2 : Le h1 h2 := hle
  clear hle
  have LK := lacking_sp adO capO O h2 (by omega) (q3.mono hle2)
  rw [← hW] at LK
  repeat' (first | (refine ycf ?_; apply ybk; (· first | (exact tk_) | (apply yae; (· rfl); (· (exact hel1 _)))); (· rfl); (· rfl)) | refine t1_ ?_ | (refine ta_ ?_; intro _) | ((fail_if_success (refine ybi rfl ?_)); refine ybj rfl ?_ ?_ <;> (intro ht; rw [ht]; first | replace ht := of_decide_eq_true ht | replace ht := of_decide_eq_false ht | skip)) | (refine ych ?_; first | (refine ybw rfl ?_ ?_ <;> intro ht) | (refine ybx rfl ?_ ?_ <;> intro ht)))
  (refine rx_call_m (ycp Try.func20 rfl (by kernel_rfl) rfl) (perm_at (k := 0) rfl) (LK) rfl rfl rfl ?_ ?_ ?_; (· (exact to_)); (· intro _ _ hle; (exact to_)); intro x px hle)
  obtain ⟨h3, v3, c⟩ := x
  obtain ⟨S3, E3⟩ := px
  dsimp only at S3 E3
  have hle3 : Le h2 h3 := hle
  clear hle
  by_cases he : er = 0
  · subst he
    repeat' (first | (refine ycf ?_; apply ybk; (· first | (exact tk_) | (apply yae; (· rfl); (· (exact hel1 _)))); (· rfl); (· rfl)) | refine t1_ ?_ | (refine ta_ ?_; intro _) | ((fail_if_success (refine ybi rfl ?_)); refine ybj rfl ?_ ?_ <;> (intro ht; rw [ht]; first | replace ht := of_decide_eq_true ht | replace ht := of_decide_eq_false ht | skip)) | (refine ych ?_; first | (refine ybw rfl ?_ ?_ <;> intro ht) | (refine ybx rfl ?_ ?_ <;> intro ht)))
    (refine ycn (ycp Try.func22 rfl (by kernel_rfl) rfl) (repairs_sp h3) rfl rfl rfl ?_ ?_; (· (exact to_)))
    repeat' (first | (refine ycf ?_; apply ybk; (· first | (exact tk_) | (apply yae; (· rfl); (· (exact hel1 _)))); (· rfl); (· rfl)) | refine t1_ ?_ | (refine ta_ ?_; intro _) | ((fail_if_success (refine ybi rfl ?_)); refine ybj rfl ?_ ?_ <;> (intro ht; rw [ht]; first | replace ht := of_decide_eq_true ht | replace ht := of_decide_eq_false ht | skip)) | (refine ych ?_; first | (refine ybw rfl ?_ ?_ <;> intro ht) | (refine ybx rfl ?_ ?_ <;> intro ht)))
    have hbd : ∀ n ∈ c, 0 ≤ n ∧ n < O.length := by rw [E3]; exact lack_bd q4
    have hall : ∀ (j : Nat) x, O[j]? = some x → x.set.map Sb.a = WA ∨ (j : Int) ∈ c := by rw [E3]; exact lack_all hW.symm q4
    have fM : Fits M := by
      have hc := wholeF_set (r := setsA O) (o := []) (by kernel_rfl) (by rw [← hW])
      rw [← hW] at hc
      exact fits_check (by rw [E2]; exact hc)
    have hcl : c.length ≤ O.length := by
      rw [E3]
      unfold lackF
      split
      · rw [List.length_map]; exact List.length_filter_le ..
      · exact Nat.zero_le _
    obtain ⟨_, ad2, cap2, hv2, _, _⟩ := id S2.1
    subst hv2
    obtain ⟨_, ad3, cap3, hv3, _, _⟩ := id S3
    subst hv3
    have S23 := S2.mono hle3
    refine cx_loop (X := Nat × List An) (fun y => [(3, .slice adO O.length capO), (5, .slice ad2 M.length cap2), (7, .slice ad3 c.length cap3), (9, .int .i64 (y.1 : Nat))]) (fun _ => h3) (fun y => [Res.row 50 2 (.slice adO O.length capO) O.length (y.2.flatMap anc)])
      (fun y => y.1 ≤ c.length ∧ y.2.length = O.length ∧ AnOk h3 y.2 ∧ ∀ (j : Nat) x, y.2[j]? = some x → x.set.map Sb.a = WA ∨ (j : Int) ∈ c.drop y.1) (fun y => c.length - y.1) (0, O) ⟨Nat.zero_le _, rfl, q3.mono (hle2.trans hle3), hall⟩ ts_ (fun _ s => s) ?_
    rintro ⟨k, O1⟩ ⟨p1, p2, p3, p4⟩
    dsimp only at p1 p2 p3 p4 ⊢
    by_cases hkl : k < c.length
    · refine cx_rowform 0 rfl (fun e1 e2 e3 => ?_) ?_
      · omega
      rintro g cap' hgc
      cases hgc
      obtain ⟨bs, o, rfl⟩ := S3.ad (by omega) (by omega)
      have hdr : c.drop k = c[k] :: c.drop (k + 1) := List.drop_eq_getElem_cons hkl
      have hcel : ∀ L, CellAt h3 L bs (o + k) (.int .i64 c[k]) := fun L => (S3.cells (L := L)).cell (by simp [ics, hkl])
      have hb := hbd _ (List.getElem_mem hkl)
      rw [hdr] at p4
      generalize c[k] = n0 at hcel hb p4
      obtain ⟨j0, rfl⟩ : ∃ j : Nat, n0 = (j : Int) := ⟨n0.toNat, by omega⟩
      obtain ⟨x0, hx0⟩ : ∃ x, O1[j0]? = some x := ⟨_, List.getElem?_eq_getElem (by omega)⟩
      repeat' (first|(refine ycf ?_;apply ybk;(·first|(exact tk_)|(apply yae;(·rfl);(·(first|exact hcel _|(rw [Nat.mul_one];exact hcel _)))));(·rfl);(·rfl))|(refine rx_rowstore 0 rfl rfl rfl rfl (by show 0 + (j0 : Int).toNat * 2 + 1 + 1 ≤ _;omega) rfl (spl_an (S := M) hx0 (by show 0 + (j0 : Int).toNat * 2 + 1 = _;omega)) rfl rfl ?_ ?_ ?_;(·(exact to_));(·(exact to_)))|refine t1_ ?_|(refine ta_ ?_;intro _)|((fail_if_success (refine ybi rfl ?_));refine ybj rfl ?_ ?_<;>(intro ht;rw [ht];first|replace ht := of_decide_eq_true ht|replace ht := of_decide_eq_false ht|skip))|(refine ych ?_;first|(refine ybw rfl ?_ ?_<;>intro ht)|(refine ybx rfl ?_ ?_<;>intro ht)))
      refine nx_round (k + 1, O1.set j0 ⟨x0.fr, .slice ad2 M.length cap2, M⟩) ⟨by show k + 1 ≤ _; omega, by show (O1.set _ _).length = _; rw [List.length_set]; exact p2, ?_, ?_⟩ (by show c.length - (k + 1) < c.length - k; omega) ts_ (fun _ s => s)
      · intro x hx
        rcases List.mem_or_eq_of_mem_set hx with hx | hx
        · exact p3 x hx
        · rw [hx]
          exact ⟨S23, fM⟩
      · intro j x hx
        dsimp only at hx
        rw [List.getElem?_set] at hx
        split at hx
        · rename_i ej
          rw [if_pos (by omega)] at hx
          left
          rw [← Option.some.inj hx]
          exact E2
        · rename_i ej
          rcases p4 j x hx with h4 | h4
          · exact .inl h4
          · rcases List.mem_cons.1 h4 with h4 | h4
            · exact absurd (by omega) ej
            · exact .inr h4
    · have hd0 : c.drop k = [] := List.drop_of_length_le (by omega)
      rw [hd0] at p4
      have ha : ∀ x ∈ O1, x.set.map Sb.a = WA := fun x hx => by
        obtain ⟨j, hj, rfl⟩ := List.mem_iff_getElem.1 hx
        rcases p4 j O1[j] (List.getElem?_eq_getElem hj) with h4 | h4
        · exact h4
        · cases h4
      have hW1 := whole_again hW.symm p2 ha
      have eR : rowA (.slice adO O.length capO) O1 = Res.row 50 2 (.slice adO O.length capO) O.length (O1.flatMap anc) := by
        show Res.row _ _ _ O1.length _ = _
        rw [p2]
      have LK2 := lacking_sp adO capO O1 h3 (by omega) p3
      rw [hW1, lack_none hW1 ha, p2] at LK2
      simp only [eR] at LK2
      repeat' (first|(refine ycf ?_;apply ybk;(·first|(exact tk_)|(apply yae;(·rfl);(·(first|exact hcel _|(rw [Nat.mul_one];exact hcel _)))));(·rfl);(·rfl))|(refine rx_rowstore 0 rfl rfl rfl rfl (by show 0 + (j0 : Int).toNat * 2 + 1 + 1 ≤ _;omega) rfl (spl_an (S := M) hx0 (by show 0 + (j0 : Int).toNat * 2 + 1 = _;omega)) rfl rfl ?_ ?_ ?_;(·(exact to_));(·(exact to_)))|refine t1_ ?_|(refine ta_ ?_;intro _)|((fail_if_success (refine ybi rfl ?_));refine ybj rfl ?_ ?_<;>(intro ht;rw [ht];first|replace ht := of_decide_eq_true ht|replace ht := of_decide_eq_false ht|skip))|(refine ych ?_;first|(refine ybw rfl ?_ ?_<;>intro ht)|(refine ybx rfl ?_ ?_<;>intro ht)))
      (refine rx_call_m (ycp Try.func20 rfl (by kernel_rfl) rfl) (perm_at (k := 0) rfl) (LK2) rfl rfl rfl ?_ ?_ ?_; (· (exact to_)); (· intro _ _ hle; (exact to_)); intro x px hle)
      obtain ⟨h4, v4, d⟩ := x
      obtain ⟨S4, E4⟩ := px
      dsimp only at S4 E4
      subst E4
      have hle4 : Le h3 h4 := hle
      clear hle
      obtain ⟨_, ad4, cap4, hv4, _, _⟩ := id S4
      subst hv4
      have WH2 := whole_sp adO capO O1 h4 (by omega) (p3.mono hle4)
      rw [hW1, p2] at WH2
      simp only [eR] at WH2
      repeat' (first|(refine ycf ?_;apply ybk;(·first|(exact tk_)|(apply yae;(·rfl);(·(first|exact hcel _|(rw [Nat.mul_one];exact hcel _)))));(·rfl);(·rfl))|(refine rx_rowstore 0 rfl rfl rfl rfl (by show 0 + (j0 : Int).toNat * 2 + 1 + 1 ≤ _;omega) rfl (spl_an (S := M) hx0 (by show 0 + (j0 : Int).toNat * 2 + 1 = _;omega)) rfl rfl ?_ ?_ ?_;(·(exact to_));(·(exact to_)))|refine t1_ ?_|(refine ta_ ?_;intro _)|((fail_if_success (refine ybi rfl ?_));refine ybj rfl ?_ ?_<;>(intro ht;rw [ht];first|replace ht := of_decide_eq_true ht|replace ht := of_decide_eq_false ht|skip))|(refine ych ?_;first|(refine ybw rfl ?_ ?_<;>intro ht)|(refine ybx rfl ?_ ?_<;>intro ht)))
      (refine rx_call_m (ycp Try.func18 rfl (by kernel_rfl) rfl) (perm_at (k := 0) rfl) (WH2) rfl rfl rfl ?_ ?_ ?_; (· (exact to_)); (· intro _ _ hle; (exact to_)); intro x px hle)
      obtain ⟨h5, v5, N⟩ := x
      obtain ⟨S5, E5⟩ := px
      dsimp only at S5 E5
      have hle5 : Le h4 h5 := hle
      clear hle
      have fN : Fits N := by
        have hc := wholeF_set (r := setsA O) (o := []) (by kernel_rfl) (by rw [← hW])
        rw [← hW] at hc
        exact fits_check (by rw [E5]; exact hc)
      have SM := sSame_sp v5 (.slice ad2 M.length cap2) N M h5 S5 (S23.mono (hle4.trans hle5)) (by have := fN.1; omega) (by have := fM.1; omega) (fun x hx => by have := (fN.2 x hx).1; omega) (fun x hx => by have := (fM.2 x hx).1; omega)
      rw [E5, E2, decide_eq_true rfl] at SM
      have l0 : ([] : List Int).length = 0 := rfl
      repeat' (first|(refine ycf ?_;apply ybk;(·first|(exact tk_)|(apply yae;(·rfl);(·(first|exact hcel _|(rw [Nat.mul_one];exact hcel _)))));(·rfl);(·rfl))|(refine rx_rowstore 0 rfl rfl rfl rfl (by show 0 + (j0 : Int).toNat * 2 + 1 + 1 ≤ _;omega) rfl (spl_an (S := M) hx0 (by show 0 + (j0 : Int).toNat * 2 + 1 = _;omega)) rfl rfl ?_ ?_ ?_;(·(exact to_));(·(exact to_)))|refine t1_ ?_|(refine ta_ ?_;intro _)|((fail_if_success (refine ybi rfl ?_));refine ybj rfl ?_ ?_<;>(intro ht;rw [ht];first|replace ht := of_decide_eq_true ht|replace ht := of_decide_eq_false ht|skip))|(refine ych ?_;first|(refine ybw rfl ?_ ?_<;>intro ht)|(refine ybx rfl ?_ ?_<;>intro ht)))
      (refine ycn (ycp Try.func25 rfl (by kernel_rfl) rfl) (SM) rfl rfl rfl ?_ ?_; (· (exact to_)))
      repeat' (first|(refine ycf ?_;apply ybk;(·first|(exact tk_)|(apply yae;(·rfl);(·(first|exact hcel _|(rw [Nat.mul_one];exact hcel _)))));(·rfl);(·rfl))|(refine rx_rowstore 0 rfl rfl rfl rfl (by show 0 + (j0 : Int).toNat * 2 + 1 + 1 ≤ _;omega) rfl (spl_an (S := M) hx0 (by show 0 + (j0 : Int).toNat * 2 + 1 = _;omega)) rfl rfl ?_ ?_ ?_;(·(exact to_));(·(exact to_)))|refine t1_ ?_|(refine ta_ ?_;intro _)|((fail_if_success (refine ybi rfl ?_));refine ybj rfl ?_ ?_<;>(intro ht;rw [ht];first|replace ht := of_decide_eq_true ht|replace ht := of_decide_eq_false ht|skip))|(refine ych ?_;first|(refine ybw rfl ?_ ?_<;>intro ht)|(refine ybx rfl ?_ ?_<;>intro ht)))
      exact nx_ret1 rfl (rv_tmp rfl) (fun w' s' => ⟨h, rfl, s'.nil.base⟩)
  · repeat' (first|(refine ycf ?_;apply ybk;(·first|(exact tk_)|(apply yae;(·rfl);(·(first|exact hcel _|(rw [Nat.mul_one];exact hcel _)))));(·rfl);(·rfl))|(refine rx_rowstore 0 rfl rfl rfl rfl (by show 0 + (j0 : Int).toNat * 2 + 1 + 1 ≤ _;omega) rfl (spl_an (S := M) hx0 (by show 0 + (j0 : Int).toNat * 2 + 1 = _;omega)) rfl rfl ?_ ?_ ?_;(·(exact to_));(·(exact to_)))|refine t1_ ?_|(refine ta_ ?_;intro _)|((fail_if_success (refine ybi rfl ?_));refine ybj rfl ?_ ?_<;>(intro ht;rw [ht];first|replace ht := of_decide_eq_true ht|replace ht := of_decide_eq_false ht|skip))|(refine ych ?_;first|(refine ybw rfl ?_ ?_<;>intro ht)|(refine ybx rfl ?_ ?_<;>intro ht)))
    (refine ycn (ycp Try.func22 rfl (by kernel_rfl) rfl) (repairs_sp h3) rfl rfl rfl ?_ ?_; (· (exact to_)))
    repeat' (first|(refine ycf ?_;apply ybk;(·first|(exact tk_)|(apply yae;(·rfl);(·(first|exact hcel _|(rw [Nat.mul_one];exact hcel _)))));(·rfl);(·rfl))|(refine rx_rowstore 0 rfl rfl rfl rfl (by show 0 + (j0 : Int).toNat * 2 + 1 + 1 ≤ _;omega) rfl (spl_an (S := M) hx0 (by show 0 + (j0 : Int).toNat * 2 + 1 = _;omega)) rfl rfl ?_ ?_ ?_;(·(exact to_));(·(exact to_)))|refine t1_ ?_|(refine ta_ ?_;intro _)|((fail_if_success (refine ybi rfl ?_));refine ybj rfl ?_ ?_<;>(intro ht;rw [ht];first|replace ht := of_decide_eq_true ht|replace ht := of_decide_eq_false ht|skip))|(refine ych ?_;first|(refine ybw rfl ?_ ?_<;>intro ht)|(refine ybx rfl ?_ ?_<;>intro ht)))
    (refine ycn (ycp Try.func22 rfl (by kernel_rfl) rfl) (repairs_sp h3) rfl rfl rfl ?_ ?_; (· (exact to_)))
    repeat' (first|(refine ycf ?_;apply ybk;(·first|(exact tk_)|(apply yae;(·rfl);(·(first|exact hcel _|(rw [Nat.mul_one];exact hcel _)))));(·rfl);(·rfl))|(refine rx_rowstore 0 rfl rfl rfl rfl (by show 0 + (j0 : Int).toNat * 2 + 1 + 1 ≤ _;omega) rfl (spl_an (S := M) hx0 (by show 0 + (j0 : Int).toNat * 2 + 1 = _;omega)) rfl rfl ?_ ?_ ?_;(·(exact to_));(·(exact to_)))|refine t1_ ?_|(refine ta_ ?_;intro _)|((fail_if_success (refine ybi rfl ?_));refine ybj rfl ?_ ?_<;>(intro ht;rw [ht];first|replace ht := of_decide_eq_true ht|replace ht := of_decide_eq_false ht|skip))|(refine ych ?_;first|(refine ybw rfl ?_ ?_<;>intro ht)|(refine ybx rfl ?_ ?_<;>intro ht)))
    exact nx_ret1 rfl (rv_tmp rfl) (fun w' s' => ⟨h, rfl, s'.nil.base⟩)
end Go.Proofs.Ytkkjppeaaicgaaa
end

section
namespace Go.Proofs.Ytkkjppeaaicgaaa
open Go Go.Ck
set_option maxRecDepth 100000
set_option maxHeartbeats 1000000
set_option linter.unusedVariables false

/-- a write that has seen all of a set -/
structure Last (I : List Ab) (y : Ab) : Prop where
  rt : rightA y = true
  sees : ∀ x ∈ I, hasA y x.1 = true
  un : ∀ x ∈ I, hasA x y.1 = false
  self : hasA y y.1 = false
  ne : ∀ x ∈ I, x.1 ≠ y.1
theorem last_law {I : List Ab} {u : List Int} {m : List Dt} {n : Int} {b : List Int} (hz : checkA I = 0) (r2 : Inv u m) (r3 : m.length ≤ 32) (r4 : ∀ x, rightB x = true → hasC u m x = seenA I x) (hN : nextC u m 16 = (n, 0)) (hb : b.length ≤ 16384) : Last I ((16, n), u, m, b) := by
  have ck : checkC u m = 0 := check_inv r2 r3
  obtain ⟨hub, _, hmr⟩ := check_right ck
  have hbd := lastN_bd (c := 16) hub m hmr
  have hmax := lastN_max ck 16
  have hn : lastN u m 16 ≠ 1099511627776 ∧ n = lastN u m 16 + 1 := by
    unfold nextC at hN
    rw [if_neg (by rw [ck]; decide)] at hN
    split at hN
    · cases hN
    · rename_i hne
      cases hN
      exact ⟨hne, rfl⟩
  have hrn : rightB (16, n) = true := by
    unfold rightB
    simp only [Bool.and_eq_true, decide_eq_true_eq]
    omega
  have hno : hasC u m (16, n) = false := by
    unfold hasC uD
    rw [Bool.or_eq_false_iff]
    refine ⟨decide_eq_false ?_, decide_eq_false fun hm => ?_⟩
    · have := hmax.1
      show ¬ n ≤ u.getD ((16 : Int) - 1).toNat 0
      omega
    · have := hmax.2.1 (16, n) hm rfl
      have h2 : n ≤ lastN u m 16 := this
      omega
  obtain ⟨cI1, cI2, cI3, cI4⟩ := checkA_ok hz
  have hrI : ∀ x ∈ I, rightB x.1 = true := fun x hx => (rightA_ok (cI2 x hx)).1
  have hseen : ∀ x ∈ I, hasC u m x.1 = true := fun x hx => by
    rw [r4 _ (hrI x hx)]
    exact List.any_eq_true.2 ⟨x, hx, by simp⟩
  have hyA : ∀ d, rightB d = true → hasA ((16, n), u, m, b) d = hasC u m d := fun d hd => by
    show (decide (checkC u m = 0) && rightB d && hasC u m d) = _
    rw [ck, hd]
    rfl
  have hself : hasA ((16, n), u, m, b) (16, n) = false := by rw [hyA _ hrn, hno]
  refine ⟨?_, fun x hx => by rw [hyA _ (hrI x hx), hseen x hx], fun x hx => ?_, hself, fun x hx e => ?_⟩
  · unfold rightA
    show (rightB (16, n) && (decide (checkC u m = 0) && (!hasA ((16, n), u, m, b) (16, n) && decide ((b.length : Int) ≤ 16384)))) = true
    rw [hself, hrn, ck]
    simp
    omega
  · show hasA x (16, n) = false
    cases hc : hasA x (16, n) with
    | false => rfl
    | true =>
      exfalso
      have h1 : hasC x.2.1 x.2.2.1 (16, n) = true := by
        have : (decide (checkC x.2.1 x.2.2.1 = 0) && rightB (16, n) && hasC x.2.1 x.2.2.1 (16, n)) = true := hc
        simp only [Bool.and_eq_true] at this
        exact this.2
      have h2 : seenA I (16, n) = true := List.any_eq_true.2 ⟨x, hx, by rw [h1]; simp⟩
      rw [← r4 _ hrn, hno] at h2
      cases h2
  · have := hseen x hx
    have e' : x.1 = (16, n) := e
    rw [e', hno] at this
    cases this
theorem last_set {I : List Ab} {y : Ab} (h : Last I y) : checkA [y] = 0 := check_single h.rt
theorem last_ne {I : List Ab} {y : Ab} (h : Last I y) : I ≠ [y] := fun e => h.ne y (by rw [e]; exact List.mem_singleton.2 rfl) rfl
theorem last_one {I : List Ab} {y : Ab} : StrictA [y] := List.pairwise_singleton ..
theorem merge_last {I : List Ab} {y : Ab} (hz : checkA I = 0) (h : Last I y) : mergeF I [y] = ([y], 0) := by
  have hs : ∀ x, x ∈ [y] ↔ InM I [y] x := fun x => by
    unfold InM
    rw [free_iff, List.mem_singleton]
    constructor
    · rintro rfl
      exact ⟨.inr ⟨rfl, h.ne⟩, h.un, fun z hz => by rw [List.mem_singleton.1 hz]; exact h.self⟩
    · rintro ⟨h1 | h1, h2, h3⟩
      · have := h3 y (List.mem_singleton.2 rfl)
        rw [h.sees x h1] at this
        cases this
      · exact h1.1
  rw [mergeF_uniq hz (last_set h) (List.pairwise_singleton ..) hs, if_neg (by simp)]
theorem merge_last' {I : List Ab} {y : Ab} (hz : checkA I = 0) (h : Last I y) : mergeF [y] I = ([y], 0) := by
  have hs : ∀ x, x ∈ [y] ↔ InM [y] I x := fun x => by
    unfold InM
    rw [free_iff, List.mem_singleton]
    constructor
    · rintro rfl
      exact ⟨.inl rfl, fun z hz => by rw [List.mem_singleton.1 hz]; exact h.self, h.un⟩
    · rintro ⟨h1 | h1, h2, h3⟩
      · exact h1
      · have := h2 y (List.mem_singleton.2 rfl)
        rw [h.sees x h1.1] at this
        cases this
  rw [mergeF_uniq (last_set h) hz (List.pairwise_singleton ..) hs, if_neg (by simp)]
theorem whole_behind {I : List Ab} {y : Ab} (hz : checkA I = 0) (h : Last I y) : ∀ r : List (List Ab), (∀ B ∈ r, B = I) → wholeF [y] r = ([y], 0)
  | [], _ => rfl
  | B :: r, hr => by
    have hB := hr B (List.mem_cons_self ..)
    subst hB
    rw [wholeF_cons, merge_last' hz h, if_pos rfl]
    exact whole_behind hz h r fun C hC => hr C (List.mem_cons_of_mem _ hC)
theorem whole_last {I : List Ab} {y : Ab} (hz : checkA I = 0) (h : Last I y) {r : List (List Ab)} (hr : ∀ B ∈ r, B = I) : ∀ (p : List (List Ab)) (o : List Ab), (∀ B ∈ p, B = I) → (o = [] ∨ o = I) → wholeF o (p ++ [y] :: r) = ([y], 0)
  | [], o, _, ho => by
    have e : mergeF o [y] = ([y], 0) := by
      rcases ho with rfl | rfl
      · exact mergeF_nil (last_set h)
      · exact merge_last hz h
    rw [List.nil_append, wholeF_cons, e, if_pos rfl]
    exact whole_behind hz h r hr
  | B :: p, o, hp, ho => by
    have hB := hp B (List.mem_cons_self ..)
    subst hB
    have e : mergeF o B = (B, 0) := by
      rcases ho with rfl | rfl
      · exact mergeF_nil hz
      · exact mergeF_self hz
    rw [List.cons_append, wholeF_cons, e, if_pos rfl]
    exact whole_last hz h hr p B (fun C hC => hp C (List.mem_cons_of_mem _ hC)) (.inr rfl)

/-- the answers: of the row, the one at 'a' is the last, all others the set -/
structure OrdA (I : List Ab) (y : Ab) (a : Nat) (O : List An) : Prop where
  num : NumA O
  at_ : ∀ (i : Nat) x, O[i]? = some x → x.set.map Sb.a = if i = a then [y] else I
theorem ord_sets {I : List Ab} {y : Ab} {a : Nat} {O : List An} (h : OrdA I y a O) (ha : a < O.length) : ∃ p r, setsA O = p ++ [y] :: r ∧ (∀ B ∈ p, B = I) ∧ ∀ B ∈ r, B = I := by
  have hl : (setsA O).length = O.length := by simp [setsA]
  have hg : ∀ i (hi : i < (setsA O).length), (setsA O)[i] = if i = a then [y] else I := fun i hi => by
    have := h.at_ i O[i] (List.getElem?_eq_getElem (by omega))
    rw [← this]
    simp [setsA]
  refine ⟨(setsA O).take a, (setsA O).drop (a + 1), ?_, fun B hB => ?_, fun B hB => ?_⟩
  · have h1 := List.take_append_drop a (setsA O)
    rw [List.drop_eq_getElem_cons (by omega), hg a (by omega), if_pos rfl] at h1
    exact h1.symm
  · obtain ⟨i, hi, rfl⟩ := List.mem_iff_getElem.1 hB
    simp only [List.length_take] at hi
    rw [List.getElem_take, hg i (by omega), if_neg (by omega)]
  · obtain ⟨i, hi, rfl⟩ := List.mem_iff_getElem.1 hB
    simp only [List.length_drop] at hi
    rw [List.getElem_drop, hg _ (by omega), if_neg (by omega)]
theorem ord_whole {I : List Ab} {y : Ab} {a : Nat} {O : List An} (hz : checkA I = 0) (hL : Last I y) (h : OrdA I y a O) (ha : a < O.length) : wholeF [] (setsA O) = ([y], 0) := by
  obtain ⟨p, r, e, hp, hr⟩ := ord_sets h ha
  rw [e]
  exact whole_last hz hL hr p [] hp (.inl rfl)
theorem ord_lack {I : List Ab} {y : Ab} {a : Nat} {O : List An} (hz : checkA I = 0) (hL : Last I y) (h : OrdA I y a O) (ha : a < O.length) : (lackF O).length + 1 = O.length ∧ ∀ n ∈ lackF O, n ≠ (a : Int) := by
  have hw := ord_whole hz hL h ha
  have e : lackF O = (O.filter fun x => !decide (x.set.map Sb.a = [y])).map An.fr := by
    unfold lackF
    rw [hw, if_pos rfl]
  have hn := last_ne hL
  have hp : ∀ i (hi : i < O.length), (!decide (O[i].set.map Sb.a = [y])) = !decide (i = a) := fun i hi => by
    rw [h.at_ i O[i] (List.getElem?_eq_getElem hi)]
    by_cases hia : i = a
    · rw [if_pos hia]; simp [hia]
    · rw [if_neg hia]; simp [hia, hn]
  constructor
  · rw [e, List.length_map]
    have h1 := List.take_append_drop a O
    rw [List.drop_eq_getElem_cons ha] at h1
    have h2 := congrArg (fun l => (l.filter fun x : An => !decide (x.set.map Sb.a = [y])).length) h1
    rw [← h2, List.filter_append, List.filter_cons_of_neg (by rw [hp a ha]; simp), List.filter_eq_self.2, List.filter_eq_self.2]
    · simp; omega
    · intro x hx
      obtain ⟨i, hi, rfl⟩ := List.mem_iff_getElem.1 hx
      simp only [List.length_drop] at hi
      rw [List.getElem_drop, hp _ (by omega)]
      simp
      omega
    · intro x hx
      obtain ⟨i, hi, rfl⟩ := List.mem_iff_getElem.1 hx
      simp only [List.length_take] at hi
      rw [List.getElem_take, hp _ (by omega)]
      simp
      omega
  · intro n hn'
    rw [e] at hn'
    obtain ⟨x, hx, rfl⟩ := List.mem_map.1 hn'
    obtain ⟨hx, hq⟩ := List.mem_filter.1 hx
    obtain ⟨i, hi, rfl⟩ := List.mem_iff_getElem.1 hx
    rw [hp i hi] at hq
    rw [h.num i O[i] (List.getElem?_eq_getElem hi)]
    simp at hq
    omega
end Go.Proofs.Ytkkjppeaaicgaaa
end

section
namespace Go.Proofs.Ytkkjppeaaicgaaa
open Go Go.Ck
set_option maxRecDepth 100000
set_option maxHeartbeats 4000000
set_option linter.unusedVariables false

theorem u64_lo (m : Int) : 0 ≤ IntKind.u64.wrap m := by
  simp only [IntKind.wrap, IntKind.bits, IntKind.signed]
  simp
  omega
theorem wrap_any (n : Int) (m : Nat) (hm : 0 < m) (hm2 : m ≤ 1000) : ∃ r : Nat, IntKind.i64.wrap ((IntKind.u64.wrap n).tmod (m : Int)) = (r : Int) ∧ r < m := by
  have h1 := u64_lo n
  rw [Int.tmod_eq_emod_of_nonneg h1]
  generalize IntKind.u64.wrap n = x at h1
  have h2 : 0 ≤ x % (m : Int) := Int.emod_nonneg _ (by omega)
  have h3 : x % (m : Int) < m := Int.emod_lt_of_pos _ (by omega)
  refine ⟨(x % (m : Int)).toNat, ?_, by omega⟩
  generalize x % (m : Int) = y at h2 h3
  simp only [IntKind.wrap, IntKind.bits, IntKind.signed]
  simp
  omega

theorem RepairOrder_sp (lv : Value) (a0 n0 : Int) (l : List Sb) (h : View) (hs : Rs h lv l) (hl : l.length ≤ 9223372036854775807) (hll : ∀ x ∈ l, x.l.length ≤ 9223372036854775807 ∧ x.b.length ≤ 9223372036854775807) (w : World) (s : St ⟨w, h, []⟩ h [] w) :
    Calls Try.prog 8 [lv, .int .i64 a0, .int .i64 n0].toArray w fun e w' => ∃ h', e = .returned (.bool true) ∧ St ⟨w, h, []⟩ h' [] w' := by
  refine calls_enter Try.func8 rfl Try.ntmps8 rfl s ?_
  repeat' (first | refine tw_ ?_ | (refine ta_ ?_; intro _) | ((fail_if_success (refine ybi rfl ?_)); refine ybj rfl ?_ ?_ <;> (intro ht; rw [ht]; first | replace ht := of_decide_eq_true ht | replace ht := of_decide_eq_false ht | skip)) | (refine ych ?_; first | (refine ybw rfl ?_ ?_ <;> intro ht) | (refine ybx rfl ?_ ?_ <;> intro ht)))
  (refine yco (ycp Try.func16 rfl (by kernel_rfl) rfl) (rtame_sp lv l h hs hl hll) rfl rfl rfl ?_ ?_ ?_; (· (exact to_)); (· intro _ _ hle; (exact to_)); intro x px hle)
  obtain ⟨h1, v1, T⟩ := x
  obtain ⟨hT, eT⟩ := px
  dsimp only at hT eT
  have hle1 : Le h h1 := hle
  clear hle
  have fT := tame_fits eT
  have lT5 : T.length ≤ 5 := by
    have := congrArg List.length eT
    simp at this
    omega
  (refine yco (ycp Try.func17 rfl (by kernel_rfl) rfl) (rto_sp v1 T h1 hT fT) rfl rfl rfl ?_ ?_ ?_; (· (exact to_)); (· intro _ _ hle; (exact to_)); intro x px hle)
  obtain ⟨h2, v2, I⟩ := x
  obtain ⟨hI, eI⟩ := px
  dsimp only at hI eI
  have hle2 : Le h1 h2 := hle
  clear hle
  have fI := fits_same eI fT
  have lI : I.length ≤ 5 := by
    have := congrArg List.length eI
    simp at this
    omega
  repeat' (first | refine tw_ ?_ | (refine ta_ ?_; intro _) | ((fail_if_success (refine ybi rfl ?_)); refine ybj rfl ?_ ?_ <;> (intro ht; rw [ht]; first | replace ht := of_decide_eq_true ht | replace ht := of_decide_eq_false ht | skip)) | (refine ych ?_; first | (refine ybw rfl ?_ ?_ <;> intro ht) | (refine ybx rfl ?_ ?_ <;> intro ht)))
  (refine ycn (ycp Try.func22 rfl (by kernel_rfl) rfl) (repairs_sp h2) rfl rfl rfl ?_ ?_; (· (exact to_)))
  repeat' (first | refine tw_ ?_ | (refine ta_ ?_; intro _) | ((fail_if_success (refine ybi rfl ?_)); refine ybj rfl ?_ ?_ <;> (intro ht; rw [ht]; first | replace ht := of_decide_eq_true ht | replace ht := of_decide_eq_false ht | skip)) | (refine ych ?_; first | (refine ybw rfl ?_ ?_ <;> intro ht) | (refine ybx rfl ?_ ?_ <;> intro ht)))
  have CI := scheck_sp v2 I h2 hI (by omega) (fun x hx => by have := (fI.2 x hx).1; omega)
  by_cases hz : checkA (I.map Sb.a) = 0
  · --
    repeat' (first | (refine ycf ?_; apply ybk; (· first | (exact tk_)); (· rfl); (· rfl)) | refine t1_ ?_ | (refine ta_ ?_; intro _) | ((fail_if_success (refine ybi rfl ?_)); refine ybj rfl ?_ ?_ <;> (intro ht; rw [ht]; first | replace ht := of_decide_eq_true ht | replace ht := of_decide_eq_false ht | skip)) | (refine ych ?_; first | (refine ybw rfl ?_ ?_ <;> intro ht) | (refine ybx rfl ?_ ?_ <;> intro ht)))
    (refine ycn (ycp Try.func12 rfl (by kernel_rfl) rfl) (CI) rfl rfl rfl ?_ ?_; (· (exact to_)))
    repeat' (first | (refine ycf ?_; apply ybk; (· first | (exact tk_)); (· rfl); (· rfl)) | refine t1_ ?_ | (refine ta_ ?_; intro _) | ((fail_if_success (refine ybi rfl ?_)); refine ybj rfl ?_ ?_ <;> (intro ht; rw [ht]; first | replace ht := of_decide_eq_true ht | replace ht := of_decide_eq_false ht | skip)) | (refine ych ?_; first | (refine ybw rfl ?_ ?_ <;> intro ht) | (refine ybx rfl ?_ ?_ <;> intro ht)))
    (refine yco (ycp Try.func13 rfl (by kernel_rfl) rfl) (sseen_sp v2 I h2 hI fI) rfl rfl rfl ?_ ?_ ?_; (· (exact to_)); (· intro _ _ hle; (exact to_)); intro x px hle)
    obtain ⟨h3, v3, u, m, e3⟩ := x
    obtain ⟨C3, R3⟩ := px
    dsimp only at C3 R3
    unfold SeenR at R3
    rw [if_neg (by rw [hz]; decide)] at R3
    have hle3 : Le h2 h3 := hle
    clear hle
    obtain ⟨hu, mv, hv3, s3⟩ := id C3
    subst hv3
    obtain ⟨_, ad3, cap3, hmv, _, _⟩ := id s3
    subst hmv
    rcases R3 with ⟨r1, _, _, _⟩ | ⟨r1, r2, r3, r4⟩
    · subst r1
      repeat' (first | (refine ycf ?_; apply ybk; (· first | (exact tk_)); (· rfl); (· rfl)) | (refine ybg 0 rfl rfl rfl (cxc_sz hu) (cxc_fit hu) (cxc_one rfl) (ybh (cxc_all hu)) rfl rfl ?_ ?_ ?_; (· (exact to_)); (· (exact to_))) | refine t1_ ?_ | (refine ta_ ?_; intro _) | ((fail_if_success (refine ybi rfl ?_)); refine ybj rfl ?_ ?_ <;> (intro ht; rw [ht]; first | replace ht := of_decide_eq_true ht | replace ht := of_decide_eq_false ht | skip)) | (refine ych ?_; first | (refine ybw rfl ?_ ?_ <;> intro ht) | (refine ybx rfl ?_ ?_ <;> intro ht)))
      exact nx_ret1 rfl (rv_tmp rfl) (fun w' s' => ⟨h, rfl, s'.nil.base⟩)
    subst r1
    have NX1 := Next_sp _ u m 16 h3 C3 (by omega)
    by_cases hf : (nextC u m 16).2 = 0
    · obtain ⟨n, f⟩ : ∃ n, n = (nextC u m 16).1 := ⟨_, rfl⟩
      have hN : nextC u m 16 = (n, 0) := by rw [f, ← hf]
      rw [hN] at NX1
      have LA : Last (I.map Sb.a) ((16, n), u, m, []) := last_law hz r2 r3 r4 hN (by simp)
      obtain ⟨N, hN5, hN6⟩ := wrap_any n0 5 (by omega) (by omega)
      have hN5' : IntKind.i64.wrap ((IntKind.u64.wrap n0).tmod 5) = (N : Int) := hN5
      obtain ⟨A, hA1, hA2⟩ := wrap_any a0 (1 + N + 1) (by omega) (by omega)
      have hw1 : IntKind.u64.wrap (1 + (N : Int) + 1) = ((1 + N + 1 : Nat) : Int) := by
        simp only [IntKind.wrap, IntKind.bits, IntKind.signed]
        simp
        omega
      obtain ⟨y, hy⟩ : ∃ y : Sb, y = ⟨(16, n), u, hu, m, .slice ad3 m.length cap3, [], .slice none 0 0⟩ := ⟨_, rfl⟩
      have hfy : fillL (fun i : Nat => ([(0, 2), (2, 17), (19, 1)] : List (Nat × Nat))[i]?) ([.int .i64 0, .int .i64 0] ++ (up zeroU ++ [.slice none 0 0, .slice none 0 0])) [(0, .agg (dcs (16, n)).toArray), (1, .agg (cxc u (.slice ad3 m.length cap3)).toArray)] = some (sbc y) := by
        rw [hy]; exact fill3b hu
      have hyv : Sv h3 y := by rw [hy]; exact ⟨s3, Sc.nil h3 1 none 0, fun b hb => by cases hb⟩
      have ey : y.a = ((16, n), u, m, []) := by rw [hy]; rfl
      have hyo := hyv.one
      have hyl := sbc_len y
      repeat' (first|(refine ycf ?_;apply ybk;(·first|(first|exact tk_|(apply yad;(·rfl);(·exact yaz 0 rfl);(·exact ycj hu))|(apply yax (cs := sbc y);(·rfl);(·exact hfy))|(refine qv_convert_int' rfl hN5')|(refine qv_convert_int' rfl hA1)|(refine qv_convert_int' rfl hw1)|(apply qv_convert_int;rfl)|(apply qv_rem;(·rfl);(·rfl);(·omega))));(·rfl);(·rfl))|(refine ybg 0 rfl rfl rfl (cxc_sz hu) (cxc_fit hu) (cxc_one rfl) (ybh (cxc_all hu)) rfl rfl ?_ ?_ ?_;(·(exact to_));(·(exact to_)))|refine t1_ ?_|(refine ta_ ?_;intro _)|((fail_if_success (refine ybi rfl ?_));refine ybj rfl ?_ ?_<;>(intro ht;rw [ht];first|replace ht := of_decide_eq_true ht|replace ht := of_decide_eq_false ht|skip))|(refine ych ?_;first|(refine ybw rfl ?_ ?_<;>intro ht)|(refine ybx rfl ?_ ?_<;>intro ht)))
      (refine ycn (ycp Try.func14 rfl (by kernel_rfl) rfl) (NX1) rfl rfl rfl ?_ ?_; (· (exact to_)))
      repeat' (first|(refine ycf ?_;apply ybk;(·first|(first|exact tk_|(apply yad;(·rfl);(·exact yaz 0 rfl);(·exact ycj hu))|(apply yax (cs := sbc y);(·rfl);(·exact hfy))|(refine qv_convert_int' rfl hN5')|(refine qv_convert_int' rfl hA1)|(refine qv_convert_int' rfl hw1)|(apply qv_convert_int;rfl)|(apply qv_rem;(·rfl);(·rfl);(·omega))));(·rfl);(·rfl))|(refine ybg 0 rfl rfl rfl (cxc_sz hu) (cxc_fit hu) (cxc_one rfl) (ybh (cxc_all hu)) rfl rfl ?_ ?_ ?_;(·(exact to_));(·(exact to_)))|refine t1_ ?_|(refine ta_ ?_;intro _)|((fail_if_success (refine ybi rfl ?_));refine ybj rfl ?_ ?_<;>(intro ht;rw [ht];first|replace ht := of_decide_eq_true ht|replace ht := of_decide_eq_false ht|skip))|(refine ych ?_;first|(refine ybw rfl ?_ ?_<;>intro ht)|(refine ybx rfl ?_ ?_<;>intro ht)))
      refine yba (ybd rfl rfl rfl (ybe rfl (sbc_sz y))) rfl rfl rfl ybf (fun _ => ybf) ?_
      intro b9
      refine rx_rowOf 20 1 1 (by omega) (by unfold maxLen; omega) (by show (sbc y).length = 20; exact hyl) ?_
      refine rx_persist rfl fun h4 hle4 hs4 => ?_
      have S4 : Ss h4 (.slice (some ⟨b9, 0, none⟩) 1 1) [y] := by
        refine ⟨?_, fun x hx => by rw [List.mem_singleton.1 hx]; exact hyv.mono hle4⟩
        rw [one_list]
        have e : (sbc y).take (1 * 20) = sbc y := List.take_of_length_le (by omega)
        have : Sc h4 20 (.slice (some ⟨b9, 0, none⟩) 1 1) 1 ((sbc y).take (1 * 20)) := hs4
        rwa [e] at this
      have fY : Fits [y] := ⟨by simp, fun x hx => by rw [List.mem_singleton.1 hx, hy]; exact ⟨by show m.length ≤ _; omega, by show 0 ≤ _; omega⟩⟩
      obtain ⟨_, ad2, cap2, hv2, _, _⟩ := id hI.1
      subst hv2
      have I4 : Ss h4 (.slice ad2 I.length cap2) I := hI.mono (hle3.trans hle4)
      repeat' (first|(refine ycf ?_;apply ybk;(·first|(first|exact tk_|(apply yad;(·rfl);(·exact yaz 0 rfl);(·exact ycj hu))|(apply yax (cs := sbc y);(·rfl);(·exact hfy))|(refine qv_convert_int' rfl hN5')|(refine qv_convert_int' rfl hA1)|(refine qv_convert_int' rfl hw1)|(apply qv_convert_int;rfl)|(apply qv_rem;(·rfl);(·rfl);(·omega))));(·rfl);(·rfl))|(refine ybg 0 rfl rfl rfl (cxc_sz hu) (cxc_fit hu) (cxc_one rfl) (ybh (cxc_all hu)) rfl rfl ?_ ?_ ?_;(·(exact to_));(·(exact to_)))|refine t1_ ?_|(refine ta_ ?_;intro _)|((fail_if_success (refine ybi rfl ?_));refine ybj rfl ?_ ?_<;>(intro ht;rw [ht];first|replace ht := of_decide_eq_true ht|replace ht := of_decide_eq_false ht|skip))|(refine ych ?_;first|(refine ybw rfl ?_ ?_<;>intro ht)|(refine ybx rfl ?_ ?_<;>intro ht)))
      refine cx_row 50 2 ?_
      refine cx_loop (X := Nat × Value × List An) (fun z => [(1, .int .i64 (A : Nat)), (2, .int .i64 (1 + (N : Int))), (7, .slice ad2 I.length cap2), (12, .slice (some ⟨b9, 0, none⟩) 1 1), (13, z.2.1), (14, .int .i64 (z.1 : Nat))]) (fun _ => h4) (fun z => [rowA z.2.1 z.2.2])
        (fun z => z.1 ≤ N + 2 ∧ z.2.2.length = z.1 ∧ AnOk h4 z.2.2 ∧ OrdA (I.map Sb.a) y.a A z.2.2) (fun z => N + 2 - z.1) (0, .slice none 0 0, []) ⟨Nat.zero_le _, rfl, fun o ho => (by cases ho), fun i x hx => (by simp at hx), fun i x hx => (by simp at hx)⟩ ts_ (fun _ s => s.keep1) ?_
      rintro ⟨k, vo, O⟩ ⟨p1, p2, p3, p4⟩
      dsimp only at p1 p2 p3 p4 ⊢
      have hadd : ∀ (sv : Value) (set : List Sb), Ss h4 sv set → Fits set → set.map Sb.a = (if k = A then [y.a] else I.map Sb.a) → AnOk h4 (O ++ [⟨(k : Nat), sv, set⟩]) ∧ OrdA (I.map Sb.a) y.a A (O ++ [⟨(k : Nat), sv, set⟩]) := fun sv set q1 q2 q3 => by
        have hat : ∀ (i : Nat) x, (O ++ [(⟨(k : Nat), sv, set⟩ : An)])[i]? = some x → O[i]? = some x ∨ (i = k ∧ x = ⟨(k : Nat), sv, set⟩) := fun i x hx => by
          rw [List.getElem?_append] at hx
          split at hx
          · exact .inl hx
          · rename_i hi
            have hi2 : i = k := by
              have := (List.getElem?_eq_some_iff.1 hx).1
              simp at this
              omega
            subst hi2
            rw [p2, Nat.sub_self] at hx
            exact .inr ⟨rfl, by simpa using hx.symm⟩
        refine ⟨fun x hx => ?_, fun i x hx => ?_, fun i x hx => ?_⟩
        · rcases List.mem_append.1 hx with hx | hx
          · exact p3 x hx
          · rw [List.mem_singleton.1 hx]
            exact ⟨q1, q2⟩
        · rcases hat i x hx with h1 | ⟨h1, h2⟩
          · exact p4.num i x h1
          · rw [h2, h1]
        · rcases hat i x hx with h1 | ⟨h1, h2⟩
          · exact p4.at_ i x h1
          · rw [h2, h1]
            exact q3
      by_cases hkl : k < N + 2
      · by_cases hkA : k = A
        · have ha := hadd (.slice (some ⟨b9, 0, none⟩) 1 1) [y] S4 fY (by rw [if_pos hkA]; rfl)
          repeat' (first | (refine ycf ?_; apply ybk; (· first | (exact tk_)); (· rfl); (· rfl)) | (refine ybg 0 rfl rfl rfl (cxc_sz hu) (cxc_fit hu) (cxc_one rfl) (ybh (cxc_all hu)) rfl rfl ?_ ?_ ?_; (· (exact to_)); (· (exact to_))) | refine t1_ ?_ | (refine ta_ ?_; intro _) | ((fail_if_success (refine ybi rfl ?_)); refine ybj rfl ?_ ?_ <;> (intro ht; rw [ht]; first | replace ht := of_decide_eq_true ht | replace ht := of_decide_eq_false ht | skip)) | (refine ych ?_; first | (refine ybw rfl ?_ ?_ <;> intro ht) | (refine ybx rfl ?_ ?_ <;> intro ht)))
          refine rx_append (sz := 2) 1 rfl rfl rfl (yaz 0 rfl) rfl (one_an k _ 1 1) rfl (by omega) (by unfold maxLen; omega) (by omega) rfl rfl rfl ybf (fun _ => ybf) ?_
          intro v3 _
          repeat' (first | (refine ycf ?_; apply ybk; (· first | (exact tk_)); (· rfl); (· rfl)) | (refine ybg 0 rfl rfl rfl (cxc_sz hu) (cxc_fit hu) (cxc_one rfl) (ybh (cxc_all hu)) rfl rfl ?_ ?_ ?_; (· (exact to_)); (· (exact to_))) | refine t1_ ?_ | (refine ta_ ?_; intro _) | ((fail_if_success (refine ybi rfl ?_)); refine ybj rfl ?_ ?_ <;> (intro ht; rw [ht]; first | replace ht := of_decide_eq_true ht | replace ht := of_decide_eq_false ht | skip)) | (refine ych ?_; first | (refine ybw rfl ?_ ?_ <;> intro ht) | (refine ybx rfl ?_ ?_ <;> intro ht)))
          refine nx_round (k + 1, v3, O ++ [⟨(k : Nat), .slice (some ⟨b9, 0, none⟩) 1 1, [y]⟩]) ⟨by show k + 1 ≤ _; omega, by show (O ++ [_]).length = _; simp [p2], ha.1, ha.2⟩ (by show N + 2 - (k + 1) < N + 2 - k; omega) ts_ (fun _ s => ?_)
          have s2 := s.tl
          dsimp only
          show St _ h4 [Res.row _ _ v3 (O ++ [_]).length ((O ++ [_]).flatMap anc)] _
          rw [List.length_append, List.flatMap_append]
          exact s2
        · have ha := hadd (.slice ad2 I.length cap2) I I4 fI (by rw [if_neg hkA])
          repeat' (first | (refine ycf ?_; apply ybk; (· first | (exact tk_)); (· rfl); (· rfl)) | (refine ybg 0 rfl rfl rfl (cxc_sz hu) (cxc_fit hu) (cxc_one rfl) (ybh (cxc_all hu)) rfl rfl ?_ ?_ ?_; (· (exact to_)); (· (exact to_))) | refine t1_ ?_ | (refine ta_ ?_; intro _) | ((fail_if_success (refine ybi rfl ?_)); refine ybj rfl ?_ ?_ <;> (intro ht; rw [ht]; first | replace ht := of_decide_eq_true ht | replace ht := of_decide_eq_false ht | skip)) | (refine ych ?_; first | (refine ybw rfl ?_ ?_ <;> intro ht) | (refine ybx rfl ?_ ?_ <;> intro ht)))
          refine rx_append (sz := 2) 1 rfl rfl rfl (yaz 0 rfl) rfl (one_an k ad2 I.length cap2) rfl (by omega) (by unfold maxLen; omega) (by omega) rfl rfl rfl ybf (fun _ => ybf) ?_
          intro v3 _
          repeat' (first | (refine ycf ?_; apply ybk; (· first | (exact tk_)); (· rfl); (· rfl)) | (refine ybg 0 rfl rfl rfl (cxc_sz hu) (cxc_fit hu) (cxc_one rfl) (ybh (cxc_all hu)) rfl rfl ?_ ?_ ?_; (· (exact to_)); (· (exact to_))) | refine t1_ ?_ | (refine ta_ ?_; intro _) | ((fail_if_success (refine ybi rfl ?_)); refine ybj rfl ?_ ?_ <;> (intro ht; rw [ht]; first | replace ht := of_decide_eq_true ht | replace ht := of_decide_eq_false ht | skip)) | (refine ych ?_; first | (refine ybw rfl ?_ ?_ <;> intro ht) | (refine ybx rfl ?_ ?_ <;> intro ht)))
          refine nx_round (k + 1, v3, O ++ [⟨(k : Nat), .slice ad2 I.length cap2, I⟩]) ⟨by show k + 1 ≤ _; omega, by show (O ++ [_]).length = _; simp [p2], ha.1, ha.2⟩ (by show N + 2 - (k + 1) < N + 2 - k; omega) ts_ (fun _ s => ?_)
          have s2 := s.tl
          dsimp only
          show St _ h4 [Res.row _ _ v3 (O ++ [_]).length ((O ++ [_]).flatMap anc)] _
          rw [List.length_append, List.flatMap_append]
          exact s2
      · have hkk : k = N + 2 := by omega
        rw [hkk] at p2
        have LA' : Last (I.map Sb.a) y.a := by rw [ey]; exact LA
        have hw := ord_whole hz LA' p4 (by omega)
        obtain ⟨hlk1, hlk2⟩ := ord_lack hz LA' p4 (by omega)
        refine cx_rowform 0 rfl (fun e1 e2 e3 => ?_) ?_
        · omega
        rintro g capO rfl
        have WH := whole_sp (some ⟨g, 0, none⟩) capO O h4 (by omega) p3
        rw [hw] at WH
        repeat' (first | (refine ycf ?_; apply ybk; (· first | (exact tk_)); (· rfl); (· rfl)) | (refine ybg 0 rfl rfl rfl (cxc_sz hu) (cxc_fit hu) (cxc_one rfl) (ybh (cxc_all hu)) rfl rfl ?_ ?_ ?_; (· (exact to_)); (· (exact to_))) | refine t1_ ?_ | (refine ta_ ?_; intro _) | ((fail_if_success (refine ybi rfl ?_)); refine ybj rfl ?_ ?_ <;> (intro ht; rw [ht]; first | replace ht := of_decide_eq_true ht | replace ht := of_decide_eq_false ht | skip)) | (refine ych ?_; first | (refine ybw rfl ?_ ?_ <;> intro ht) | (refine ybx rfl ?_ ?_ <;> intro ht)))
        (refine rx_call_m (ycp Try.func18 rfl (by kernel_rfl) rfl) (perm_at (k := 0) rfl) (WH) rfl rfl rfl ?_ ?_ ?_; (· (exact to_)); (· intro _ _ hle; (exact to_)); intro x px hle)
        obtain ⟨h5, v5, M⟩ := x
        obtain ⟨S5, E5⟩ := px
        dsimp only at S5 E5
        have hle5 : Le h4 h5 := hle
        clear hle
        have LK := lacking_sp (some ⟨g, 0, none⟩) capO O h5 (by omega) (p3.mono hle5)
        rw [hw] at LK
        repeat' (first | (refine ycf ?_; apply ybk; (· first | (exact tk_)); (· rfl); (· rfl)) | (refine ybg 0 rfl rfl rfl (cxc_sz hu) (cxc_fit hu) (cxc_one rfl) (ybh (cxc_all hu)) rfl rfl ?_ ?_ ?_; (· (exact to_)); (· (exact to_))) | refine t1_ ?_ | (refine ta_ ?_; intro _) | ((fail_if_success (refine ybi rfl ?_)); refine ybj rfl ?_ ?_ <;> (intro ht; rw [ht]; first | replace ht := of_decide_eq_true ht | replace ht := of_decide_eq_false ht | skip)) | (refine ych ?_; first | (refine ybw rfl ?_ ?_ <;> intro ht) | (refine ybx rfl ?_ ?_ <;> intro ht)))
        (refine rx_call_m (ycp Try.func20 rfl (by kernel_rfl) rfl) (perm_at (k := 0) rfl) (LK) rfl rfl rfl ?_ ?_ ?_; (· (exact to_)); (· intro _ _ hle; (exact to_)); intro x px hle)
        obtain ⟨h6, v6, c⟩ := x
        obtain ⟨S6, E6⟩ := px
        dsimp only at S6 E6
        rw [← E6] at hlk1 hlk2
        have hle6 : Le h5 h6 := hle
        clear hle
        have fM : Fits M := by
          have := fits_same (T := [y]) (I := M) (by rw [E5]; rfl) fY
          exact this
        have SM := sSame_sp v5 (.slice (some ⟨b9, 0, none⟩) 1 1) M [y] h6 (S5.mono hle6) (S4.mono (hle5.trans hle6)) (by have := fM.1; omega) (by have := fY.1; omega) (fun x hx => by have := (fM.2 x hx).1; omega) (fun x hx => by have := (fY.2 x hx).1; omega)
        rw [decide_eq_true (show M.map Sb.a = [y].map Sb.a from E5)] at SM
        obtain ⟨_, ad6, cap6, hv6, _, _⟩ := id S6
        subst hv6
        repeat' (first | (refine ycf ?_; apply ybk; (· first | (exact tk_)); (· rfl); (· rfl)) | (refine ybg 0 rfl rfl rfl (cxc_sz hu) (cxc_fit hu) (cxc_one rfl) (ybh (cxc_all hu)) rfl rfl ?_ ?_ ?_; (· (exact to_)); (· (exact to_))) | refine t1_ ?_ | (refine ta_ ?_; intro _) | ((fail_if_success (refine ybi rfl ?_)); refine ybj rfl ?_ ?_ <;> (intro ht; rw [ht]; first | replace ht := of_decide_eq_true ht | replace ht := of_decide_eq_false ht | skip)) | (refine ych ?_; first | (refine ybw rfl ?_ ?_ <;> intro ht) | (refine ybx rfl ?_ ?_ <;> intro ht)))
        (refine ycn (ycp Try.func25 rfl (by kernel_rfl) rfl) (SM) rfl rfl rfl ?_ ?_; (· (exact to_)))
        repeat' (first | (refine ycf ?_; apply ybk; (· first | (exact tk_)); (· rfl); (· rfl)) | (refine ybg 0 rfl rfl rfl (cxc_sz hu) (cxc_fit hu) (cxc_one rfl) (ybh (cxc_all hu)) rfl rfl ?_ ?_ ?_; (· (exact to_)); (· (exact to_))) | refine t1_ ?_ | (refine ta_ ?_; intro _) | ((fail_if_success (refine ybi rfl ?_)); refine ybj rfl ?_ ?_ <;> (intro ht; rw [ht]; first | replace ht := of_decide_eq_true ht | replace ht := of_decide_eq_false ht | skip)) | (refine ych ?_; first | (refine ybw rfl ?_ ?_ <;> intro ht) | (refine ybx rfl ?_ ?_ <;> intro ht)))
        refine cx_loop (X := Nat) (fun z => [(1, .int .i64 (A : Nat)), (17, .slice ad6 c.length cap6), (19, .int .i64 (z : Nat))]) (fun _ => h6) (fun z => []) (fun z => z ≤ c.length) (fun z => c.length - z) 0 (Nat.zero_le _) ts_ (fun _ s => s.nil) ?_
        rintro k2 q1
        by_cases hk2 : k2 < c.length
        · obtain ⟨bs, o, rfl⟩ := S6.ad (by omega) (by omega)
          have hcel : ∀ L, CellAt h6 L bs (o + k2) (.int .i64 c[k2]) := fun L => (S6.cells (L := L)).cell (by simp [ics, hk2])
          have hb := hlk2 _ (List.getElem_mem hk2)
          generalize c[k2] = n0' at hcel hb
          repeat' (first | (refine ycf ?_; apply ybk; (· first | (exact tk_) | (apply yae; (· rfl); (· (first | exact hcel _ | (rw [Nat.mul_one]; exact hcel _))))); (· rfl); (· rfl)) | (refine ybg 0 rfl rfl rfl (cxc_sz hu) (cxc_fit hu) (cxc_one rfl) (ybh (cxc_all hu)) rfl rfl ?_ ?_ ?_; (· (exact to_)); (· (exact to_))) | refine t1_ ?_ | (refine ta_ ?_; intro _) | ((fail_if_success (refine ybi rfl ?_)); refine ybj rfl ?_ ?_ <;> (intro ht; rw [ht]; first | replace ht := of_decide_eq_true ht | replace ht := of_decide_eq_false ht | skip)) | (refine ych ?_; first | (refine ybw rfl ?_ ?_ <;> intro ht) | (refine ybx rfl ?_ ?_ <;> intro ht)))
          exact nx_round (k2 + 1) (by omega) (by omega) ts_ (fun _ s => s)
        · --
          repeat' (first | (refine ycf ?_; apply ybk; (· first | (exact tk_)); (· rfl); (· rfl)) | (refine ybg 0 rfl rfl rfl (cxc_sz hu) (cxc_fit hu) (cxc_one rfl) (ybh (cxc_all hu)) rfl rfl ?_ ?_ ?_; (· (exact to_)); (· (exact to_))) | refine t1_ ?_ | (refine ta_ ?_; intro _) | ((fail_if_success (refine ybi rfl ?_)); refine ybj rfl ?_ ?_ <;> (intro ht; rw [ht]; first | replace ht := of_decide_eq_true ht | replace ht := of_decide_eq_false ht | skip)) | (refine ych ?_; first | (refine ybw rfl ?_ ?_ <;> intro ht) | (refine ybx rfl ?_ ?_ <;> intro ht)))
          exact nx_ret1 rfl (rv_tmp rfl) (fun w' s' => ⟨h, rfl, s'.nil.base⟩)
    · obtain ⟨n, f, hN⟩ : ∃ n f, nextC u m 16 = (n, f) := ⟨_, _, rfl⟩
      rw [hN] at NX1 hf
      dsimp only at hf
      repeat' (first | (refine ycf ?_; apply ybk; (· first | (first | exact tk_ | (apply yad; (· rfl); (· exact yaz 0 rfl); (· exact ycj hu)))); (· rfl); (· rfl)) | (refine ybg 0 rfl rfl rfl (cxc_sz hu) (cxc_fit hu) (cxc_one rfl) (ybh (cxc_all hu)) rfl rfl ?_ ?_ ?_; (· (exact to_)); (· (exact to_))) | refine t1_ ?_ | (refine ta_ ?_; intro _) | ((fail_if_success (refine ybi rfl ?_)); refine ybj rfl ?_ ?_ <;> (intro ht; rw [ht]; first | replace ht := of_decide_eq_true ht | replace ht := of_decide_eq_false ht | skip)) | (refine ych ?_; first | (refine ybw rfl ?_ ?_ <;> intro ht) | (refine ybx rfl ?_ ?_ <;> intro ht)))
      (refine ycn (ycp Try.func14 rfl (by kernel_rfl) rfl) (NX1) rfl rfl rfl ?_ ?_; (· (exact to_)))
      repeat' (first | (refine ycf ?_; apply ybk; (· first | (first | exact tk_ | (apply yad; (· rfl); (· exact yaz 0 rfl); (· exact ycj hu)))); (· rfl); (· rfl)) | (refine ybg 0 rfl rfl rfl (cxc_sz hu) (cxc_fit hu) (cxc_one rfl) (ybh (cxc_all hu)) rfl rfl ?_ ?_ ?_; (· (exact to_)); (· (exact to_))) | refine t1_ ?_ | (refine ta_ ?_; intro _) | ((fail_if_success (refine ybi rfl ?_)); refine ybj rfl ?_ ?_ <;> (intro ht; rw [ht]; first | replace ht := of_decide_eq_true ht | replace ht := of_decide_eq_false ht | skip)) | (refine ych ?_; first | (refine ybw rfl ?_ ?_ <;> intro ht) | (refine ybx rfl ?_ ?_ <;> intro ht)))
      exact nx_ret1 rfl (rv_tmp rfl) (fun w' s' => ⟨h, rfl, s'.nil.base⟩)
  · --
    repeat' (first | (refine ycf ?_; apply ybk; (· first | (exact tk_)); (· rfl); (· rfl)) | (refine ybg 0 rfl rfl rfl (cxc_sz hu) (cxc_fit hu) (cxc_one rfl) (ybh (cxc_all hu)) rfl rfl ?_ ?_ ?_; (· (exact to_)); (· (exact to_))) | refine t1_ ?_ | (refine ta_ ?_; intro _) | ((fail_if_success (refine ybi rfl ?_)); refine ybj rfl ?_ ?_ <;> (intro ht; rw [ht]; first | replace ht := of_decide_eq_true ht | replace ht := of_decide_eq_false ht | skip)) | (refine ych ?_; first | (refine ybw rfl ?_ ?_ <;> intro ht) | (refine ybx rfl ?_ ?_ <;> intro ht)))
    (refine ycn (ycp Try.func12 rfl (by kernel_rfl) rfl) (CI) rfl rfl rfl ?_ ?_; (· (exact to_)))
    repeat' (first | (refine ycf ?_; apply ybk; (· first | (exact tk_)); (· rfl); (· rfl)) | (refine ybg 0 rfl rfl rfl (cxc_sz hu) (cxc_fit hu) (cxc_one rfl) (ybh (cxc_all hu)) rfl rfl ?_ ?_ ?_; (· (exact to_)); (· (exact to_))) | refine t1_ ?_ | (refine ta_ ?_; intro _) | ((fail_if_success (refine ybi rfl ?_)); refine ybj rfl ?_ ?_ <;> (intro ht; rw [ht]; first | replace ht := of_decide_eq_true ht | replace ht := of_decide_eq_false ht | skip)) | (refine ych ?_; first | (refine ybw rfl ?_ ?_ <;> intro ht) | (refine ybx rfl ?_ ?_ <;> intro ht)))
    (refine ycn (ycp Try.func22 rfl (by kernel_rfl) rfl) (repairs_sp h2) rfl rfl rfl ?_ ?_; (· (exact to_)))
    repeat' (first | (refine ycf ?_; apply ybk; (· first | (exact tk_)); (· rfl); (· rfl)) | (refine ybg 0 rfl rfl rfl (cxc_sz hu) (cxc_fit hu) (cxc_one rfl) (ybh (cxc_all hu)) rfl rfl ?_ ?_ ?_; (· (exact to_)); (· (exact to_))) | refine t1_ ?_ | (refine ta_ ?_; intro _) | ((fail_if_success (refine ybi rfl ?_)); refine ybj rfl ?_ ?_ <;> (intro ht; rw [ht]; first | replace ht := of_decide_eq_true ht | replace ht := of_decide_eq_false ht | skip)) | (refine ych ?_; first | (refine ybw rfl ?_ ?_ <;> intro ht) | (refine ybx rfl ?_ ?_ <;> intro ht)))
    exact nx_ret1 rfl (rv_tmp rfl) (fun w' s' => ⟨h, rfl, s'.nil.base⟩)
end Go.Proofs.Ytkkjppeaaicgaaa
end

section
namespace Go.Ck
open Go Go.ChangeShapes
set_option linter.unusedVariables false
section
variable {H : Type} {enc : TypeId × Value → H} {P : Program} {w : World} {base : Nat} {spare : Nat → Bool} {held : Bool}

theorem trod_fields {t : TypeId} {fs : Array Field} {fuel : Nat} {cs : List Value} {x : DataW H × List MemPlace} (ht : P.underlying t = some (.struct fs)) (h : DataW.trod enc P w base spare held fuel t cs = some x) :
    cs.length = P.cellsOf t ∧ ∀ f ∈ fs.toList, ∃ m y, DataW.trod enc P w base spare held m f.type ((cs.drop f.offset).take (P.cellsOf f.type)) = some y := by
  cases fuel with
  | zero => simp [DataW.trod] at h
  | succ n =>
    unfold DataW.trod at h
    simp only [ht] at h
    split at h
    · rename_i hl
      obtain ⟨xs, hxs, _⟩ := Option.map_eq_some_iff.1 h
      refine ⟨hl, fun f hf => ?_⟩
      obtain ⟨i, hi, rfl⟩ := List.getElem_of_mem hf
      have := mapM_some_get hxs i _ (List.getElem?_eq_getElem hi)
      have hlen := mapM_some_length hxs
      rw [List.getElem?_eq_getElem (by omega)] at this
      exact ⟨n, _, this⟩
    · cases h

theorem trod_elems {t e : TypeId} {k fuel : Nat} {cs : List Value} {x : DataW H × List MemPlace} (ht : P.underlying t = some (.array k e)) (h : DataW.trod enc P w base spare held fuel t cs = some x) :
    cs.length = P.cellsOf t ∧ ∀ i, i < k → ∃ m y, DataW.trod enc P w base spare held m e ((cs.drop (i * P.cellsOf e)).take (P.cellsOf e)) = some y := by
  cases fuel with
  | zero => simp [DataW.trod] at h
  | succ n =>
    unfold DataW.trod at h
    simp only [ht] at h
    split at h
    · rename_i hl
      obtain ⟨xs, hxs, _⟩ := Option.map_eq_some_iff.1 h
      refine ⟨hl, fun i hi => ?_⟩
      have := mapM_some_get hxs i i (by simp [hi])
      have hlen := mapM_some_length hxs
      rw [List.getElem?_eq_getElem (by simp at hlen; omega)] at this
      exact ⟨n, _, this⟩
    · cases h
end
end Go.Ck
end

section
namespace Go.Ck
open Go Go.ChangeShapes
set_option linter.unusedVariables false
set_option maxHeartbeats 1000000
section
variable {H : Type} {enc : TypeId × Value → H} {P : Program} {w : World} {base : Nat} {spare : Nat → Bool} {held : Bool}

theorem cells_get' {a : Addr} {n : Nat} {cs : List Value} (h : w.cells? base a n = some cs) {j : Nat} {u : Value} (hj : cs[j]? = some u) : w.cell? (a.add j) = some u := by
  unfold World.cells? at h
  split at h
  · have hl := mapM_some_length h
    have hjl : j < cs.length := (List.getElem?_eq_some_iff.1 hj).1
    have := mapM_some_get h j j (by rw [List.length_range] at hl; exact List.getElem?_range (by omega))
    rw [this, hj]
  · cases h

theorem trod_slice_of {T e k : Nat} {α : Type} {en : α → List Value} {R : α → Prop} (tu : P.underlying T = some (.slice e)) (hc : P.cellsOf e = k) (hk0 : 0 < k) (hlen : ∀ x, (en x).length = k)
    (hel : ∀ (m : Nat) (cs : List Value) (y : DataW H × List MemPlace), DataW.trod enc P w base spare held m e cs = some y → ∃ x : α, R x ∧ cs = en x)
    {m : Nat} {cs : List Value} {y : DataW H × List MemPlace} (h : DataW.trod enc P w base spare held m T cs = some y) :
    ∃ (v : Value) (l : List α), cs = [v] ∧ Sc (fun b => w.heap[b]?) k v l.length (l.flatMap en) ∧ l.length ≤ maxLen ∧ ∀ x ∈ l, R x := by
  subst hc
  rcases Go.Deep.open_slice tu h with ⟨rfl, _⟩ | ⟨a, len, cap, q, n, D, Pl, rfl, _, h1, h2, hk, _, hall⟩
  · exact ⟨_, [], rfl, Sc.nil _ _ none 0, Nat.zero_le _, fun x hx => by cases hx⟩
  · have hkl : len ≤ q := by rw [hk]; split <;> omega
    have hex : ∀ i, i < len → ∃ d : α, R d ∧ w.cells? base (a.add (i * P.cellsOf e)) (P.cellsOf e) = some (en d) := fun i hi => by
      obtain ⟨cs', e1, e2⟩ := hall i (by omega)
      obtain ⟨d, hr, rfl⟩ := hel _ _ _ e2
      exact ⟨d, hr, e1⟩
    generalize P.cellsOf e = k at hex hk0 hlen ⊢
    by_cases h0 : len = 0
    · subst h0
      exact ⟨_, [], rfl, ⟨by simp, some a, cap, rfl, Nat.zero_le _, .inl rfl⟩, Nat.zero_le _, fun x hx => by cases hx⟩
    obtain ⟨d0, _⟩ := hex 0 (by omega)
    obtain ⟨f, hf'⟩ : ∃ f : Nat → α, ∀ i, i < len → R (f i) ∧ w.cells? base (a.add (i * k)) k = some (en (f i)) := by
      classical
      exact ⟨fun i => if hi : i < len then (hex i hi).choose else d0, fun i hi => by
        dsimp only
        rw [dif_pos hi]
        exact (hex i hi).choose_spec⟩
    have hf := fun i hi => (hf' i hi).2
    refine ⟨_, (List.range len).map f, rfl, ⟨?_, some a, cap, by simp, by simpa using h1, ?_⟩, by simp; omega, fun x hx => ?_⟩
    · rw [flat_len hlen]
    · refine .inr ?_
      have hc00 : 0 < (en (f 0)).length := by rw [hlen]; exact hk0
      have hc0 := cells_get' (hf 0 (by omega)) (j := 0) (List.getElem?_eq_getElem hc00)
      obtain ⟨b, o, sp⟩ := a
      have hadd : ∀ i j, ((⟨b, o, sp⟩ : Addr).add i).add j = (⟨b, o, sp⟩ : Addr).add (i + j) := fun i j => Go.Deep.add_add _ i j
      rw [hadd] at hc0
      have hblk : ((⟨b, o, sp⟩ : Addr).add (0 * k + 0)) = ⟨b, o, sp⟩ := by simp [Addr.add]
      rw [hblk] at hc0
      unfold World.cell? at hc0
      split at hc0
      · rename_i c e fz hb
        split at hc0
        · cases hc0
        · rename_i hsp
          have hsp' : sp = none := by simpa using hsp
          subst hsp'
          refine ⟨b, o, c, e, fz, rfl, hb, fun j u hj => ?_⟩
          have hjl : j < len * k := by
            have := (List.getElem?_eq_some_iff.1 hj).1
            rw [flat_len hlen] at this
            simpa using this
          have hjk : j / k < len := Nat.div_lt_of_lt_mul (by rw [Nat.mul_comm]; exact hjl)
          have hd : j / k < ((List.range len).map f).length := by simpa using hjk
          have e1 : (((List.range len).map f).flatMap en)[j]? = (en (f (j / k)))[j % k]? := by
            have := flat_at hlen ((List.range len).map f) (j / k) hd
            have e3 : ((List.range len).map f)[j / k] = f (j / k) := by simp
            rw [e3] at this
            rw [← this, List.getElem?_take_of_lt (Nat.mod_lt _ hk0), List.getElem?_drop]
            congr 1
            rw [Nat.mul_comm]
            exact (Nat.div_add_mod j k).symm
          rw [e1] at hj
          have := cells_get' (hf (j / k) hjk) hj
          rw [hadd, Addr.add_off] at this
          unfold World.cell? at this
          simp only [hb] at this
          simp only [Option.isSome_none, Bool.false_eq_true, if_false] at this
          have ej : j / k * k + j % k = j := by rw [Nat.mul_comm]; exact Nat.div_add_mod j k
          rw [ej] at this
          exact this
      · cases hc0
    · obtain ⟨i, hi, rfl⟩ := List.mem_map.1 hx
      exact (hf' i (by simpa using hi)).1
end
end Go.Ck
end
