/-
  The statement RepairDoneSaid: for every input the law RepairDone returns true, and its arguments read as they did.
  Conditions: none.
-/
import Derived.Deep.Slices
import Derived.Carry
import Derived.DataReads
import Derived.DataShut
import Derived.Test.YtkkjppeaaicgaaaRows
import Derived.WalkKit
import Derived.ProofKit
import Derived.OpenShut
import Derived.Test.YtkkjppeaaicgaaaRpDPM15
section
namespace Go.Proofs.Ytkkjppeaaicgaaa
open Go Go.Ck
set_option maxRecDepth 100000
set_option maxHeartbeats 4000000
set_option linter.unusedVariables false

/-- the document's answers, as an argument has them -/
def Ra (h : View) (v : Value) (l : List An) : Prop := Sc h 2 v l.length (l.flatMap anc) ∧ ∀ x ∈ l, Rs h x.sv x.set
theorem Ra.mono {h h' : View} {v : Value} {l : List An} (s : Ra h v l) (hl : Le h h') : Ra h' v l := ⟨s.1.mono hl, fun x hx => (s.2 x hx).mono hl⟩
theorem tame_fits {T l : List Sb} (e : T.map Sb.a = (l.take 5).map fun x => cutA 34 60 x.a) : Fits T := by
  refine ⟨?_, fun x hx => ?_⟩
  · have := congrArg List.length e
    simp at this
    omega
  · have h2 : x.a ∈ (l.take 5).map fun x => cutA 34 60 x.a := by rw [← e]; exact List.mem_map_of_mem hx
    obtain ⟨y, _, e⟩ := List.mem_map.1 h2
    have e1 : x.l = y.l.take 34 := (congrArg (·.2.2.1) e).symm
    have e2 : x.b = y.b.take 60 := (congrArg (·.2.2.2) e).symm
    rw [e1, e2]
    simp
    omega
theorem fits_same {T I : List Sb} (e : I.map Sb.a = T.map Sb.a) (f : Fits T) : Fits I := by
  refine ⟨?_, fun x hx => ?_⟩
  · have := congrArg List.length e
    simp at this
    rw [this]
    exact f.1
  · have h2 : x.a ∈ T.map Sb.a := by rw [← e]; exact List.mem_map_of_mem hx
    obtain ⟨y, hy, e⟩ := List.mem_map.1 h2
    have e1 : x.l = y.l := (congrArg (·.2.2.1) e).symm
    have e2 : x.b = y.b := (congrArg (·.2.2.2) e).symm
    rw [e1, e2]
    exact f.2 y hy
theorem anc_one {h : View} {l : List An} (hs : ∀ x ∈ l, Ss h x.sv x.set) : ∀ u ∈ l.flatMap anc, u.oneCell' = true := fun u hu => by
  obtain ⟨x, hx, hu⟩ := List.mem_flatMap.1 hu
  obtain ⟨_, _, _, e, _⟩ := (hs x hx).1
  simp only [anc, e, List.mem_cons, List.not_mem_nil, or_false] at hu
  rcases hu with rfl | rfl <;> rfl
theorem spl_an {l : List An} {j o : Nat} {x : An} {v : Value} {S : List Sb} (hx : l[j]? = some x) (ho : o = 0 + j * 2 + 1) : spl (l.flatMap anc) o [v] = (l.set j ⟨x.fr, v, S⟩).flatMap anc := by
  subst ho
  induction l generalizing j with
  | nil => simp at hx
  | cons y l ih =>
    cases j with
    | zero =>
      have e : y = x := by simpa using hx
      subst e
      rfl
    | succ j =>
      have h1 := ih (j := j) (by simpa using hx)
      obtain ⟨q, hq⟩ : ∃ q, q = 0 + j * 2 + 1 := ⟨_, rfl⟩
      rw [← hq] at h1
      unfold spl at h1 ⊢
      simp only [List.flatMap_cons, List.set_cons_succ]
      have e1 : 0 + (j + 1) * 2 + 1 = (anc y).length + q := by rw [anc_len]; omega
      rw [e1, List.take_length_add_append, Nat.add_assoc, List.drop_length_add_append, List.append_assoc, List.append_assoc, ← List.append_assoc (List.take _ _), h1]
theorem one_an (k : Int) (ad : Option Addr) (m c : Nat) : ∀ u ∈ [Value.int .i64 k, .slice ad m c], u.oneCell' = true := fun u hu => by
  simp only [List.mem_cons, List.not_mem_nil, or_false] at hu
  rcases hu with rfl | rfl <;> rfl
/-- the row is numbered -/
def NumA (l : List An) : Prop := ∀ (i : Nat) x, l[i]? = some x → x.fr = (i : Int)
theorem lack_all {O : List An} {W : List Ab} (hw : wholeF [] (setsA O) = (W, 0)) (hn : NumA O) : ∀ (j : Nat) x, O[j]? = some x → x.set.map Sb.a = W ∨ (j : Int) ∈ lackF O := fun j x hx => by
  by_cases e : x.set.map Sb.a = W
  · exact .inl e
  · right
    unfold lackF
    rw [hw, if_pos rfl]
    refine List.mem_map.2 ⟨x, List.mem_filter.2 ⟨List.mem_of_getElem? hx, by simp [e]⟩, hn j x hx⟩
theorem lack_bd {O : List An} (hn : NumA O) : ∀ n ∈ lackF O, 0 ≤ n ∧ n < O.length := fun n h => by
  unfold lackF at h
  split at h
  · obtain ⟨x, hx, rfl⟩ := List.mem_map.1 h
    obtain ⟨i, hi, rfl⟩ := List.mem_iff_getElem.1 (List.mem_filter.1 hx).1
    rw [hn i O[i] (List.getElem?_eq_getElem hi)]
    omega
  · cases h
theorem lack_none {O : List An} {W : List Ab} (hw : wholeF [] (setsA O) = (W, 0)) (ha : ∀ x ∈ O, x.set.map Sb.a = W) : lackF O = [] := by
  unfold lackF
  rw [hw, if_pos rfl, List.filter_eq_nil_iff.2 fun x hx => by simp [ha x hx]]
  rfl
/-- when all that lack something are given the whole, they come to the same -/
theorem whole_again {O O' : List An} {W : List Ab} (hw : wholeF [] (setsA O) = (W, 0)) (hl : O'.length = O.length) (ha : ∀ x ∈ O', x.set.map Sb.a = W) : wholeF [] (setsA O') = (W, 0) := by
  have hc : checkA W = 0 := by
    have := wholeF_set (r := setsA O) (o := []) (by kernel_rfl) (by rw [hw])
    rwa [hw] at this
  refine wholeF_all hc (fun B hB => ?_) fun h0 => ?_
  · obtain ⟨x, hx, rfl⟩ := List.mem_map.1 hB
    exact ha x hx
  · have : O' = [] := List.map_eq_nil_iff.1 h0
    rw [this] at hl
    have : O = [] := List.eq_nil_of_length_eq_zero hl.symm
    rw [this] at hw
    exact (congrArg (·.1) hw).symm

theorem RepairDone_sp (lv : Value) (l : List An) (h : View) (hs : Ra h lv l) (hl : l.length ≤ 9223372036854775807) (hll : ∀ x ∈ l, x.set.length ≤ 9223372036854775807 ∧ ∀ y ∈ x.set, y.l.length ≤ 9223372036854775807 ∧ y.b.length ≤ 9223372036854775807) (w : World) (s : St ⟨w, h, []⟩ h [] w) :
    Calls Try.prog 5 [lv].toArray w fun e w' => ∃ h', e = .returned (.bool true) ∧ St ⟨w, h, []⟩ h' [] w' := by
  obtain ⟨hs, hsv⟩ := hs
  obtain ⟨_, ad, cap, rfl, hcap, _⟩ := id hs
  refine calls_enter Try.func5 rfl Try.ntmps5 rfl s ?_
  iterate 10 (first | refine t1_ ?_ | (refine ta_ ?_; intro _) | ((fail_if_success (refine ybi rfl ?_)); refine ybj rfl ?_ ?_ <;> (intro ht; rw [ht]; first | replace ht := of_decide_eq_true ht | replace ht := of_decide_eq_false ht | skip)) | (refine ych ?_; first | (refine ybw rfl ?_ ?_ <;> intro ht) | (refine ybx rfl ?_ ?_ <;> intro ht)))
  refine ybo ?_
  refine cx_cut (X := View × Value × List An) (fun y => [(3, y.2.1)]) (fun y => y.1) (fun y => [rowA y.2.1 y.2.2]) (fun y => y.2.2.length ≤ 6 ∧ Le h y.1 ∧ AnOk y.1 y.2.2 ∧ NumA y.2.2) ?_ ?_
  · --
    repeat' (first | refine tw_ ?_ | (refine ta_ ?_; intro _) | ((fail_if_success (refine ybi rfl ?_)); refine ybj rfl ?_ ?_ <;> (intro ht; rw [ht]; first | replace ht := of_decide_eq_true ht | replace ht := of_decide_eq_false ht | skip)) | (refine ych ?_; first | (refine ybw rfl ?_ ?_ <;> intro ht) | (refine ybx rfl ?_ ?_ <;> intro ht)))
    refine cx_row 50 2 ?_
    refine cx_loop (X := Nat × View × Value × List An) (fun y => [(0, .slice ad l.length cap), (3, y.2.2.1), (4, .int .i64 (y.1 : Nat))]) (fun y => y.2.1) (fun y => [rowA y.2.2.1 y.2.2.2])
      (fun y => y.1 ≤ l.length ∧ y.1 ≤ 6 ∧ y.2.2.2.length = y.1 ∧ Le h y.2.1 ∧ AnOk y.2.1 y.2.2.2 ∧ NumA y.2.2.2) (fun y => 6 - y.1) (0, h, .slice none 0 0, []) ⟨Nat.zero_le _, Nat.zero_le _, rfl, Le.refl _, fun o ho => (by cases ho), fun i x hx => (by simp at hx)⟩ ts_ (fun _ s => s) ?_
    rintro ⟨k, hk, vo, O⟩ ⟨p1, p2, p3, p4, p5, p6⟩
    dsimp only at p1 p2 p3 p4 p5 p6 ⊢
    by_cases hkl : k < l.length ∧ k < 6
    · obtain ⟨hkl, hk6⟩ := hkl
      obtain ⟨bs, o, rfl⟩ := hs.ad (by omega) (by omega)
      have hs3 := hs.mono p4
      have hel : ∀ L, Cells hk L ⟨bs, o + k * 2, none⟩ (anc l[k]) := fun L => hs3.elem anc_len k hkl
      have hxv : Rs hk l[k].sv l[k].set := (hsv _ (List.getElem_mem hkl)).mono p4
      have hlim := hll _ (List.getElem_mem hkl)
      generalize l[k] = e0 at hel hxv hlim
      obtain ⟨fr, sv, set⟩ := e0
      obtain ⟨_, ads, caps, hsv', _, _⟩ := id hxv.1
      dsimp only at hsv' hxv hlim
      subst hsv'
      have hel1 : ∀ L, CellAt hk L bs (o + k * 2 + 1) (.slice ads set.length caps) := fun L => (hel L).cell (j := 1) rfl
      repeat' (first | (refine ycf ?_; apply ybk; (· first | (exact tk_) | (apply yae; (· rfl); (· (exact hel1 _)))); (· rfl); (· rfl)) | refine t1_ ?_ | (refine ta_ ?_; intro _) | ((fail_if_success (refine ybi rfl ?_)); refine ybj rfl ?_ ?_ <;> (intro ht; rw [ht]; first | replace ht := of_decide_eq_true ht | replace ht := of_decide_eq_false ht | skip)) | (refine ych ?_; first | (refine ybw rfl ?_ ?_ <;> intro ht) | (refine ybx rfl ?_ ?_ <;> intro ht)))
      (refine yco (ycp Try.func16 rfl (by kernel_rfl) rfl) (rtame_sp _ set hk hxv hlim.1 hlim.2) rfl rfl rfl ?_ ?_ ?_; (· (exact to_)); (· intro _ _ hle; (exact to_)); intro x px hle)
      obtain ⟨h1, v1, T⟩ := x
      obtain ⟨hT, eT⟩ := px
      dsimp only at hT eT
      have hle1 : Le hk h1 := hle
      clear hle
      have fT := tame_fits eT
      (refine yco (ycp Try.func17 rfl (by kernel_rfl) rfl) (rto_sp v1 T h1 hT fT) rfl rfl rfl ?_ ?_ ?_; (· (exact to_)); (· intro _ _ hle; (exact to_)); intro x px hle)
      obtain ⟨h2, v2, I⟩ := x
      obtain ⟨hI, eI⟩ := px
      dsimp only at hI eI
      have hle2 : Le h1 h2 := hle
      clear hle
      have fI := fits_same eI fT
      obtain ⟨_, ad2, cap2, hv2, _, _⟩ := id hI.1
      subst hv2
      repeat' (first | (refine ycf ?_; apply ybk; (· first | (exact tk_) | (apply yae; (· rfl); (· (exact hel1 _)))); (· rfl); (· rfl)) | refine t1_ ?_ | (refine ta_ ?_; intro _) | ((fail_if_success (refine ybi rfl ?_)); refine ybj rfl ?_ ?_ <;> (intro ht; rw [ht]; first | replace ht := of_decide_eq_true ht | replace ht := of_decide_eq_false ht | skip)) | (refine ych ?_; first | (refine ybw rfl ?_ ?_ <;> intro ht) | (refine ybx rfl ?_ ?_ <;> intro ht)))
      refine rx_append (sz := 2) 1 rfl rfl rfl (yaz 0 rfl) rfl (one_an k ad2 I.length cap2) rfl (by omega) (by unfold maxLen; omega) (by omega) rfl rfl rfl ybf (fun _ => ybf) ?_
      intro v3 _
      repeat' (first | (refine ycf ?_; apply ybk; (· first | (exact tk_) | (apply yae; (· rfl); (· (exact hel1 _)))); (· rfl); (· rfl)) | refine t1_ ?_ | (refine ta_ ?_; intro _) | ((fail_if_success (refine ybi rfl ?_)); refine ybj rfl ?_ ?_ <;> (intro ht; rw [ht]; first | replace ht := of_decide_eq_true ht | replace ht := of_decide_eq_false ht | skip)) | (refine ych ?_; first | (refine ybw rfl ?_ ?_ <;> intro ht) | (refine ybx rfl ?_ ?_ <;> intro ht)))
      refine nx_round (k + 1, h2, v3, O ++ [⟨(k : Nat), .slice ad2 I.length cap2, I⟩]) ⟨by show k + 1 ≤ _; omega, by show k + 1 ≤ 6; omega, by show (O ++ [_]).length = _; simp [p3], p4.trans (hle1.trans hle2), ?_, ?_⟩ (by show 6 - (k + 1) < 6 - k; omega) ts_ (fun _ s => ?_)
      · intro x hx
        rcases List.mem_append.1 hx with hx | hx
        · exact p5.mono (hle1.trans hle2) x hx
        · rw [List.mem_singleton.1 hx]
          exact ⟨hI, fI⟩
      · intro i x hx
        dsimp only at hx
        rw [List.getElem?_append] at hx
        split at hx
        · exact p6 i x hx
        · rename_i hi
          have hi2 : i = k := by
            have := (List.getElem?_eq_some_iff.1 hx).1
            simp at this
            omega
          subst hi2
          have : x = ⟨(i : Nat), .slice ad2 I.length cap2, I⟩ := by
            rw [p3, Nat.sub_self] at hx
            simpa using hx.symm
          rw [this]
      · have s2 := s.tl
        dsimp only
        show St _ h2 [Res.row _ _ v3 (O ++ [_]).length ((O ++ [_]).flatMap anc)] _
        rw [List.length_append, List.flatMap_append]
        exact s2
    · --
      by_cases hk0 : k < l.length
      · have hk6 : ¬ k < 6 := fun hx => hkl ⟨hk0, hx⟩
        repeat' (first | (refine ycf ?_; apply ybk; (· first | (exact tk_) | (apply yae; (· rfl); (· (exact hel1 _)))); (· rfl); (· rfl)) | refine t1_ ?_ | (refine ta_ ?_; intro _) | ((fail_if_success (refine ybi rfl ?_)); refine ybj rfl ?_ ?_ <;> (intro ht; rw [ht]; first | replace ht := of_decide_eq_true ht | replace ht := of_decide_eq_false ht | skip)) | (refine ych ?_; first | (refine ybw rfl ?_ ?_ <;> intro ht) | (refine ybx rfl ?_ ?_ <;> intro ht)))
        exact nx_cut (hk, vo, O) ⟨by show O.length ≤ 6; omega, p4, p5, p6⟩ ts_ (fun _ s => s)
      · repeat' (first | (refine ycf ?_; apply ybk; (· first | (exact tk_) | (apply yae; (· rfl); (· (exact hel1 _)))); (· rfl); (· rfl)) | refine t1_ ?_ | (refine ta_ ?_; intro _) | ((fail_if_success (refine ybi rfl ?_)); refine ybj rfl ?_ ?_ <;> (intro ht; rw [ht]; first | replace ht := of_decide_eq_true ht | replace ht := of_decide_eq_false ht | skip)) | (refine ych ?_; first | (refine ybw rfl ?_ ?_ <;> intro ht) | (refine ybx rfl ?_ ?_ <;> intro ht)))
        exact nx_cut (hk, vo, O) ⟨by show O.length ≤ 6; omega, p4, p5, p6⟩ ts_ (fun _ s => s)
  rintro ⟨h1, vO, O⟩ ⟨q1, q2, q3, q4⟩
  dsimp only at q1 q2 q3 q4 ⊢
  refine yby ?_
  iterate 3 (first | (refine ycf ?_; apply ybk; (· first | (exact tk_) | (apply yae; (· rfl); (· (exact hel1 _)))); (· rfl); (· rfl)) | refine t1_ ?_ | (refine ta_ ?_; intro _) | ((fail_if_success (refine ybi rfl ?_)); refine ybj rfl ?_ ?_ <;> (intro ht; rw [ht]; first | replace ht := of_decide_eq_true ht | replace ht := of_decide_eq_false ht | skip)) | (refine ych ?_; first | (refine ybw rfl ?_ ?_ <;> intro ht) | (refine ybx rfl ?_ ?_ <;> intro ht)))
  refine rx_rowslice 0 rfl fun adO capO hvO => ?_
  subst hvO
  obtain ⟨⟨WA, er⟩, hW⟩ : ∃ p, p = wholeF [] (setsA O) := ⟨_, rfl⟩
  have WH := whole_sp adO capO O h1 (by omega) q3
  rw [← hW] at WH
  repeat' (first | (refine ycf ?_; apply ybk; (· first | (exact tk_) | (apply yae; (· rfl); (· (exact hel1 _)))); (· rfl); (· rfl)) | refine t1_ ?_ | (refine ta_ ?_; intro _) | ((fail_if_success (refine ybi rfl ?_)); refine ybj rfl ?_ ?_ <;> (intro ht; rw [ht]; first | replace ht := of_decide_eq_true ht | replace ht := of_decide_eq_false ht | skip)) | (refine ych ?_; first | (refine ybw rfl ?_ ?_ <;> intro ht) | (refine ybx rfl ?_ ?_ <;> intro ht)))
  (refine rx_call_m (ycp Try.func18 rfl (by kernel_rfl) rfl) (perm_at (k := 0) rfl) (WH) rfl rfl rfl ?_ ?_ ?_; (· (exact to_)); (· intro _ _ hle; (exact to_)); intro x px hle)
  obtain ⟨h2, v2, M⟩ := x
  obtain ⟨S2, E2⟩ := px
  dsimp only at S2 E2
  have hle2 : Le h1 h2 := hle
  clear hle
  have LK := lacking_sp adO capO O h2 (by omega) (q3.mono hle2)
  rw [← hW] at LK
  repeat' (first | (refine ycf ?_; apply ybk; (· first | (exact tk_) | (apply yae; (· rfl); (· (exact hel1 _)))); (· rfl); (· rfl)) | refine t1_ ?_ | (refine ta_ ?_; intro _) | ((fail_if_success (refine ybi rfl ?_)); refine ybj rfl ?_ ?_ <;> (intro ht; rw [ht]; first | replace ht := of_decide_eq_true ht | replace ht := of_decide_eq_false ht | skip)) | (refine ych ?_; first | (refine ybw rfl ?_ ?_ <;> intro ht) | (refine ybx rfl ?_ ?_ <;> intro ht)))
  (refine rx_call_m (ycp Try.func20 rfl (by kernel_rfl) rfl) (perm_at (k := 0) rfl) (LK) rfl rfl rfl ?_ ?_ ?_; (· (exact to_)); (· intro _ _ hle; (exact to_)); intro x px hle)
  obtain ⟨h3, v3, c⟩ := x
  obtain ⟨S3, E3⟩ := px
  dsimp only at S3 E3
  have hle3 : Le h2 h3 := hle
  clear hle
  by_cases he : er = 0
  · subst he
    repeat' (first | (refine ycf ?_; apply ybk; (· first | (exact tk_) | (apply yae; (· rfl); (· (exact hel1 _)))); (· rfl); (· rfl)) | refine t1_ ?_ | (refine ta_ ?_; intro _) | ((fail_if_success (refine ybi rfl ?_)); refine ybj rfl ?_ ?_ <;> (intro ht; rw [ht]; first | replace ht := of_decide_eq_true ht | replace ht := of_decide_eq_false ht | skip)) | (refine ych ?_; first | (refine ybw rfl ?_ ?_ <;> intro ht) | (refine ybx rfl ?_ ?_ <;> intro ht)))
    (refine ycn (ycp Try.func22 rfl (by kernel_rfl) rfl) (repairs_sp h3) rfl rfl rfl ?_ ?_; (· (exact to_)))
    repeat' (first | (refine ycf ?_; apply ybk; (· first | (exact tk_) | (apply yae; (· rfl); (· (exact hel1 _)))); (· rfl); (· rfl)) | refine t1_ ?_ | (refine ta_ ?_; intro _) | ((fail_if_success (refine ybi rfl ?_)); refine ybj rfl ?_ ?_ <;> (intro ht; rw [ht]; first | replace ht := of_decide_eq_true ht | replace ht := of_decide_eq_false ht | skip)) | (refine ych ?_; first | (refine ybw rfl ?_ ?_ <;> intro ht) | (refine ybx rfl ?_ ?_ <;> intro ht)))
    have hbd : ∀ n ∈ c, 0 ≤ n ∧ n < O.length := by rw [E3]; exact lack_bd q4
    have hall : ∀ (j : Nat) x, O[j]? = some x → x.set.map Sb.a = WA ∨ (j : Int) ∈ c := by rw [E3]; exact lack_all hW.symm q4
    have fM : Fits M := by
      have hc := wholeF_set (r := setsA O) (o := []) (by kernel_rfl) (by rw [← hW])
      rw [← hW] at hc
      exact fits_check (by rw [E2]; exact hc)
    have hcl : c.length ≤ O.length := by
      rw [E3]
      unfold lackF
      split
      · rw [List.length_map]; exact List.length_filter_le ..
      · exact Nat.zero_le _
    obtain ⟨_, ad2, cap2, hv2, _, _⟩ := id S2.1
    subst hv2
    obtain ⟨_, ad3, cap3, hv3, _, _⟩ := id S3
    subst hv3
    have S23 := S2.mono hle3
    refine cx_loop (X := Nat × List An) (fun y => [(3, .slice adO O.length capO), (5, .slice ad2 M.length cap2), (7, .slice ad3 c.length cap3), (9, .int .i64 (y.1 : Nat))]) (fun _ => h3) (fun y => [Res.row 50 2 (.slice adO O.length capO) O.length (y.2.flatMap anc)])
      (fun y => y.1 ≤ c.length ∧ y.2.length = O.length ∧ AnOk h3 y.2 ∧ ∀ (j : Nat) x, y.2[j]? = some x → x.set.map Sb.a = WA ∨ (j : Int) ∈ c.drop y.1) (fun y => c.length - y.1) (0, O) ⟨Nat.zero_le _, rfl, q3.mono (hle2.trans hle3), hall⟩ ts_ (fun _ s => s) ?_
    rintro ⟨k, O1⟩ ⟨p1, p2, p3, p4⟩
    dsimp only at p1 p2 p3 p4 ⊢
    by_cases hkl : k < c.length
    · refine cx_rowform 0 rfl (fun e1 e2 e3 => ?_) ?_
      · omega
      rintro g cap' hgc
      cases hgc
      obtain ⟨bs, o, rfl⟩ := S3.ad (by omega) (by omega)
      have hdr : c.drop k = c[k] :: c.drop (k + 1) := List.drop_eq_getElem_cons hkl
      have hcel : ∀ L, CellAt h3 L bs (o + k) (.int .i64 c[k]) := fun L => (S3.cells (L := L)).cell (by simp [ics, hkl])
      have hb := hbd _ (List.getElem_mem hkl)
      rw [hdr] at p4
      generalize c[k] = n0 at hcel hb p4
      obtain ⟨j0, rfl⟩ : ∃ j : Nat, n0 = (j : Int) := ⟨n0.toNat, by omega⟩
      obtain ⟨x0, hx0⟩ : ∃ x, O1[j0]? = some x := ⟨_, List.getElem?_eq_getElem (by omega)⟩
      repeat' (first|(refine ycf ?_;apply ybk;(·first|(exact tk_)|(apply yae;(·rfl);(·(first|exact hcel _|(rw [Nat.mul_one];exact hcel _)))));(·rfl);(·rfl))|(refine rx_rowstore 0 rfl rfl rfl rfl (by show 0 + (j0 : Int).toNat * 2 + 1 + 1 ≤ _;omega) rfl (spl_an (S := M) hx0 (by show 0 + (j0 : Int).toNat * 2 + 1 = _;omega)) rfl rfl ?_ ?_ ?_;(·(exact to_));(·(exact to_)))|refine t1_ ?_|(refine ta_ ?_;intro _)|((fail_if_success (refine ybi rfl ?_));refine ybj rfl ?_ ?_<;>(intro ht;rw [ht];first|replace ht := of_decide_eq_true ht|replace ht := of_decide_eq_false ht|skip))|(refine ych ?_;first|(refine ybw rfl ?_ ?_<;>intro ht)|(refine ybx rfl ?_ ?_<;>intro ht)))
      refine nx_round (k + 1, O1.set j0 ⟨x0.fr, .slice ad2 M.length cap2, M⟩) ⟨by show k + 1 ≤ _; omega, by show (O1.set _ _).length = _; rw [List.length_set]; exact p2, ?_, ?_⟩ (by show c.length - (k + 1) < c.length - k; omega) ts_ (fun _ s => s)
      · intro x hx
        rcases List.mem_or_eq_of_mem_set hx with hx | hx
        · exact p3 x hx
        · rw [hx]
          exact ⟨S23, fM⟩
      · intro j x hx
        dsimp only at hx
        rw [List.getElem?_set] at hx
        split at hx
        · rename_i ej
          rw [if_pos (by omega)] at hx
          left
          rw [← Option.some.inj hx]
          exact E2
        · rename_i ej
          rcases p4 j x hx with h4 | h4
          · exact .inl h4
          · rcases List.mem_cons.1 h4 with h4 | h4
            · exact absurd (by omega) ej
            · exact .inr h4
    · have hd0 : c.drop k = [] := List.drop_of_length_le (by omega)
      rw [hd0] at p4
      have ha : ∀ x ∈ O1, x.set.map Sb.a = WA := fun x hx => by
        obtain ⟨j, hj, rfl⟩ := List.mem_iff_getElem.1 hx
        rcases p4 j O1[j] (List.getElem?_eq_getElem hj) with h4 | h4
        · exact h4
        · cases h4
      have hW1 := whole_again hW.symm p2 ha
      have eR : rowA (.slice adO O.length capO) O1 = Res.row 50 2 (.slice adO O.length capO) O.length (O1.flatMap anc) := by
        show Res.row _ _ _ O1.length _ = _
        rw [p2]
      have LK2 := lacking_sp adO capO O1 h3 (by omega) p3
      rw [hW1, lack_none hW1 ha, p2] at LK2
      simp only [eR] at LK2
      repeat' (first|(refine ycf ?_;apply ybk;(·first|(exact tk_)|(apply yae;(·rfl);(·(first|exact hcel _|(rw [Nat.mul_one];exact hcel _)))));(·rfl);(·rfl))|(refine rx_rowstore 0 rfl rfl rfl rfl (by show 0 + (j0 : Int).toNat * 2 + 1 + 1 ≤ _;omega) rfl (spl_an (S := M) hx0 (by show 0 + (j0 : Int).toNat * 2 + 1 = _;omega)) rfl rfl ?_ ?_ ?_;(·(exact to_));(·(exact to_)))|refine t1_ ?_|(refine ta_ ?_;intro _)|((fail_if_success (refine ybi rfl ?_));refine ybj rfl ?_ ?_<;>(intro ht;rw [ht];first|replace ht := of_decide_eq_true ht|replace ht := of_decide_eq_false ht|skip))|(refine ych ?_;first|(refine ybw rfl ?_ ?_<;>intro ht)|(refine ybx rfl ?_ ?_<;>intro ht)))
      (refine rx_call_m (ycp Try.func20 rfl (by kernel_rfl) rfl) (perm_at (k := 0) rfl) (LK2) rfl rfl rfl ?_ ?_ ?_; (· (exact to_)); (· intro _ _ hle; (exact to_)); intro x px hle)
      obtain ⟨h4, v4, d⟩ := x
      obtain ⟨S4, E4⟩ := px
      dsimp only at S4 E4
      subst E4
      have hle4 : Le h3 h4 := hle
      clear hle
      obtain ⟨_, ad4, cap4, hv4, _, _⟩ := id S4
      subst hv4
      have WH2 := whole_sp adO capO O1 h4 (by omega) (p3.mono hle4)
      rw [hW1, p2] at WH2
      simp only [eR] at WH2
      repeat' (first|(refine ycf ?_;apply ybk;(·first|(exact tk_)|(apply yae;(·rfl);(·(first|exact hcel _|(rw [Nat.mul_one];exact hcel _)))));(·rfl);(·rfl))|(refine rx_rowstore 0 rfl rfl rfl rfl (by show 0 + (j0 : Int).toNat * 2 + 1 + 1 ≤ _;omega) rfl (spl_an (S := M) hx0 (by show 0 + (j0 : Int).toNat * 2 + 1 = _;omega)) rfl rfl ?_ ?_ ?_;(·(exact to_));(·(exact to_)))|refine t1_ ?_|(refine ta_ ?_;intro _)|((fail_if_success (refine ybi rfl ?_));refine ybj rfl ?_ ?_<;>(intro ht;rw [ht];first|replace ht := of_decide_eq_true ht|replace ht := of_decide_eq_false ht|skip))|(refine ych ?_;first|(refine ybw rfl ?_ ?_<;>intro ht)|(refine ybx rfl ?_ ?_<;>intro ht)))
      (refine rx_call_m (ycp Try.func18 rfl (by kernel_rfl) rfl) (perm_at (k := 0) rfl) (WH2) rfl rfl rfl ?_ ?_ ?_; (· (exact to_)); (· intro _ _ hle; (exact to_)); intro x px hle)
      obtain ⟨h5, v5, N⟩ := x
      obtain ⟨S5, E5⟩ := px
      dsimp only at S5 E5
      have hle5 : Le h4 h5 := hle
      clear hle
      have fN : Fits N := by
        have hc := wholeF_set (r := setsA O) (o := []) (by kernel_rfl) (by rw [← hW])
        rw [← hW] at hc
        exact fits_check (by rw [E5]; exact hc)
      have SM := sSame_sp v5 (.slice ad2 M.length cap2) N M h5 S5 (S23.mono (hle4.trans hle5)) (by have := fN.1; omega) (by have := fM.1; omega) (fun x hx => by have := (fN.2 x hx).1; omega) (fun x hx => by have := (fM.2 x hx).1; omega)
      rw [E5, E2, decide_eq_true rfl] at SM
      have l0 : ([] : List Int).length = 0 := rfl
      repeat' (first|(refine ycf ?_;apply ybk;(·first|(exact tk_)|(apply yae;(·rfl);(·(first|exact hcel _|(rw [Nat.mul_one];exact hcel _)))));(·rfl);(·rfl))|(refine rx_rowstore 0 rfl rfl rfl rfl (by show 0 + (j0 : Int).toNat * 2 + 1 + 1 ≤ _;omega) rfl (spl_an (S := M) hx0 (by show 0 + (j0 : Int).toNat * 2 + 1 = _;omega)) rfl rfl ?_ ?_ ?_;(·(exact to_));(·(exact to_)))|refine t1_ ?_|(refine ta_ ?_;intro _)|((fail_if_success (refine ybi rfl ?_));refine ybj rfl ?_ ?_<;>(intro ht;rw [ht];first|replace ht := of_decide_eq_true ht|replace ht := of_decide_eq_false ht|skip))|(refine ych ?_;first|(refine ybw rfl ?_ ?_<;>intro ht)|(refine ybx rfl ?_ ?_<;>intro ht)))
      (refine ycn (ycp Try.func25 rfl (by kernel_rfl) rfl) (SM) rfl rfl rfl ?_ ?_; (· (exact to_)))
      repeat' (first|(refine ycf ?_;apply ybk;(·first|(exact tk_)|(apply yae;(·rfl);(·(first|exact hcel _|(rw [Nat.mul_one];exact hcel _)))));(·rfl);(·rfl))|(refine rx_rowstore 0 rfl rfl rfl rfl (by show 0 + (j0 : Int).toNat * 2 + 1 + 1 ≤ _;omega) rfl (spl_an (S := M) hx0 (by show 0 + (j0 : Int).toNat * 2 + 1 = _;omega)) rfl rfl ?_ ?_ ?_;(·(exact to_));(·(exact to_)))|refine t1_ ?_|(refine ta_ ?_;intro _)|((fail_if_success (refine ybi rfl ?_));refine ybj rfl ?_ ?_<;>(intro ht;rw [ht];first|replace ht := of_decide_eq_true ht|replace ht := of_decide_eq_false ht|skip))|(refine ych ?_;first|(refine ybw rfl ?_ ?_<;>intro ht)|(refine ybx rfl ?_ ?_<;>intro ht)))
      exact nx_ret1 rfl (rv_tmp rfl) (fun w' s' => ⟨h, rfl, s'.nil.base⟩)
  · repeat' (first|(refine ycf ?_;apply ybk;(·first|(exact tk_)|(apply yae;(·rfl);(·(first|exact hcel _|(rw [Nat.mul_one];exact hcel _)))));(·rfl);(·rfl))|(refine rx_rowstore 0 rfl rfl rfl rfl (by show 0 + (j0 : Int).toNat * 2 + 1 + 1 ≤ _;omega) rfl (spl_an (S := M) hx0 (by show 0 + (j0 : Int).toNat * 2 + 1 = _;omega)) rfl rfl ?_ ?_ ?_;(·(exact to_));(·(exact to_)))|refine t1_ ?_|(refine ta_ ?_;intro _)|((fail_if_success (refine ybi rfl ?_));refine ybj rfl ?_ ?_<;>(intro ht;rw [ht];first|replace ht := of_decide_eq_true ht|replace ht := of_decide_eq_false ht|skip))|(refine ych ?_;first|(refine ybw rfl ?_ ?_<;>intro ht)|(refine ybx rfl ?_ ?_<;>intro ht)))
    (refine ycn (ycp Try.func22 rfl (by kernel_rfl) rfl) (repairs_sp h3) rfl rfl rfl ?_ ?_; (· (exact to_)))
    repeat' (first|(refine ycf ?_;apply ybk;(·first|(exact tk_)|(apply yae;(·rfl);(·(first|exact hcel _|(rw [Nat.mul_one];exact hcel _)))));(·rfl);(·rfl))|(refine rx_rowstore 0 rfl rfl rfl rfl (by show 0 + (j0 : Int).toNat * 2 + 1 + 1 ≤ _;omega) rfl (spl_an (S := M) hx0 (by show 0 + (j0 : Int).toNat * 2 + 1 = _;omega)) rfl rfl ?_ ?_ ?_;(·(exact to_));(·(exact to_)))|refine t1_ ?_|(refine ta_ ?_;intro _)|((fail_if_success (refine ybi rfl ?_));refine ybj rfl ?_ ?_<;>(intro ht;rw [ht];first|replace ht := of_decide_eq_true ht|replace ht := of_decide_eq_false ht|skip))|(refine ych ?_;first|(refine ybw rfl ?_ ?_<;>intro ht)|(refine ybx rfl ?_ ?_<;>intro ht)))
    (refine ycn (ycp Try.func22 rfl (by kernel_rfl) rfl) (repairs_sp h3) rfl rfl rfl ?_ ?_; (· (exact to_)))
    repeat' (first|(refine ycf ?_;apply ybk;(·first|(exact tk_)|(apply yae;(·rfl);(·(first|exact hcel _|(rw [Nat.mul_one];exact hcel _)))));(·rfl);(·rfl))|(refine rx_rowstore 0 rfl rfl rfl rfl (by show 0 + (j0 : Int).toNat * 2 + 1 + 1 ≤ _;omega) rfl (spl_an (S := M) hx0 (by show 0 + (j0 : Int).toNat * 2 + 1 = _;omega)) rfl rfl ?_ ?_ ?_;(·(exact to_));(·(exact to_)))|refine t1_ ?_|(refine ta_ ?_;intro _)|((fail_if_success (refine ybi rfl ?_));refine ybj rfl ?_ ?_<;>(intro ht;rw [ht];first|replace ht := of_decide_eq_true ht|replace ht := of_decide_eq_false ht|skip))|(refine ych ?_;first|(refine ybw rfl ?_ ?_<;>intro ht)|(refine ybx rfl ?_ ?_<;>intro ht)))
    exact nx_ret1 rfl (rv_tmp rfl) (fun w' s' => ⟨h, rfl, s'.nil.base⟩)
end Go.Proofs.Ytkkjppeaaicgaaa
end

section
namespace Go.Ck
open Go Go.ChangeShapes
set_option linter.unusedVariables false
section
variable {H : Type} {enc : TypeId × Value → H} {P : Program} {w : World} {base : Nat} {spare : Nat → Bool} {held : Bool}

theorem trod_fields {t : TypeId} {fs : Array Field} {fuel : Nat} {cs : List Value} {x : DataW H × List MemPlace} (ht : P.underlying t = some (.struct fs)) (h : DataW.trod enc P w base spare held fuel t cs = some x) :
    cs.length = P.cellsOf t ∧ ∀ f ∈ fs.toList, ∃ m y, DataW.trod enc P w base spare held m f.type ((cs.drop f.offset).take (P.cellsOf f.type)) = some y := by
  cases fuel with
  | zero => simp [DataW.trod] at h
  | succ n =>
    unfold DataW.trod at h
    simp only [ht] at h
    split at h
    · rename_i hl
      obtain ⟨xs, hxs, _⟩ := Option.map_eq_some_iff.1 h
      refine ⟨hl, fun f hf => ?_⟩
      obtain ⟨i, hi, rfl⟩ := List.getElem_of_mem hf
      have := mapM_some_get hxs i _ (List.getElem?_eq_getElem hi)
      have hlen := mapM_some_length hxs
      rw [List.getElem?_eq_getElem (by omega)] at this
      exact ⟨n, _, this⟩
    · cases h

theorem trod_elems {t e : TypeId} {k fuel : Nat} {cs : List Value} {x : DataW H × List MemPlace} (ht : P.underlying t = some (.array k e)) (h : DataW.trod enc P w base spare held fuel t cs = some x) :
    cs.length = P.cellsOf t ∧ ∀ i, i < k → ∃ m y, DataW.trod enc P w base spare held m e ((cs.drop (i * P.cellsOf e)).take (P.cellsOf e)) = some y := by
  cases fuel with
  | zero => simp [DataW.trod] at h
  | succ n =>
    unfold DataW.trod at h
    simp only [ht] at h
    split at h
    · rename_i hl
      obtain ⟨xs, hxs, _⟩ := Option.map_eq_some_iff.1 h
      refine ⟨hl, fun i hi => ?_⟩
      have := mapM_some_get hxs i i (by simp [hi])
      have hlen := mapM_some_length hxs
      rw [List.getElem?_eq_getElem (by simp at hlen; omega)] at this
      exact ⟨n, _, this⟩
    · cases h
end
end Go.Ck
end

section
namespace Go.Ck
open Go Go.ChangeShapes
set_option linter.unusedVariables false
set_option maxHeartbeats 1000000
section
variable {H : Type} {enc : TypeId × Value → H} {P : Program} {w : World} {base : Nat} {spare : Nat → Bool} {held : Bool}

theorem cells_get' {a : Addr} {n : Nat} {cs : List Value} (h : w.cells? base a n = some cs) {j : Nat} {u : Value} (hj : cs[j]? = some u) : w.cell? (a.add j) = some u := by
  unfold World.cells? at h
  split at h
  · have hl := mapM_some_length h
    have hjl : j < cs.length := (List.getElem?_eq_some_iff.1 hj).1
    have := mapM_some_get h j j (by rw [List.length_range] at hl; exact List.getElem?_range (by omega))
    rw [this, hj]
  · cases h

theorem trod_slice_of {T e k : Nat} {α : Type} {en : α → List Value} {R : α → Prop} (tu : P.underlying T = some (.slice e)) (hc : P.cellsOf e = k) (hk0 : 0 < k) (hlen : ∀ x, (en x).length = k)
    (hel : ∀ (m : Nat) (cs : List Value) (y : DataW H × List MemPlace), DataW.trod enc P w base spare held m e cs = some y → ∃ x : α, R x ∧ cs = en x)
    {m : Nat} {cs : List Value} {y : DataW H × List MemPlace} (h : DataW.trod enc P w base spare held m T cs = some y) :
    ∃ (v : Value) (l : List α), cs = [v] ∧ Sc (fun b => w.heap[b]?) k v l.length (l.flatMap en) ∧ l.length ≤ maxLen ∧ ∀ x ∈ l, R x := by
  subst hc
  rcases Go.Deep.open_slice tu h with ⟨rfl, _⟩ | ⟨a, len, cap, q, n, D, Pl, rfl, _, h1, h2, hk, _, hall⟩
  · exact ⟨_, [], rfl, Sc.nil _ _ none 0, Nat.zero_le _, fun x hx => by cases hx⟩
  · have hkl : len ≤ q := by rw [hk]; split <;> omega
    have hex : ∀ i, i < len → ∃ d : α, R d ∧ w.cells? base (a.add (i * P.cellsOf e)) (P.cellsOf e) = some (en d) := fun i hi => by
      obtain ⟨cs', e1, e2⟩ := hall i (by omega)
      obtain ⟨d, hr, rfl⟩ := hel _ _ _ e2
      exact ⟨d, hr, e1⟩
    generalize P.cellsOf e = k at hex hk0 hlen ⊢
    by_cases h0 : len = 0
    · subst h0
      exact ⟨_, [], rfl, ⟨by simp, some a, cap, rfl, Nat.zero_le _, .inl rfl⟩, Nat.zero_le _, fun x hx => by cases hx⟩
    obtain ⟨d0, _⟩ := hex 0 (by omega)
    obtain ⟨f, hf'⟩ : ∃ f : Nat → α, ∀ i, i < len → R (f i) ∧ w.cells? base (a.add (i * k)) k = some (en (f i)) := by
      classical
      exact ⟨fun i => if hi : i < len then (hex i hi).choose else d0, fun i hi => by
        dsimp only
        rw [dif_pos hi]
        exact (hex i hi).choose_spec⟩
    have hf := fun i hi => (hf' i hi).2
    refine ⟨_, (List.range len).map f, rfl, ⟨?_, some a, cap, by simp, by simpa using h1, ?_⟩, by simp; omega, fun x hx => ?_⟩
    · rw [flat_len hlen]
    · refine .inr ?_
      have hc00 : 0 < (en (f 0)).length := by rw [hlen]; exact hk0
      have hc0 := cells_get' (hf 0 (by omega)) (j := 0) (List.getElem?_eq_getElem hc00)
      obtain ⟨b, o, sp⟩ := a
      have hadd : ∀ i j, ((⟨b, o, sp⟩ : Addr).add i).add j = (⟨b, o, sp⟩ : Addr).add (i + j) := fun i j => Go.Deep.add_add _ i j
      rw [hadd] at hc0
      have hblk : ((⟨b, o, sp⟩ : Addr).add (0 * k + 0)) = ⟨b, o, sp⟩ := by simp [Addr.add]
      rw [hblk] at hc0
      unfold World.cell? at hc0
      split at hc0
      · rename_i c e fz hb
        split at hc0
        · cases hc0
        · rename_i hsp
          have hsp' : sp = none := by simpa using hsp
          subst hsp'
          refine ⟨b, o, c, e, fz, rfl, hb, fun j u hj => ?_⟩
          have hjl : j < len * k := by
            have := (List.getElem?_eq_some_iff.1 hj).1
            rw [flat_len hlen] at this
            simpa using this
          have hjk : j / k < len := Nat.div_lt_of_lt_mul (by rw [Nat.mul_comm]; exact hjl)
          have hd : j / k < ((List.range len).map f).length := by simpa using hjk
          have e1 : (((List.range len).map f).flatMap en)[j]? = (en (f (j / k)))[j % k]? := by
            have := flat_at hlen ((List.range len).map f) (j / k) hd
            have e3 : ((List.range len).map f)[j / k] = f (j / k) := by simp
            rw [e3] at this
            rw [← this, List.getElem?_take_of_lt (Nat.mod_lt _ hk0), List.getElem?_drop]
            congr 1
            rw [Nat.mul_comm]
            exact (Nat.div_add_mod j k).symm
          rw [e1] at hj
          have := cells_get' (hf (j / k) hjk) hj
          rw [hadd, Addr.add_off] at this
          unfold World.cell? at this
          simp only [hb] at this
          simp only [Option.isSome_none, Bool.false_eq_true, if_false] at this
          have ej : j / k * k + j % k = j := by rw [Nat.mul_comm]; exact Nat.div_add_mod j k
          rw [ej] at this
          exact this
      · cases hc0
    · obtain ⟨i, hi, rfl⟩ := List.mem_map.1 hx
      exact (hf' i (by simpa using hi)).1
end
end Go.Ck
end

section
namespace Go.Proofs.Ytkkjppeaaicgaaa
open Go Go.Ck Go.ChangeShapes
set_option maxRecDepth 100000
set_option maxHeartbeats 1000000
set_option linter.unusedVariables false

theorem cellsDot : Try.prog.cellsOf 39 = 2 := by kernel_rfl
theorem cellsInt : Try.prog.cellsOf 3 = 1 := by kernel_rfl
theorem cellsArr : Try.prog.cellsOf 30 = 16 := by kernel_rfl
theorem cellsSl : Try.prog.cellsOf 31 = 1 := by kernel_rfl
theorem cellsCx : Try.prog.cellsOf 69 = 17 := by kernel_rfl
section
variable {H : Type} {enc : TypeId × Value → H} {w : World} {base : Nat} {spare : Nat → Bool} {held : Bool}

theorem trod_dot {m : Nat} {cs : List Value} {y : DataW H × List MemPlace} (h : DataW.trod enc Try.prog w base spare held m 39 cs = some y) : ∃ d : Dt, cs = dcs d := by
  obtain ⟨hl, hf⟩ := trod_fields Try.underlying39 h
  rw [cellsDot] at hl
  match cs, hl with
  | [a, b], _ =>
    obtain ⟨m1, y1, h1⟩ := hf _ (List.mem_cons_self ..)
    obtain ⟨m2, y2, h2⟩ := hf _ (List.mem_cons_of_mem _ (List.mem_cons_self ..))
    rw [cellsInt] at h1 h2
    obtain ⟨n1, e1, _⟩ := DataW.trod_int Try.underlying3 h1
    obtain ⟨n2, e2, _⟩ := DataW.trod_int Try.underlying3 h2
    simp at e1 e2
    exact ⟨(n1, n2), by rw [e1, e2]; rfl⟩

theorem trod_up {m : Nat} {cs : List Value} {y : DataW H × List MemPlace} (h : DataW.trod enc Try.prog w base spare held m 30 cs = some y) : ∃ u : List Int, u.length = 16 ∧ cs = up u := by
  obtain ⟨hl, hf⟩ := trod_elems Try.underlying30 h
  rw [cellsArr] at hl
  have hc : ∀ i (hi : i < cs.length), ∃ n, cs[i] = .int .i64 n := fun i hi => by
    obtain ⟨m1, y1, h1⟩ := hf i (by omega)
    rw [cellsInt, Nat.mul_one] at h1
    obtain ⟨n1, e1, _⟩ := DataW.trod_int Try.underlying3 h1
    have e2 : (List.drop i cs).take 1 = [cs[i]] := by
      rw [List.drop_eq_getElem_cons hi]; rfl
    rw [e2] at e1
    exact ⟨n1, by simpa using e1⟩
  clear hf h
  have key : ∀ cs : List Value, (∀ i (hi : i < cs.length), ∃ n, cs[i] = .int .i64 n) → ∃ u : List Int, u.length = cs.length ∧ cs = up u := by
    intro cs
    induction cs with
    | nil => intro _; exact ⟨[], rfl, rfl⟩
    | cons c cs ih =>
      intro hc
      obtain ⟨n, hn⟩ := hc 0 (by simp)
      obtain ⟨u, h1, h2⟩ := ih fun i hi => by
        have := hc (i + 1) (by simpa using hi)
        simpa using this
      simp only [List.getElem_cons_zero] at hn
      exact ⟨n :: u, by simp [h1], by rw [hn, h2]; rfl⟩
  obtain ⟨u, h1, h2⟩ := key cs hc
  exact ⟨u, by omega, h2⟩

theorem cells_get {a : Addr} {n : Nat} {cs : List Value} (h : w.cells? base a n = some cs) {j : Nat} {u : Value} (hj : cs[j]? = some u) : w.cell? (a.add j) = some u := by
  unfold World.cells? at h
  split at h
  · have hl := mapM_some_length h
    have hjl : j < cs.length := (List.getElem?_eq_some_iff.1 hj).1
    have := mapM_some_get h j j (by rw [List.length_range] at hl; exact List.getElem?_range (by omega))
    rw [this, hj]
  · cases h

theorem trod_ds {m : Nat} {cs : List Value} {y : DataW H × List MemPlace} (h : DataW.trod enc Try.prog w base spare held m 31 cs = some y) : ∃ (v : Value) (l : List Dt), cs = [v] ∧ Ds (fun b => w.heap[b]?) v l ∧ l.length ≤ maxLen := by
  rcases Go.Deep.open_slice Try.underlying31 h with ⟨rfl, _⟩ | ⟨a, len, cap, k, n, D, Pl, rfl, _, h1, h2, hk, _, hall⟩
  · exact ⟨_, [], rfl, Sc.nil _ 2 none 0, Nat.zero_le _⟩
  · have hkl : len ≤ k := by rw [hk]; split <;> omega
    have hex : ∀ i, i < len → ∃ d : Dt, w.cells? base (a.add (i * 2)) 2 = some (dcs d) := fun i hi => by
      obtain ⟨cs', e1, e2⟩ := hall i (by omega)
      rw [cellsDot] at e1
      obtain ⟨d, rfl⟩ := trod_dot e2
      exact ⟨d, e1⟩
    obtain ⟨f, hf⟩ := Go.Deep.choose_lt hex
    refine ⟨_, (List.range len).map f, rfl, ⟨?_, some a, cap, by simp, by simpa using h1, ?_⟩, by simp; omega⟩
    · rw [flat_len dcs_len]
    · by_cases h0 : len = 0
      · subst h0; exact .inl rfl
      · refine .inr ?_
        have hc0 := cells_get (hf 0 (by omega)) (j := 0) (u := .int .i64 (f 0).1) rfl
        obtain ⟨b, o, sp⟩ := a
        have hadd : ∀ i j, ((⟨b, o, sp⟩ : Addr).add i).add j = (⟨b, o, sp⟩ : Addr).add (i + j) := fun i j => Go.Deep.add_add _ i j
        rw [hadd] at hc0
        have hblk : ((⟨b, o, sp⟩ : Addr).add (0 * 2 + 0)) = ⟨b, o, sp⟩ := by simp [Addr.add]
        rw [hblk] at hc0
        unfold World.cell? at hc0
        split at hc0
        · rename_i c e fz hb
          split at hc0
          · cases hc0
          · rename_i hsp
            have hsp' : sp = none := by simpa using hsp
            subst hsp'
            refine ⟨b, o, c, e, fz, rfl, hb, fun j u hj => ?_⟩
            have hjl : j < len * 2 := by
              have := (List.getElem?_eq_some_iff.1 hj).1
              rw [flat_len dcs_len] at this
              simpa using this
            have hd : j / 2 < ((List.range len).map f).length := by simp; omega
            have e1 : (((List.range len).map f).flatMap dcs)[j]? = (dcs (f (j / 2)))[j % 2]? := by
              have := flat_at dcs_len ((List.range len).map f) (j / 2) hd
              have e3 : ((List.range len).map f)[j / 2] = f (j / 2) := by simp
              rw [e3] at this
              rw [← this, List.getElem?_take_of_lt (by omega), List.getElem?_drop]
              congr 1; omega
            rw [e1] at hj
            have := cells_get (hf (j / 2) (by omega)) hj
            rw [hadd, Addr.add_off] at this
            unfold World.cell? at this
            simp only [hb] at this
            simp only [Option.isSome_none, Bool.false_eq_true, if_false] at this
            have ej : j / 2 * 2 + j % 2 = j := by omega
            rw [ej] at this
            exact this
        · cases hc0

theorem trod_cx {v : Value} {d : DataW H} {ps : List MemPlace} (hv : ∃ cs, v = .agg cs) (h : DataW.Trod enc Try.prog w base spare held 69 v d ps) : ∃ (u : List Int) (l : List Dt), Cx (fun b => w.heap[b]?) v u l ∧ l.length ≤ maxLen := by
  obtain ⟨cs, rfl⟩ := hv
  obtain ⟨fuel, h⟩ := h
  obtain ⟨hl, hf⟩ := trod_fields Try.underlying69 h
  rw [cellsCx] at hl
  obtain ⟨m1, y1, h1⟩ := hf _ (List.mem_cons_self ..)
  obtain ⟨m2, y2, h2⟩ := hf _ (List.mem_cons_of_mem _ (List.mem_cons_self ..))
  rw [cellsArr] at h1
  rw [cellsSl] at h2
  obtain ⟨u, hu, e1⟩ := trod_up h1
  obtain ⟨mv, l, e2, hs, hlm⟩ := trod_ds h2
  refine ⟨u, l, ⟨hu, mv, ?_, hs⟩, hlm⟩
  have hc : (Value.agg cs).cells.toList = cxc u mv := by
    have e3 : (Value.agg cs).cells.toList = ((Value.agg cs).cells.toList.drop 0).take 16 ++ ((Value.agg cs).cells.toList.drop 16).take 1 := by
      rw [List.drop_zero]
      have e4 : ((Value.agg cs).cells.toList.drop 16).take 1 = (Value.agg cs).cells.toList.drop 16 := List.take_of_length_le (by simp at hl ⊢; omega)
      rw [e4, List.take_append_drop]
    rw [e3, e1, e2]
    rfl
  have hc2 : cs.toList = cxc u mv := hc
  unfold cxv
  rw [← hc2]
end
end Go.Proofs.Ytkkjppeaaicgaaa
end

section
namespace Go.Proofs.Ytkkjppeaaicgaaa
open Go Go.Ck Go.ChangeShapes
set_option maxRecDepth 100000
set_option maxHeartbeats 1000000
set_option linter.unusedVariables false

theorem cellsByte : Try.prog.cellsOf 5 = 1 := by kernel_rfl
theorem bcs_flat (l : List Int) : l.flatMap (fun n => [Value.int .u8 n]) = bcs l := by
  induction l with
  | nil => rfl
  | cons x l ih => rw [List.flatMap_cons, ih]; rfl
theorem trod_bs {H : Type} {enc : TypeId × Value → H} {w : World} {base : Nat} {spare : Nat → Bool} {held : Bool} {m : Nat} {cs : List Value} {y : DataW H × List MemPlace} (h : DataW.trod enc Try.prog w base spare held m 23 cs = some y) :
    ∃ (v : Value) (l : List Int), cs = [v] ∧ Bs8 (fun b => w.heap[b]?) v l ∧ Bytes l ∧ l.length ≤ maxLen := by
  obtain ⟨v, l, h1, h2, h3, h4⟩ := trod_slice_of (en := fun n : Int => [Value.int .u8 n]) (R := fun n => 0 ≤ n ∧ n < 256) Try.underlying23 cellsByte (by decide) (fun _ => rfl) (fun m cs y hy => by
    obtain ⟨n, e1, _, e3⟩ := DataW.trod_int Try.underlying5 hy
    obtain ⟨q1, q2⟩ := (Lit.wf_int_iff .u8 n).1 e3
    have m1 : IntKind.u8.min = 0 := by decide
    have m2 : IntKind.u8.max = 255 := by decide
    exact ⟨n, ⟨by omega, by omega⟩, e1⟩) h
  rw [bcs_flat] at h2
  exact ⟨v, l, h1, h2, h4, h3⟩
end Go.Proofs.Ytkkjppeaaicgaaa
end

section
namespace Go.Proofs.Ytkkjppeaaicgaaa
open Go Go.Ck Go.ChangeShapes
set_option maxRecDepth 100000
set_option maxHeartbeats 1000000
set_option linter.unusedVariables false

theorem cellsStr : Try.prog.cellsOf 9 = 1 := by kernel_rfl
theorem cellsRs : Try.prog.cellsOf 71 = 20 := by kernel_rfl
section
variable {H : Type} {enc : TypeId × Value → H} {w : World} {base : Nat} {spare : Nat → Bool} {held : Bool}
theorem trod_cxc {m : Nat} {cs : List Value} {y : DataW H × List MemPlace} (h : DataW.trod enc Try.prog w base spare held m 69 cs = some y) : ∃ (u : List Int) (l : List Dt) (mv : Value), u.length = 16 ∧ cs = cxc u mv ∧ Ds (fun b => w.heap[b]?) mv l ∧ l.length ≤ maxLen := by
  obtain ⟨hl, hf⟩ := trod_fields Try.underlying69 h
  rw [cellsCx] at hl
  obtain ⟨m1, y1, h1⟩ := hf _ (List.mem_cons_self ..)
  obtain ⟨m2, y2, h2⟩ := hf _ (List.mem_cons_of_mem _ (List.mem_cons_self ..))
  rw [cellsArr] at h1
  rw [cellsSl] at h2
  obtain ⟨u, hu, e1⟩ := trod_up h1
  obtain ⟨mv, l, e2, hs, hlm⟩ := trod_ds h2
  refine ⟨u, l, mv, hu, ?_, hs, hlm⟩
  have e3 : cs = (cs.drop 0).take 16 ++ (cs.drop 16).take 1 := by
    rw [List.drop_zero]
    have e4 : (cs.drop 16).take 1 = cs.drop 16 := List.take_of_length_le (by simp; omega)
    rw [e4, List.take_append_drop]
  rw [e3, e1, e2]
  rfl
theorem bytes_of_string (s : ByteArray) : ∃ b : List Int, Bytes b ∧ bstr b = s ∧ b.length = s.size := by
  refine ⟨s.data.toList.map fun x => (x.toNat : Int), fun b hb => ?_, ?_, by simp⟩
  · obtain ⟨x, _, rfl⟩ := List.mem_map.1 hb
    have := x.toNat_lt
    constructor <;> omega
  · unfold bstr
    rw [List.map_map]
    have : ((fun n : Int => UInt8.ofNat n.toNat) ∘ fun x : UInt8 => (x.toNat : Int)) = id := by
      funext x
      simp
    rw [this, List.map_id]
theorem trod_rs1 {m : Nat} {cs : List Value} {y : DataW H × List MemPlace} (h : DataW.trod enc Try.prog w base spare held m 71 cs = some y) : ∃ x : Sb, (Rv (fun b => w.heap[b]?) x ∧ x.l.length ≤ maxLen ∧ x.b.length ≤ maxLen) ∧ cs = sbc x := by
  obtain ⟨hl, hf⟩ := trod_fields Try.underlying71 h
  rw [cellsRs] at hl
  obtain ⟨m1, y1, h1⟩ := hf _ (List.mem_cons_self ..)
  obtain ⟨m2, y2, h2⟩ := hf _ (List.mem_cons_of_mem _ (List.mem_cons_self ..))
  obtain ⟨m3, y3, h3⟩ := hf _ (List.mem_cons_of_mem _ (List.mem_cons_of_mem _ (List.mem_cons_self ..)))
  rw [cellsDot] at h1
  rw [cellsCx] at h2
  rw [cellsStr] at h3
  obtain ⟨d, e1⟩ := trod_dot h1
  obtain ⟨u, l, mv, hu, e2, hds, hll⟩ := trod_cxc h2
  obtain ⟨s, e3, _, hs⟩ := DataW.trod_string Try.underlying9 h3
  obtain ⟨b, hb, hbs, hbl⟩ := bytes_of_string s
  refine ⟨⟨d, u, hu, l, mv, b, .string s⟩, ⟨⟨hds, by rw [hbs], hb⟩, hll, by show b.length ≤ maxLen; rw [hbl]; exact hs⟩, ?_⟩
  have q : cs = (cs.drop 0).take 2 ++ ((cs.drop 2).take 17 ++ (cs.drop 19).take 1) := by
    rw [List.drop_zero]
    have e4 : (cs.drop 19).take 1 = cs.drop 19 := List.take_of_length_le (by simp; omega)
    have e5 : (cs.drop 2).take 17 ++ cs.drop 19 = cs.drop 2 := by
      have : cs.drop 19 = (cs.drop 2).drop 17 := by rw [List.drop_drop]
      rw [this, List.take_append_drop]
    rw [e4, e5, List.take_append_drop]
  rw [q]
  show _ = dcs d ++ (cxc u mv ++ [.string s])
  rw [← e3, ← e2, ← e1]
theorem trod_rs {m : Nat} {cs : List Value} {y : DataW H × List MemPlace} (h : DataW.trod enc Try.prog w base spare held m 22 cs = some y) :
    ∃ (v : Value) (l : List Sb), cs = [v] ∧ Rs (fun b => w.heap[b]?) v l ∧ l.length ≤ maxLen ∧ ∀ x ∈ l, x.l.length ≤ maxLen ∧ x.b.length ≤ maxLen := by
  obtain ⟨v, l, h1, h2, h3, h4⟩ := trod_slice_of (en := sbc) (R := fun x => Rv (fun b => w.heap[b]?) x ∧ x.l.length ≤ maxLen ∧ x.b.length ≤ maxLen) Try.underlying22 cellsRs (by decide) sbc_len (fun m cs y hy => trod_rs1 hy) h
  exact ⟨v, l, h1, ⟨h2, fun x hx => (h4 x hx).1⟩, h3, fun x hx => (h4 x hx).2⟩
end
end Go.Proofs.Ytkkjppeaaicgaaa
end

section
namespace Go.Proofs.Ytkkjppeaaicgaaa
open Go Go.Ck Go.ChangeShapes
set_option maxRecDepth 100000
set_option maxHeartbeats 1000000
set_option linter.unusedVariables false

theorem cellsRA : Try.prog.cellsOf 48 = 2 := by kernel_rfl
theorem cellsRsl : Try.prog.cellsOf 22 = 1 := by kernel_rfl
section
variable {H : Type} {enc : TypeId × Value → H} {w : World} {base : Nat} {spare : Nat → Bool} {held : Bool}
/-- an answer of a size that fits -/
def AnLim (x : An) : Prop := x.set.length ≤ maxLen ∧ ∀ y ∈ x.set, y.l.length ≤ maxLen ∧ y.b.length ≤ maxLen
theorem trod_ra1 {m : Nat} {cs : List Value} {y : DataW H × List MemPlace} (h : DataW.trod enc Try.prog w base spare held m 48 cs = some y) : ∃ x : An, (Rs (fun b => w.heap[b]?) x.sv x.set ∧ AnLim x) ∧ cs = anc x := by
  obtain ⟨hl, hf⟩ := trod_fields Try.underlying48 h
  rw [cellsRA] at hl
  obtain ⟨m1, y1, h1⟩ := hf _ (List.mem_cons_self ..)
  obtain ⟨m2, y2, h2⟩ := hf _ (List.mem_cons_of_mem _ (List.mem_cons_self ..))
  rw [cellsInt] at h1
  rw [cellsRsl] at h2
  obtain ⟨n1, e1, _⟩ := DataW.trod_int Try.underlying3 h1
  obtain ⟨v, l, e2, hs, hl2, hl3⟩ := trod_rs h2
  match cs, hl with
  | [a, b], _ =>
    simp at e1 e2
    exact ⟨⟨n1, v, l⟩, ⟨hs, hl2, hl3⟩, by rw [e1, e2]; rfl⟩
theorem trod_ra {m : Nat} {cs : List Value} {y : DataW H × List MemPlace} (h : DataW.trod enc Try.prog w base spare held m 45 cs = some y) :
    ∃ (v : Value) (l : List An), cs = [v] ∧ Ra (fun b => w.heap[b]?) v l ∧ l.length ≤ maxLen ∧ ∀ x ∈ l, AnLim x := by
  obtain ⟨v, l, h1, h2, h3, h4⟩ := trod_slice_of (en := anc) (R := fun x => Rs (fun b => w.heap[b]?) x.sv x.set ∧ AnLim x) Try.underlying45 cellsRA (by decide) anc_len (fun m cs y hy => trod_ra1 hy) h
  exact ⟨v, l, h1, ⟨h2, fun x hx => (h4 x hx).1⟩, h3, fun x hx => (h4 x hx).2⟩
end
end Go.Proofs.Ytkkjppeaaicgaaa
end

section
namespace Go.Proofs.Ytkkjppeaaicgaaa.repairDone
open Go Go.Ck Go.ChangeShapes Go.WideShapes Go.ChangeAt Go.RowKit
set_option maxRecDepth 100000
set_option maxHeartbeats 1000000
set_option linter.unusedVariables false

theorem laidOut : laidOutB Try.prog = true := by kernel_rfl
theorem own : ownKnob Try.prog.godebug = none := by kernel_rfl

theorem contract (H : Type) (enc : TypeId × Value → H) (W : World) (base : Nat) (args : Array Value) (ds gs : List (DataW H)) (before : List MemPlace)
    (hval : ∀ (j : Nat) t v, Try.f5.params[j]? = some t → args[j]? = some v → Value.okWide Try.prog W .any base t v)
    (hW : DataW.Whole enc Try.prog Try.f5.params.toList Rows.repairDoneSpec.vars false W args.toList ds gs before) :
    Calls Try.prog 5 args W fun e W' => ∃ v, e = .returned v ∧ Rows.repairDoneSpec.post enc Try.prog Try.f5 false true false false W args v W' := by
  have hW' := hW
  obtain ⟨p, q, hA0, hV, rfl, hfz, hnd⟩ := hW
  have hA : DataW.TrodAll enc Try.prog W 0 (fun _ => true) true Try.f5.params.toList args.toList ds p := hA0
  rw [Try.params5] at hA hval
  obtain ⟨v0, vs0, d0, ds0, p0, q0, hargs0, rfl, rfl, h0, r0⟩ := trodAll_cons hA
  obtain ⟨rfl, rfl, rfl⟩ := trodAll_nil r0
  obtain rfl : args = #[v0] := by cases args; simp_all
  obtain ⟨rfl, rfl⟩ := trodVars_none hV
  obtain ⟨a0, len0, cap0, rfl⟩ := okWide_slice Try.underlying45 (hval 0 45 v0 rfl rfl)
  obtain ⟨fu0, g0⟩ := id h0
  obtain ⟨sv0, l0, hsv0, hd0, hl0, hll0⟩ := trod_ra g0
  obtain rfl : Value.slice a0 len0 cap0 = sv0 := by
    have e : (Value.slice a0 len0 cap0).cells.toList = [Value.slice a0 len0 cap0] := rfl
    rw [e] at hsv0
    exact (List.cons.inj hsv0).1
  have hl0 : l0.length ≤ 9223372036854775807 := by unfold maxLen at hl0; omega
  have hll0 : ∀ x ∈ l0, x.set.length ≤ 9223372036854775807 ∧ ∀ y ∈ x.set, y.l.length ≤ 9223372036854775807 ∧ y.b.length ≤ 9223372036854775807 := fun x hx => by
    have h1 := (hll0 x hx).1
    unfold maxLen at h1
    exact ⟨by omega, fun y hy => by have := (hll0 x hx).2 y hy; unfold maxLen at this; omega⟩
  have hst : St ⟨W, fun b => W.heap[b]?, []⟩ (fun b => W.heap[b]?) [] W := St.start (L := []) ⟨fun b o hb => hb, fun r hr => (by cases hr)⟩ (by simp [doms]) (fun b hb => (by simp [doms] at hb))
  refine (RepairDone_sp _ l0 _ hd0 hl0 hll0 W hst).mono fun e W' ⟨h', he, s'⟩ => ?_
  subst he
  have hb : Below W.heap.size W W' := ⟨s'.os, s'.tape, s'.output, s'.size, fun k hk => s'.keep k hk (by simp)⟩
  simp only [List.append_nil] at hW'
  have hlt0 : ∀ x ∈ p0, x.block < W.heap.size := fun x hx => by simpa using hW'.lt x (by simp [hx])
  exact ⟨_, rfl, _, _, _, [], p0, [], hW', trodAll_cons_mk (shut_bool Try.underlying4 _) trodAll_mk0,
    by
      have h := (trodAll_cons_mk (Below.trod laidOut (by kernel_rfl) (of_decide_eq_true (by kernel_rfl)) h0 hb hlt0) trodAll_mk0)
      simp only [List.append_nil] at h
      exact h,
    rfl, hb.frame _, fun h => by cases h⟩

set_option maxRecDepth 100000 in
theorem lifted (os : Os) (started : os.Started) (H : Type) (enc : TypeId × Value → H) :
    ReturnsInHanded {} Try.checked os 5 .any (Rows.repairDoneSpec.pre6 enc Try.prog Try.f5 Rows.repairDoneRow.domain false) (Rows.repairDoneSpec.post enc Try.prog Try.f5 false true false false) := by
  refine returnsInHanded_of_change (C := Try.checked) own started (by kernel_rfl) Try.func5
    (ChangeSpec.witness6 (enc := enc) (C := Try.checked) false ⟨#[], #[.slice none 0 0], []⟩ 8 (by kernel_rfl) (by kernel_rfl) (by kernel_rfl) (by kernel_rfl)) ?_
  intro W base args ds gs before hval hW _ _
  exact contract H enc W base args ds gs before hval hW

theorem over : Rows.repairDoneRow.holds Try.pinned (OpenSpec.ofChange Rows.repairDoneSpec) :=
  OpenClaim.holds_of_wide 5 Try.f5 rfl rfl rfl rfl rfl rfl rfl ⟨rfl, rfl, rfl, rfl, rfl⟩ rfl rfl rfl rfl rfl (by kernel_rfl) Try.func5 (by kernel_rfl)
    (of_decide_eq_true (by kernel_rfl)) (by unfold Func.isWrapper; first | (rw [if_pos (by decide +kernel)]; kernel_rfl) | (rw [if_neg (by decide +kernel)]; exact ⟨rfl, rfl⟩))
    (fun os started H enc _ => lifted os started H enc)

theorem proved : Rows.RepairDoneSaid :=
  over
end Go.Proofs.Ytkkjppeaaicgaaa.repairDone
end
