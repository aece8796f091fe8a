/-
  Part 15 of a proof: RpA.
  Conditions: each theorem states its own.
-/
import Derived.Test.YtkkjppeaaicgaaaRpIPM14
section
namespace Go.Proofs.Ytkkjppeaaicgaaa
open Go Go.Ck
set_option maxRecDepth 100000
set_option maxHeartbeats 2000000
set_option linter.unusedVariables false

/-- an answer: from whom, and its set -/
structure An where
  fr : Int
  sv : Value
  set : List Sb
def anc (x : An) : List Value := [.int .i64 x.fr, x.sv]
theorem anc_len (x : An) : (anc x).length = 2 := rfl
def An.a (x : An) : Int × List Ab := (x.fr, x.set.map Sb.a)
/-- the row of answers -/
abbrev rowA (v : Value) (l : List An) : Res := Res.row 50 2 v l.length (l.flatMap anc)
def setsA (l : List An) : List (List Ab) := l.map fun x => x.set.map Sb.a
/-- answers at hand -/
def AnOk (h : View) (l : List An) : Prop := ∀ x ∈ l, Ss h x.sv x.set ∧ Fits x.set
theorem AnOk.mono {h h' : View} {l : List An} (a : AnOk h l) (hl : Le h h') : AnOk h' l := fun x hx => ⟨(a x hx).1.mono hl, (a x hx).2⟩
theorem fits_check {l : List Sb} (h : checkA (l.map Sb.a) = 0) : Fits l := by
  obtain ⟨c1, c2, _, _⟩ := checkA_ok h
  refine ⟨by rw [List.length_map] at c1; omega, fun x hx => ?_⟩
  obtain ⟨_, h2, _, h4⟩ := rightA_ok (c2 x.a (List.mem_map_of_mem hx))
  have h5 : x.l.length ≤ 32 := (check_right h2).2.1
  exact ⟨by omega, by have : x.b.length ≤ 16384 := h4; omega⟩
theorem row_elA {h : View} {L : List Res} {g : Nat} {l : List An} {i j : Nat} {x : An} (c : Cells h L ⟨g, 0, none⟩ (l.flatMap anc)) (hx : l[i]? = some x) (hj : j = i) : Cells h L ⟨g, 0 + j * 2, none⟩ (anc x) := by
  subst hj
  obtain ⟨hi, rfl⟩ := List.getElem?_eq_some_iff.1 hx
  have h1 := (c.drop (j * 2)).take 2
  rwa [flat_at anc_len l j hi] at h1
theorem sets_drop {l : List An} {k : Nat} {x : An} (hx : l[k]? = some x) : (setsA l).drop k = x.set.map Sb.a :: (setsA l).drop (k + 1) := by
  obtain ⟨hk, rfl⟩ := List.getElem?_eq_some_iff.1 hx
  have h1 : k < (setsA l).length := by simpa [setsA] using hk
  rw [List.drop_eq_getElem_cons h1]
  simp [setsA]

theorem wholeF_cons (o B : List Ab) (r : List (List Ab)) : wholeF o (B :: r) = if (mergeF o B).2 = 0 then wholeF (mergeF o B).1 r else ([], (mergeF o B).2) := rfl

theorem whole_sp (ad : Option Addr) (cap : Nat) (l : List An) (h : View) (hl : l.length ≤ 1000000) (ok : AnOk h l) (w : World) (s : St ⟨w, h, doms [rowA (.slice ad l.length cap) l]⟩ h [rowA (.slice ad l.length cap) l] w) :
    Calls Try.prog 18 [.slice ad l.length cap].toArray w fun e w' => ∃ z : View × Value × List Sb, e = .returned (.tuple #[z.2.1, .int .i64 (wholeF [] (setsA l)).2]) ∧ St ⟨w, h, doms [rowA (.slice ad l.length cap) l]⟩ z.1 [rowA (.slice ad l.length cap) l] w' ∧ Ss z.1 z.2.1 z.2.2 ∧ z.2.2.map Sb.a = (wholeF [] (setsA l)).1 := by
  refine calls_enter Try.func18 rfl Try.ntmps18 rfl s ?_
  repeat' (first | refine tw_ ?_ | (refine ta_ ?_; intro _) | ((fail_if_success (refine ybi rfl ?_)); refine ybj rfl ?_ ?_ <;> (intro ht; rw [ht]; first | replace ht := of_decide_eq_true ht | replace ht := of_decide_eq_false ht | skip)) | (refine ych ?_; first | (refine ybw rfl ?_ ?_ <;> intro ht) | (refine ybx rfl ?_ ?_ <;> intro ht)))
  refine cx_loop (X := Nat × View × Value × List Sb) (fun y => [(4, y.2.2.1), (8, .slice ad l.length cap), (9, .int .i64 l.length), (10, .int .i64 (y.1 : Nat))]) (fun y => y.2.1) (fun y => [rowA (.slice ad l.length cap) l])
    (fun y => y.1 ≤ l.length ∧ Le h y.2.1 ∧ Ss y.2.1 y.2.2.1 y.2.2.2 ∧ checkA (y.2.2.2.map Sb.a) = 0 ∧ wholeF [] (setsA l) = wholeF (y.2.2.2.map Sb.a) ((setsA l).drop y.1)) (fun y => l.length - y.1) (0, h, .slice none 0 0, [])
    ⟨Nat.zero_le _, Le.refl _, ⟨Sc.nil h 20 none 0, fun x hx => by cases hx⟩, by kernel_rfl, rfl⟩ ts_ (fun _ s => s) ?_
  rintro ⟨k, hk, vo, O⟩ ⟨p1, p2, p3, p4, p5⟩
  dsimp only at p1 p2 p3 p4 p5 ⊢
  by_cases hkl : k < l.length
  · obtain ⟨x, hx⟩ : ∃ x, l[k]? = some x := ⟨_, List.getElem?_eq_getElem hkl⟩
    have hxm : x ∈ l := List.mem_of_getElem? hx
    have hok := ok x hxm
    have hsx := hok.1.mono p2
    have hd := sets_drop hx
    rw [hd, wholeF_cons] at p5
    refine cx_rowform 0 rfl (fun e1 e2 e3 => ?_) ?_
    · omega
    rintro g cap' hgc
    cases hgc
    obtain ⟨fr, sv, set⟩ := x
    have hel : ∀ L, Cells hk (rowA (.slice (some ⟨g, 0, none⟩) l.length cap) l :: L) ⟨g, 0 + k * 2, none⟩ [.int .i64 fr, sv] := fun L => row_elA (row_cells 0 rfl) hx rfl
    obtain ⟨_, ads, caps, hsv, _, _⟩ := id hsx.1
    dsimp only at hsv hsx hok p5
    subst hsv
    have MG := smergeF_sp vo (.slice ads set.length caps) O set hk p3 hsx (fits_check p4) hok.2
    by_cases he : (mergeF (O.map Sb.a) (set.map Sb.a)).2 = 0
    · rw [he] at MG
      rw [if_pos he] at p5
      repeat' (first | (refine ycf ?_; apply ybk; (· first | (first | exact tk_ | (apply yad; (· rfl); (· exact hel _); (· rfl)))); (· rfl); (· rfl)) | refine t1_ ?_ | (refine ta_ ?_; intro _) | ((fail_if_success (refine ybi rfl ?_)); refine ybj rfl ?_ ?_ <;> (intro ht; rw [ht]; first | replace ht := of_decide_eq_true ht | replace ht := of_decide_eq_false ht | skip)) | (refine ych ?_; first | (refine ybw rfl ?_ ?_ <;> intro ht) | (refine ybx rfl ?_ ?_ <;> intro ht)))
      (refine yco (ycp Try.func26 rfl (by kernel_rfl) rfl) (MG) rfl rfl rfl ?_ ?_ ?_; (· (exact to_)); (· intro _ _ hle; (exact to_)); intro x px hle)
      obtain ⟨h3, v3, M⟩ := x
      obtain ⟨S3, E3⟩ := px
      dsimp only at S3 E3
      repeat' (first | (refine ycf ?_; apply ybk; (· first | (first | exact tk_ | (apply yad; (· rfl); (· exact hel _); (· rfl)))); (· rfl); (· rfl)) | refine t1_ ?_ | (refine ta_ ?_; intro _) | ((fail_if_success (refine ybi rfl ?_)); refine ybj rfl ?_ ?_ <;> (intro ht; rw [ht]; first | replace ht := of_decide_eq_true ht | replace ht := of_decide_eq_false ht | skip)) | (refine ych ?_; first | (refine ybw rfl ?_ ?_ <;> intro ht) | (refine ybx rfl ?_ ?_ <;> intro ht)))
      refine nx_round (k + 1, h3, v3, M) ⟨by show k + 1 ≤ _; omega, p2.trans hle, S3, by rw [E3]; exact mergeF_set he, by rw [E3]; exact p5⟩ (by show l.length - (k + 1) < l.length - k; omega) ts_ (fun _ s => s.tl)
    · rw [if_neg he] at p5
      obtain ⟨er, her⟩ : ∃ er, er = (mergeF (O.map Sb.a) (set.map Sb.a)).2 := ⟨_, rfl⟩
      rw [← her] at MG he p5
      repeat' (first | (refine ycf ?_; apply ybk; (· first | (first | exact tk_ | (apply yad; (· rfl); (· exact hel _); (· rfl)))); (· rfl); (· rfl)) | refine t1_ ?_ | (refine ta_ ?_; intro _) | ((fail_if_success (refine ybi rfl ?_)); refine ybj rfl ?_ ?_ <;> (intro ht; rw [ht]; first | replace ht := of_decide_eq_true ht | replace ht := of_decide_eq_false ht | skip)) | (refine ych ?_; first | (refine ybw rfl ?_ ?_ <;> intro ht) | (refine ybx rfl ?_ ?_ <;> intro ht)))
      (refine yco (ycp Try.func26 rfl (by kernel_rfl) rfl) (MG) rfl rfl rfl ?_ ?_ ?_; (· (exact to_)); (· intro _ _ hle; (exact to_)); intro x px hle)
      obtain ⟨h3, v3, M⟩ := x
      repeat' (first | (refine ycf ?_; apply ybk; (· first | (first | exact tk_ | (apply yad; (· rfl); (· exact hel _); (· rfl)))); (· rfl); (· rfl)) | refine t1_ ?_ | (refine ta_ ?_; intro _) | ((fail_if_success (refine ybi rfl ?_)); refine ybj rfl ?_ ?_ <;> (intro ht; rw [ht]; first | replace ht := of_decide_eq_true ht | replace ht := of_decide_eq_false ht | skip)) | (refine ych ?_; first | (refine ybw rfl ?_ ?_ <;> intro ht) | (refine ybx rfl ?_ ?_ <;> intro ht)))
      refine nx_ret2 rfl (rv_tmp rfl) (rv_tmp rfl) (fun w' s' => ⟨(h3, .slice none 0 0, []), by rw [p5]; rfl, s'.tl, ⟨Sc.nil _ 20 none 0, fun x hx => by cases hx⟩, by rw [p5]; rfl⟩)
  · have hkk : k = l.length := by omega
    have hdn : (setsA l).drop k = [] := List.drop_of_length_le (by simp [setsA]; omega)
    rw [hdn] at p5
    repeat' (first | (refine ycf ?_; apply ybk; (· first | (exact tk_)); (· rfl); (· rfl)) | refine t1_ ?_ | (refine ta_ ?_; intro _) | ((fail_if_success (refine ybi rfl ?_)); refine ybj rfl ?_ ?_ <;> (intro ht; rw [ht]; first | replace ht := of_decide_eq_true ht | replace ht := of_decide_eq_false ht | skip)) | (refine ych ?_; first | (refine ybw rfl ?_ ?_ <;> intro ht) | (refine ybx rfl ?_ ?_ <;> intro ht)))
    refine nx_ret2 rfl (rv_tmp rfl) (rv_tmp rfl) (fun w' s' => ⟨(hk, vo, O), by rw [p5]; rfl, s', p3, by rw [p5]; rfl⟩)

abbrev ics (l : List Int) : List Value := l.map fun n => Value.int .i64 n
theorem ics_one (l : List Int) : ∀ u ∈ ics l, u.oneCell' = true := fun u hu => by
  obtain ⟨n, _, rfl⟩ := List.mem_map.1 hu
  rfl
def lackF (l : List An) : List Int := if (wholeF [] (setsA l)).2 = 0 then (l.filter fun x => !decide (x.set.map Sb.a = (wholeF [] (setsA l)).1)).map An.fr else []
theorem lacking_sp (ad : Option Addr) (cap : Nat) (l : List An) (h : View) (hl : l.length ≤ 1000000) (ok : AnOk h l) (w : World) (s : St ⟨w, h, doms [rowA (.slice ad l.length cap) l]⟩ h [rowA (.slice ad l.length cap) l] w) :
    Calls Try.prog 20 [.slice ad l.length cap].toArray w fun e w' => ∃ z : View × Value × List Int, e = .returned (.tuple #[z.2.1, .int .i64 (wholeF [] (setsA l)).2]) ∧ St ⟨w, h, doms [rowA (.slice ad l.length cap) l]⟩ z.1 [rowA (.slice ad l.length cap) l] w' ∧ Sc z.1 1 z.2.1 z.2.2.length (ics z.2.2) ∧ z.2.2 = lackF l := by
  have WH := whole_sp ad cap l h hl ok
  unfold lackF
  obtain ⟨⟨WA, er⟩, hWA⟩ : ∃ p, p = wholeF [] (setsA l) := ⟨_, rfl⟩
  rw [← hWA] at WH ⊢
  dsimp only at WH ⊢
  refine calls_enter Try.func20 rfl Try.ntmps20 rfl s ?_
  repeat' (first | (refine ycf ?_; apply ybk; (· first | (exact tk_)); (· rfl); (· rfl)) | refine t1_ ?_ | (refine ta_ ?_; intro _) | ((fail_if_success (refine ybi rfl ?_)); refine ybj rfl ?_ ?_ <;> (intro ht; rw [ht]; first | replace ht := of_decide_eq_true ht | replace ht := of_decide_eq_false ht | skip)) | (refine ych ?_; first | (refine ybw rfl ?_ ?_ <;> intro ht) | (refine ybx rfl ?_ ?_ <;> intro ht)))
  (refine rx_call_m (ycp Try.func18 rfl (by kernel_rfl) rfl) (perm_at (k := 0) rfl) (WH) rfl rfl rfl ?_ ?_ ?_; (· (exact to_)); (· intro _ _ hle; (exact to_)); intro x px hle)
  obtain ⟨h1, v1, M⟩ := x
  obtain ⟨S1, E1⟩ := px
  dsimp only at S1 E1
  by_cases he : er = 0
  · subst he
    rw [if_pos rfl]
    have ck : checkA (M.map Sb.a) = 0 := by
      have := wholeF_set (r := setsA l) (o := []) (by kernel_rfl) (by rw [← hWA])
      rw [← hWA] at this
      rw [E1]
      exact this
    have fM := fits_check ck
    repeat' (first | (refine ycf ?_; apply ybk; (· first | (exact tk_)); (· rfl); (· rfl)) | refine t1_ ?_ | (refine ta_ ?_; intro _) | ((fail_if_success (refine ybi rfl ?_)); refine ybj rfl ?_ ?_ <;> (intro ht; rw [ht]; first | replace ht := of_decide_eq_true ht | replace ht := of_decide_eq_false ht | skip)) | (refine ych ?_; first | (refine ybw rfl ?_ ?_ <;> intro ht) | (refine ybx rfl ?_ ?_ <;> intro ht)))
    refine cx_row 3 1 ?_
    refine cx_loop (X := Nat × Value × List Int) (fun y => [(4, v1), (6, y.2.1), (17, .slice ad l.length cap), (18, .int .i64 l.length), (19, .int .i64 (y.1 : Nat))]) (fun y => h1) (fun y => [Res.row 3 1 y.2.1 y.2.2.length (ics y.2.2), rowA (.slice ad l.length cap) l])
      (fun y => y.1 ≤ l.length ∧ y.2.2 = ((l.take y.1).filter fun x => !decide (x.set.map Sb.a = WA)).map An.fr) (fun y => l.length - y.1) (0, .slice none 0 0, []) ⟨Nat.zero_le _, rfl⟩ ts_ (fun _ s => s) ?_
    rintro ⟨k, vo, o⟩ ⟨p1, p2⟩
    dsimp only at p1 p2 ⊢
    have lo : o.length ≤ k := by
      rw [p2, List.length_map]
      exact Nat.le_trans (List.length_filter_le ..) (by simp; omega)
    by_cases hkl : k < l.length
    · obtain ⟨x, hx⟩ : ∃ x, l[k]? = some x := ⟨_, List.getElem?_eq_getElem hkl⟩
      have hxm : x ∈ l := List.mem_of_getElem? hx
      have hok := ok x hxm
      have hsx := hok.1.mono hle
      have htk : ((l.take (k + 1)).filter fun x => !decide (x.set.map Sb.a = WA)).map An.fr = o ++ (if x.set.map Sb.a = WA then [] else [x.fr]) := by
        have e1 : l.take (k + 1) = l.take k ++ [x] := by
          obtain ⟨h, rfl⟩ := List.getElem?_eq_some_iff.1 hx
          exact List.take_succ_eq_append_getElem h
        rw [e1, List.filter_append, List.map_append, ← p2]
        congr 1
        by_cases hf : x.set.map Sb.a = WA
        · rw [if_pos hf, List.filter_cons_of_neg (by simp [hf])]; rfl
        · rw [if_neg hf, List.filter_cons_of_pos (by simp [hf])]; rfl
      refine cx_rowform 1 rfl (fun e1 e2 e3 => ?_) ?_
      · omega
      rintro g cap' hgc
      cases hgc
      obtain ⟨fr, sv, set⟩ := x
      have hel : ∀ R1 L, Cells h1 (R1 :: rowA (.slice (some ⟨g, 0, none⟩) l.length cap) l :: L) ⟨g, 0 + k * 2, none⟩ [.int .i64 fr, sv] := fun R1 L => row_elA (row_cells 1 rfl) hx rfl
      obtain ⟨_, ads, caps, hsv, _, _⟩ := id hsx.1
      dsimp only at hsv hsx hok htk
      subst hsv
      have SM := sSame_sp (.slice ads set.length caps) v1 set M h1 hsx S1 (by have := hok.2.1; omega) (by have := fM.1; omega) (fun x hx => by have := (hok.2.2 x hx).1; omega) (fun x hx => by have := (fM.2 x hx).1; omega)
      rw [E1] at SM
      by_cases hf : set.map Sb.a = WA
      · rw [decide_eq_true hf] at SM
        rw [if_pos hf, List.append_nil] at htk
        repeat' (first | (refine ycf ?_; apply ybk; (· first | (first | exact tk_ | (apply yad; (· rfl); (· exact hel _ _); (· rfl)))); (· rfl); (· rfl)) | refine t1_ ?_ | (refine ta_ ?_; intro _) | ((fail_if_success (refine ybi rfl ?_)); refine ybj rfl ?_ ?_ <;> (intro ht; rw [ht]; first | replace ht := of_decide_eq_true ht | replace ht := of_decide_eq_false ht | skip)) | (refine ych ?_; first | (refine ybw rfl ?_ ?_ <;> intro ht) | (refine ybx rfl ?_ ?_ <;> intro ht)))
        (refine ycn (ycp Try.func25 rfl (by kernel_rfl) rfl) (SM) rfl rfl rfl ?_ ?_; (· (exact to_)))
        repeat' (first | (refine ycf ?_; apply ybk; (· first | (first | exact tk_ | (apply yad; (· rfl); (· exact hel _ _); (· rfl)))); (· rfl); (· rfl)) | refine t1_ ?_ | (refine ta_ ?_; intro _) | ((fail_if_success (refine ybi rfl ?_)); refine ybj rfl ?_ ?_ <;> (intro ht; rw [ht]; first | replace ht := of_decide_eq_true ht | replace ht := of_decide_eq_false ht | skip)) | (refine ych ?_; first | (refine ybw rfl ?_ ?_ <;> intro ht) | (refine ybx rfl ?_ ?_ <;> intro ht)))
        exact nx_round (k + 1, vo, o) ⟨by show k + 1 ≤ _; omega, htk.symm⟩ (by show l.length - (k + 1) < l.length - k; omega) ts_ (fun _ s => s.tl)
      · rw [decide_eq_false hf] at SM
        rw [if_neg hf] at htk
        repeat' (first | (refine ycf ?_; apply ybk; (· first | (first | exact tk_ | (apply yad; (· rfl); (· exact hel _ _); (· rfl)))); (· rfl); (· rfl)) | refine t1_ ?_ | (refine ta_ ?_; intro _) | ((fail_if_success (refine ybi rfl ?_)); refine ybj rfl ?_ ?_ <;> (intro ht; rw [ht]; first | replace ht := of_decide_eq_true ht | replace ht := of_decide_eq_false ht | skip)) | (refine ych ?_; first | (refine ybw rfl ?_ ?_ <;> intro ht) | (refine ybx rfl ?_ ?_ <;> intro ht)))
        (refine ycn (ycp Try.func25 rfl (by kernel_rfl) rfl) (SM) rfl rfl rfl ?_ ?_; (· (exact to_)))
        repeat' (first | (refine ycf ?_; apply ybk; (· first | (first | exact tk_ | (apply yad; (· rfl); (· exact hel _ _); (· rfl)))); (· rfl); (· rfl)) | refine t1_ ?_ | (refine ta_ ?_; intro _) | ((fail_if_success (refine ybi rfl ?_)); refine ybj rfl ?_ ?_ <;> (intro ht; rw [ht]; first | replace ht := of_decide_eq_true ht | replace ht := of_decide_eq_false ht | skip)) | (refine ych ?_; first | (refine ybw rfl ?_ ?_ <;> intro ht) | (refine ybx rfl ?_ ?_ <;> intro ht)))
        refine rx_append (sz := 1) 2 rfl rfl rfl (yaz 0 rfl) rfl (ics_one [fr]) rfl (by omega) (by unfold maxLen; omega) (by omega) rfl rfl rfl ybf (fun _ => ybf) ?_
        intro v3 _
        repeat' (first | (refine ycf ?_; apply ybk; (· first | (first | exact tk_ | (apply yad; (· rfl); (· exact hel _ _); (· rfl)))); (· rfl); (· rfl)) | refine t1_ ?_ | (refine ta_ ?_; intro _) | ((fail_if_success (refine ybi rfl ?_)); refine ybj rfl ?_ ?_ <;> (intro ht; rw [ht]; first | replace ht := of_decide_eq_true ht | replace ht := of_decide_eq_false ht | skip)) | (refine ych ?_; first | (refine ybw rfl ?_ ?_ <;> intro ht) | (refine ybx rfl ?_ ?_ <;> intro ht)))
        refine nx_round (k + 1, v3, o ++ [fr]) ⟨by show k + 1 ≤ _; omega, htk.symm⟩ (by show l.length - (k + 1) < l.length - k; omega) ts_ (fun _ s => ?_)
        have s2 := s.tl.tl
        dsimp only
        show St _ h1 [Res.row _ _ v3 (o ++ [fr]).length (ics (o ++ [fr])), _] _
        rw [List.length_append, ics, List.map_append]
        exact s2
    · have hkk : k = l.length := by omega
      subst hkk
      rw [List.take_length] at p2
      repeat' (first | (refine ycf ?_; apply ybk; (· first | (exact tk_)); (· rfl); (· rfl)) | refine t1_ ?_ | (refine ta_ ?_; intro _) | ((fail_if_success (refine ybi rfl ?_)); refine ybj rfl ?_ ?_ <;> (intro ht; rw [ht]; first | replace ht := of_decide_eq_true ht | replace ht := of_decide_eq_false ht | skip)) | (refine ych ?_; first | (refine ybw rfl ?_ ?_ <;> intro ht) | (refine ybx rfl ?_ ?_ <;> intro ht)))
      refine nx_ret2 rfl (rv_tmp rfl) (rv_tmp rfl) (fun w' s' => ?_)
      obtain ⟨h2, hle2, hs2, s2⟩ := s'.rowPersistA (by intro x hx; exact hx)
      exact ⟨(h2, vo, o), rfl, s2, hs2, p2⟩
  · rw [if_neg he]
    repeat' (first | (refine ycf ?_; apply ybk; (· first | (exact tk_)); (· rfl); (· rfl)) | refine t1_ ?_ | (refine ta_ ?_; intro _) | ((fail_if_success (refine ybi rfl ?_)); refine ybj rfl ?_ ?_ <;> (intro ht; rw [ht]; first | replace ht := of_decide_eq_true ht | replace ht := of_decide_eq_false ht | skip)) | (refine ych ?_; first | (refine ybw rfl ?_ ?_ <;> intro ht) | (refine ybx rfl ?_ ?_ <;> intro ht)))
    exact nx_ret2 rfl (rv_tmp rfl) (rv_tmp rfl) (fun w' s' => ⟨(h1, .slice none 0 0, []), rfl, s', Sc.nil h1 1 none 0, rfl⟩)
end Go.Proofs.Ytkkjppeaaicgaaa
end
