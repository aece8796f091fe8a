/-
  Part 20 of a proof: RpH SbRd RpJ RpI CkTrod CkTrodS.
  Conditions: each theorem states its own.
-/
import Derived.Deep.Slices
import Derived.Carry
import Derived.DataReads
import Derived.Test.YtkkjppeaaicgaaaRpIPM19
section
namespace Go.Proofs.Ytkkjppeaaicgaaa
open Go Go.Ck
set_option maxRecDepth 100000
set_option maxHeartbeats 4000000
set_option linter.unusedVariables false

theorem rwhole_sp (v : Value) (l : List An) (h : View) (hs : Ra h v l) (hl : l.length ≤ 1000000) (fl : ∀ x ∈ l, Fits x.set) (w : World) (s : St ⟨w, h, []⟩ h [] w) :
    Calls Try.prog 19 [v].toArray w fun e w' => ∃ z : View × Value × List Sb, e = .returned (.tuple #[z.2.1, .int .i64 (wholeF [] (setsA l)).2]) ∧ St ⟨w, h, []⟩ z.1 [] w' ∧ Rs z.1 z.2.1 z.2.2 ∧ z.2.2.map Sb.a = (wholeF [] (setsA l)).1 := by
  obtain ⟨hs, hsv⟩ := hs
  obtain ⟨_, ad, cap, rfl, hcap, _⟩ := id hs
  refine calls_enter Try.func19 rfl Try.ntmps19 rfl s ?_
  repeat' (first | refine tw_ ?_ | (refine ta_ ?_; intro _) | ((fail_if_success (refine ybi rfl ?_)); refine ybj rfl ?_ ?_ <;> (intro ht; rw [ht]; first | replace ht := of_decide_eq_true ht | replace ht := of_decide_eq_false ht | skip)) | (refine ych ?_; first | (refine ybw rfl ?_ ?_ <;> intro ht) | (refine ybx rfl ?_ ?_ <;> intro ht)))
  refine cx_loop (X := Nat × View × Value × List Sb) (fun y => [(0, .slice ad l.length cap), (4, y.2.2.1), (5, .int .i64 (y.1 : Nat))]) (fun y => y.2.1) (fun y => [])
    (fun y => y.1 ≤ l.length ∧ Le h y.2.1 ∧ Rs y.2.1 y.2.2.1 y.2.2.2 ∧ checkA (y.2.2.2.map Sb.a) = 0 ∧ wholeF [] (setsA l) = wholeF (y.2.2.2.map Sb.a) ((setsA l).drop y.1)) (fun y => l.length - y.1) (0, h, .slice none 0 0, [])
    ⟨Nat.zero_le _, Le.refl _, ⟨Sc.nil h 20 none 0, fun x hx => by cases hx⟩, by kernel_rfl, rfl⟩ ts_ (fun _ s => s) ?_
  rintro ⟨k, hk, vo, O⟩ ⟨p1, p2, p3, p4, p5⟩
  dsimp only at p1 p2 p3 p4 p5 ⊢
  by_cases hkl : k < l.length
  · obtain ⟨bs, o, rfl⟩ := hs.ad (by omega) (by omega)
    have hs3 := hs.mono p2
    have hel : ∀ L, Cells hk L ⟨bs, o + k * 2, none⟩ (anc l[k]) := fun L => hs3.elem anc_len k hkl
    have hx : l[k]? = some l[k] := List.getElem?_eq_getElem hkl
    have hsx := (hsv _ (List.getElem_mem hkl)).mono p2
    have hfx := fl _ (List.getElem_mem hkl)
    have hd := sets_drop hx
    rw [hd, wholeF_cons] at p5
    generalize l[k] = x at hel hsx hfx p5
    obtain ⟨fr, sv, set⟩ := x
    obtain ⟨_, ads, caps, hsv', _, _⟩ := id hsx.1
    dsimp only at hsv' hsx hfx p5
    subst hsv'
    have hel1 : ∀ L, CellAt hk L bs (o + k * 2 + 1) (.slice ads set.length caps) := fun L => (hel L).cell (j := 1) rfl
    have MG := rmerge_sp vo (.slice ads set.length caps) O set hk p3 hsx (fits_check p4) hfx
    by_cases he : (mergeF (O.map Sb.a) (set.map Sb.a)).2 = 0
    · rw [he] at MG
      rw [if_pos he] at p5
      repeat' (first | (refine ycf ?_; apply ybk; (· first | (exact tk_) | (apply yae; (· rfl); (· (exact hel1 _)))); (· rfl); (· rfl)) | refine t1_ ?_ | (refine ta_ ?_; intro _) | ((fail_if_success (refine ybi rfl ?_)); refine ybj rfl ?_ ?_ <;> (intro ht; rw [ht]; first | replace ht := of_decide_eq_true ht | replace ht := of_decide_eq_false ht | skip)) | (refine ych ?_; first | (refine ybw rfl ?_ ?_ <;> intro ht) | (refine ybx rfl ?_ ?_ <;> intro ht)))
      (refine yco (ycp Try.func27 rfl (by kernel_rfl) rfl) (MG) rfl rfl rfl ?_ ?_ ?_; (· (exact to_)); (· intro _ _ hle; (exact to_)); intro x px hle)
      obtain ⟨h3, v3, M⟩ := x
      obtain ⟨S3, E3⟩ := px
      dsimp only at S3 E3
      repeat' (first | (refine ycf ?_; apply ybk; (· first | (exact tk_) | (apply yae; (· rfl); (· (exact hel1 _)))); (· rfl); (· rfl)) | refine t1_ ?_ | (refine ta_ ?_; intro _) | ((fail_if_success (refine ybi rfl ?_)); refine ybj rfl ?_ ?_ <;> (intro ht; rw [ht]; first | replace ht := of_decide_eq_true ht | replace ht := of_decide_eq_false ht | skip)) | (refine ych ?_; first | (refine ybw rfl ?_ ?_ <;> intro ht) | (refine ybx rfl ?_ ?_ <;> intro ht)))
      refine nx_round (k + 1, h3, v3, M) ⟨by show k + 1 ≤ _; omega, p2.trans hle, S3, by rw [E3]; exact mergeF_set he, by rw [E3]; exact p5⟩ (by show l.length - (k + 1) < l.length - k; omega) ts_ (fun _ s => s.nil)
    · rw [if_neg he] at p5
      obtain ⟨er, her⟩ : ∃ er, er = (mergeF (O.map Sb.a) (set.map Sb.a)).2 := ⟨_, rfl⟩
      rw [← her] at MG he p5
      repeat' (first | (refine ycf ?_; apply ybk; (· first | (exact tk_) | (apply yae; (· rfl); (· (exact hel1 _)))); (· rfl); (· rfl)) | refine t1_ ?_ | (refine ta_ ?_; intro _) | ((fail_if_success (refine ybi rfl ?_)); refine ybj rfl ?_ ?_ <;> (intro ht; rw [ht]; first | replace ht := of_decide_eq_true ht | replace ht := of_decide_eq_false ht | skip)) | (refine ych ?_; first | (refine ybw rfl ?_ ?_ <;> intro ht) | (refine ybx rfl ?_ ?_ <;> intro ht)))
      (refine yco (ycp Try.func27 rfl (by kernel_rfl) rfl) (MG) rfl rfl rfl ?_ ?_ ?_; (· (exact to_)); (· intro _ _ hle; (exact to_)); intro x px hle)
      obtain ⟨h3, v3, M⟩ := x
      repeat' (first | (refine ycf ?_; apply ybk; (· first | (exact tk_) | (apply yae; (· rfl); (· (exact hel1 _)))); (· rfl); (· rfl)) | refine t1_ ?_ | (refine ta_ ?_; intro _) | ((fail_if_success (refine ybi rfl ?_)); refine ybj rfl ?_ ?_ <;> (intro ht; rw [ht]; first | replace ht := of_decide_eq_true ht | replace ht := of_decide_eq_false ht | skip)) | (refine ych ?_; first | (refine ybw rfl ?_ ?_ <;> intro ht) | (refine ybx rfl ?_ ?_ <;> intro ht)))
      refine nx_ret2 rfl (rv_tmp rfl) (rv_tmp rfl) (fun w' s' => ⟨(h3, .slice none 0 0, []), by rw [p5]; rfl, s'.nil, ⟨Sc.nil _ 20 none 0, fun x hx => by cases hx⟩, by rw [p5]; rfl⟩)
  · have hkk : k = l.length := by omega
    have hdn : (setsA l).drop k = [] := List.drop_of_length_le (by simp [setsA]; omega)
    rw [hdn] at p5
    repeat' (first | (refine ycf ?_; apply ybk; (· first | (exact tk_) | (apply yae; (· rfl); (· (exact hel1 _)))); (· rfl); (· rfl)) | refine t1_ ?_ | (refine ta_ ?_; intro _) | ((fail_if_success (refine ybi rfl ?_)); refine ybj rfl ?_ ?_ <;> (intro ht; rw [ht]; first | replace ht := of_decide_eq_true ht | replace ht := of_decide_eq_false ht | skip)) | (refine ych ?_; first | (refine ybw rfl ?_ ?_ <;> intro ht) | (refine ybx rfl ?_ ?_ <;> intro ht)))
    refine nx_ret2 rfl (rv_tmp rfl) (rv_tmp rfl) (fun w' s' => ⟨(hk, vo, O), by rw [p5]; rfl, s'.nil, p3, by rw [p5]; rfl⟩)

theorem rlacking_sp (v : Value) (l : List An) (h : View) (hs : Ra h v l) (hl : l.length ≤ 1000000) (fl : ∀ x ∈ l, Fits x.set) (w : World) (s : St ⟨w, h, []⟩ h [] w) :
    Calls Try.prog 21 [v].toArray w fun e w' => ∃ z : View × Value × List Int, e = .returned (.tuple #[z.2.1, .int .i64 (wholeF [] (setsA l)).2]) ∧ St ⟨w, h, []⟩ z.1 [] w' ∧ Sc z.1 1 z.2.1 z.2.2.length (ics z.2.2) ∧ z.2.2 = lackF l := by
  have WH := rwhole_sp v l h hs hl fl
  obtain ⟨hs, hsv⟩ := hs
  obtain ⟨_, ad, cap, rfl, hcap, _⟩ := id hs
  unfold lackF
  obtain ⟨⟨WA, er⟩, hWA⟩ : ∃ p, p = wholeF [] (setsA l) := ⟨_, rfl⟩
  rw [← hWA] at WH ⊢
  dsimp only at WH ⊢
  refine calls_enter Try.func21 rfl Try.ntmps21 rfl s ?_
  repeat' (first | (refine ycf ?_; apply ybk; (· first | (exact tk_) | (apply yae; (· rfl); (· (exact hel1 _)))); (· rfl); (· rfl)) | refine t1_ ?_ | (refine ta_ ?_; intro _) | ((fail_if_success (refine ybi rfl ?_)); refine ybj rfl ?_ ?_ <;> (intro ht; rw [ht]; first | replace ht := of_decide_eq_true ht | replace ht := of_decide_eq_false ht | skip)) | (refine ych ?_; first | (refine ybw rfl ?_ ?_ <;> intro ht) | (refine ybx rfl ?_ ?_ <;> intro ht)))
  (refine yco (ycp Try.func19 rfl (by kernel_rfl) rfl) (WH) rfl rfl rfl ?_ ?_ ?_; (· (exact to_)); (· intro _ _ hle; (exact to_)); intro x px hle)
  obtain ⟨h1, v1, M⟩ := x
  obtain ⟨S1, E1⟩ := px
  dsimp only at S1 E1
  by_cases he : er = 0
  · subst he
    rw [if_pos rfl]
    have ck : checkA (M.map Sb.a) = 0 := by
      have := wholeF_set (r := setsA l) (o := []) (by kernel_rfl) (by rw [← hWA])
      rw [← hWA] at this
      rw [E1]
      exact this
    have fM := fits_check ck
    repeat' (first | (refine ycf ?_; apply ybk; (· first | (exact tk_) | (apply yae; (· rfl); (· (exact hel1 _)))); (· rfl); (· rfl)) | refine t1_ ?_ | (refine ta_ ?_; intro _) | ((fail_if_success (refine ybi rfl ?_)); refine ybj rfl ?_ ?_ <;> (intro ht; rw [ht]; first | replace ht := of_decide_eq_true ht | replace ht := of_decide_eq_false ht | skip)) | (refine ych ?_; first | (refine ybw rfl ?_ ?_ <;> intro ht) | (refine ybx rfl ?_ ?_ <;> intro ht)))
    refine cx_row 3 1 ?_
    refine cx_loop (X := Nat × Value × List Int) (fun y => [(0, .slice ad l.length cap), (4, v1), (6, y.2.1), (7, .int .i64 (y.1 : Nat))]) (fun y => h1) (fun y => [Res.row 3 1 y.2.1 y.2.2.length (ics y.2.2)])
      (fun y => y.1 ≤ l.length ∧ y.2.2 = ((l.take y.1).filter fun x => !decide (x.set.map Sb.a = WA)).map An.fr) (fun y => l.length - y.1) (0, .slice none 0 0, []) ⟨Nat.zero_le _, rfl⟩ ts_ (fun _ s => s) ?_
    rintro ⟨k, vo, o⟩ ⟨p1, p2⟩
    dsimp only at p1 p2 ⊢
    have lo : o.length ≤ k := by
      rw [p2, List.length_map]
      exact Nat.le_trans (List.length_filter_le ..) (by simp; omega)
    by_cases hkl : k < l.length
    · obtain ⟨bs, of, rfl⟩ := hs.ad (by omega) (by omega)
      have hs3 := hs.mono hle
      have hel : ∀ L, Cells h1 L ⟨bs, of + k * 2, none⟩ (anc l[k]) := fun L => hs3.elem anc_len k hkl
      have hsx := (hsv _ (List.getElem_mem hkl)).mono hle
      have hfx := fl _ (List.getElem_mem hkl)
      have htk : ((l.take (k + 1)).filter fun x => !decide (x.set.map Sb.a = WA)).map An.fr = o ++ (if l[k].set.map Sb.a = WA then [] else [l[k].fr]) := by
        rw [List.take_succ_eq_append_getElem hkl, List.filter_append, List.map_append, ← p2]
        congr 1
        by_cases hf : l[k].set.map Sb.a = WA
        · rw [if_pos hf, List.filter_cons_of_neg (by simp [hf])]; rfl
        · rw [if_neg hf, List.filter_cons_of_pos (by simp [hf])]; rfl
      generalize l[k] = x at hel hsx hfx htk
      obtain ⟨fr, sv, set⟩ := x
      obtain ⟨_, ads, caps, hsv', _, _⟩ := id hsx.1
      dsimp only at hsv' hsx hfx htk
      subst hsv'
      have hel0 : ∀ L, CellAt h1 L bs (of + k * 2 + 0) (.int .i64 fr) := fun L => (hel L).cell (j := 0) rfl
      have hel1 : ∀ L, CellAt h1 L bs (of + k * 2 + 1) (.slice ads set.length caps) := fun L => (hel L).cell (j := 1) rfl
      have SM := rsame_sp (.slice ads set.length caps) v1 set M h1 hsx S1 (by have := hfx.1; omega) (by have := fM.1; omega) (fun x hx => by have := (hfx.2 x hx).1; omega) (fun x hx => by have := (fM.2 x hx).1; omega)
      rw [E1] at SM
      by_cases hf : set.map Sb.a = WA
      · rw [decide_eq_true hf] at SM
        rw [if_pos hf, List.append_nil] at htk
        repeat' (first | (refine ycf ?_; apply ybk; (· first | (exact tk_) | (apply yae; (· rfl); (· (first | exact hel0 _ | exact hel1 _)))); (· rfl); (· rfl)) | refine t1_ ?_ | (refine ta_ ?_; intro _) | ((fail_if_success (refine ybi rfl ?_)); refine ybj rfl ?_ ?_ <;> (intro ht; rw [ht]; first | replace ht := of_decide_eq_true ht | replace ht := of_decide_eq_false ht | skip)) | (refine ych ?_; first | (refine ybw rfl ?_ ?_ <;> intro ht) | (refine ybx rfl ?_ ?_ <;> intro ht)))
        (refine ycn (ycp Try.func23 rfl (by kernel_rfl) rfl) (SM) rfl rfl rfl ?_ ?_; (· (exact to_)))
        repeat' (first | (refine ycf ?_; apply ybk; (· first | (exact tk_) | (apply yae; (· rfl); (· (first | exact hel0 _ | exact hel1 _)))); (· rfl); (· rfl)) | refine t1_ ?_ | (refine ta_ ?_; intro _) | ((fail_if_success (refine ybi rfl ?_)); refine ybj rfl ?_ ?_ <;> (intro ht; rw [ht]; first | replace ht := of_decide_eq_true ht | replace ht := of_decide_eq_false ht | skip)) | (refine ych ?_; first | (refine ybw rfl ?_ ?_ <;> intro ht) | (refine ybx rfl ?_ ?_ <;> intro ht)))
        exact nx_round (k + 1, vo, o) ⟨by show k + 1 ≤ _; omega, htk.symm⟩ (by show l.length - (k + 1) < l.length - k; omega) ts_ (fun _ s => s)
      · rw [decide_eq_false hf] at SM
        rw [if_neg hf] at htk
        repeat' (first | (refine ycf ?_; apply ybk; (· first | (exact tk_) | (apply yae; (· rfl); (· (first | exact hel0 _ | exact hel1 _)))); (· rfl); (· rfl)) | refine t1_ ?_ | (refine ta_ ?_; intro _) | ((fail_if_success (refine ybi rfl ?_)); refine ybj rfl ?_ ?_ <;> (intro ht; rw [ht]; first | replace ht := of_decide_eq_true ht | replace ht := of_decide_eq_false ht | skip)) | (refine ych ?_; first | (refine ybw rfl ?_ ?_ <;> intro ht) | (refine ybx rfl ?_ ?_ <;> intro ht)))
        (refine ycn (ycp Try.func23 rfl (by kernel_rfl) rfl) (SM) rfl rfl rfl ?_ ?_; (· (exact to_)))
        repeat' (first | (refine ycf ?_; apply ybk; (· first | (exact tk_) | (apply yae; (· rfl); (· (first | exact hel0 _ | exact hel1 _)))); (· rfl); (· rfl)) | refine t1_ ?_ | (refine ta_ ?_; intro _) | ((fail_if_success (refine ybi rfl ?_)); refine ybj rfl ?_ ?_ <;> (intro ht; rw [ht]; first | replace ht := of_decide_eq_true ht | replace ht := of_decide_eq_false ht | skip)) | (refine ych ?_; first | (refine ybw rfl ?_ ?_ <;> intro ht) | (refine ybx rfl ?_ ?_ <;> intro ht)))
        refine rx_append (sz := 1) 1 rfl rfl rfl (yaz 0 rfl) rfl (ics_one [fr]) rfl (by omega) (by unfold maxLen; omega) (by omega) rfl rfl rfl ybf (fun _ => ybf) ?_
        intro v3 _
        repeat' (first | (refine ycf ?_; apply ybk; (· first | (exact tk_) | (apply yae; (· rfl); (· (first | exact hel0 _ | exact hel1 _)))); (· rfl); (· rfl)) | refine t1_ ?_ | (refine ta_ ?_; intro _) | ((fail_if_success (refine ybi rfl ?_)); refine ybj rfl ?_ ?_ <;> (intro ht; rw [ht]; first | replace ht := of_decide_eq_true ht | replace ht := of_decide_eq_false ht | skip)) | (refine ych ?_; first | (refine ybw rfl ?_ ?_ <;> intro ht) | (refine ybx rfl ?_ ?_ <;> intro ht)))
        refine nx_round (k + 1, v3, o ++ [fr]) ⟨by show k + 1 ≤ _; omega, htk.symm⟩ (by show l.length - (k + 1) < l.length - k; omega) ts_ (fun _ s => ?_)
        have s2 := s.tl
        dsimp only
        show St _ h1 [Res.row _ _ v3 (o ++ [fr]).length (ics (o ++ [fr]))] _
        rw [List.length_append, ics, List.map_append]
        exact s2
    · have hkk : k = l.length := by omega
      subst hkk
      rw [List.take_length] at p2
      repeat' (first | (refine ycf ?_; apply ybk; (· first | (exact tk_) | (apply yae; (· rfl); (· (first | exact hel0 _ | exact hel1 _)))); (· rfl); (· rfl)) | refine t1_ ?_ | (refine ta_ ?_; intro _) | ((fail_if_success (refine ybi rfl ?_)); refine ybj rfl ?_ ?_ <;> (intro ht; rw [ht]; first | replace ht := of_decide_eq_true ht | replace ht := of_decide_eq_false ht | skip)) | (refine ych ?_; first | (refine ybw rfl ?_ ?_ <;> intro ht) | (refine ybx rfl ?_ ?_ <;> intro ht)))
      refine nx_ret2 rfl (rv_tmp rfl) (rv_tmp rfl) (fun w' s' => ?_)
      obtain ⟨h2, hle2, hs2, s2⟩ := s'.rowPersistA (by intro x hx; exact hx)
      exact ⟨(h2, vo, o), rfl, s2.nil, hs2, p2⟩
  · rw [if_neg he]
    repeat' (first | (refine ycf ?_; apply ybk; (· first | (exact tk_) | (apply yae; (· rfl); (· (first | exact hel0 _ | exact hel1 _)))); (· rfl); (· rfl)) | refine t1_ ?_ | (refine ta_ ?_; intro _) | ((fail_if_success (refine ybi rfl ?_)); refine ybj rfl ?_ ?_ <;> (intro ht; rw [ht]; first | replace ht := of_decide_eq_true ht | replace ht := of_decide_eq_false ht | skip)) | (refine ych ?_; first | (refine ybw rfl ?_ ?_ <;> intro ht) | (refine ybx rfl ?_ ?_ <;> intro ht)))
    exact nx_ret2 rfl (rv_tmp rfl) (rv_tmp rfl) (fun w' s' => ⟨(h1, .slice none 0 0, []), rfl, s'.nil, Sc.nil h1 1 none 0, rfl⟩)
end Go.Proofs.Ytkkjppeaaicgaaa
end

section
namespace Go.Proofs.Ytkkjppeaaicgaaa
open Go Go.Ck
set_option maxRecDepth 100000
set_option maxHeartbeats 4000000
set_option linter.unusedVariables false

theorem fill3s {d : Dt} {u : List Int} {mv : Value} {b : List Int} (hu : u.length = 16) : fillL (fun i : Nat => ([(0, 2), (2, 17), (19, 1)] : List (Nat × Nat))[i]?) ([.int .i64 0, .int .i64 0] ++ (up zeroU ++ [.slice none 0 0, .string ⟨#[]⟩])) [(0, .agg (dcs d).toArray), (1, .agg (cxc u mv).toArray), (2, .string (bstr b))] = some (dcs d ++ (cxc u mv ++ [.string (bstr b)])) := by
  obtain ⟨a0, a1, a2, a3, a4, a5, a6, a7, a8, a9, a10, a11, a12, a13, a14, a15, rfl⟩ := list16 u hu
  unfold fillL fillL fillL fillL
  rfl
theorem sfrom_sp (v : Value) (l : List Sb) (h : View) (hs : Ss h v l) (fl : Fits l) (w : World) (s : St ⟨w, h, []⟩ h [] w) :
    Calls Try.prog 28 [v].toArray w fun e w' => ∃ z : View × Value × List Sb, e = .returned z.2.1 ∧ St ⟨w, h, []⟩ z.1 [] w' ∧ Rs z.1 z.2.1 z.2.2 ∧ z.2.2.map Sb.a = l.map Sb.a := by
  obtain ⟨hs, hsv⟩ := hs
  obtain ⟨_, ad, cap, rfl, hcap, _⟩ := id hs
  have lenl := fl.1
  refine calls_enter Try.func28 rfl Try.ntmps28 rfl s ?_
  repeat' (first | refine tw_ ?_ | (refine ta_ ?_; intro _) | ((fail_if_success (refine ybi rfl ?_)); refine ybj rfl ?_ ?_ <;> (intro ht; rw [ht]; first | replace ht := of_decide_eq_true ht | replace ht := of_decide_eq_false ht | skip)) | (refine ych ?_; first | (refine ybw rfl ?_ ?_ <;> intro ht) | (refine ybx rfl ?_ ?_ <;> intro ht)))
  refine cx_row 71 20 ?_
  refine cx_loop (X := Nat × Value × List Sb) (fun y => [(0, .slice ad l.length cap), (3, y.2.1), (4, .int .i64 (y.1 : Nat))]) (fun y => h) (fun y => [Res.row 71 20 y.2.1 y.2.2.length (y.2.2.flatMap sbc)])
    (fun y => y.1 ≤ l.length ∧ (∀ o ∈ y.2.2, Rv h o) ∧ y.2.2.map Sb.a = (l.take y.1).map Sb.a) (fun y => l.length - y.1) (0, .slice none 0 0, []) ⟨Nat.zero_le _, fun o ho => (by cases ho), rfl⟩ ts_ (fun _ s => s) ?_
  rintro ⟨k, vo, O⟩ ⟨p1, p3, p4⟩
  dsimp only at p1 p3 p4 ⊢
  have hOl : O.length = k := by
    have := congrArg List.length p4
    simp at this
    omega
  by_cases hkl : k < l.length
  · obtain ⟨bs, o, rfl⟩ := hs.ad (by omega) (by omega)
    have hel : ∀ L, Cells h L ⟨bs, o + k * 20, none⟩ (sbc l[k]) := fun L => hs.elem sbc_len k hkl
    have hxv : Sv h l[k] := hsv _ (List.getElem_mem hkl)
    have hlim := fl.2 _ (List.getElem_mem hkl)
    have htk : (l.take (k + 1)).map Sb.a = O.map Sb.a ++ [l[k].a] := by rw [List.take_succ_eq_append_getElem hkl, List.map_append, ← p4]; rfl
    generalize l[k] = e0 at hel hxv hlim htk
    have hxl := sbc_len e0
    have hone := hxv.one
    obtain ⟨_, adm, capm, hmv, _, _⟩ := id hxv.ds
    obtain ⟨_, adb, capb, hbv, _, _⟩ := id hxv.bs
    have hbs := hxv.bs
    rw [hbv] at hbs
    have hds := hxv.ds
    rw [hmv] at hds
    obtain ⟨z, hz⟩ : ∃ z : Sb, z = ⟨e0.d, e0.u, e0.hu, e0.l, .slice adm e0.l.length capm, e0.b, .string (bstr e0.b)⟩ := ⟨_, rfl⟩
    have hfu := fill2 (ad := adm) (m := e0.l.length) (c := capm) e0.hu
    have hfz : fillL (fun i : Nat => ([(0, 2), (2, 17), (19, 1)] : List (Nat × Nat))[i]?) ([.int .i64 0, .int .i64 0] ++ (up zeroU ++ [.slice none 0 0, .string ⟨#[]⟩])) [(0, .agg (dcs e0.d).toArray), (1, .agg (cxc e0.u (.slice adm e0.l.length capm)).toArray), (2, .string (bstr e0.b))] = some (sbc z) := by
      rw [hz]; exact fill3s e0.hu
    have hzv : Rv h z := by rw [hz]; exact ⟨hds, rfl, hxv.by8⟩
    have hza : z.a = e0.a := by rw [hz]; rfl
    have hzo := hzv.one
    have hzl := sbc_len z
    repeat' (first|(refine ycf ?_;apply ybk;(·first|(first|exact tk_|(apply yad;(·rfl);(·exact hel _);(·exact hxl))|(apply yad;(·rfl);(·exact sb_dot (yaz 0 rfl));(·rfl))|(apply yad (vs := up e0.u);(·rfl);(·exact cells_up2 (sb_past (yaz 0 rfl)));(·simp [up, e0.hu]))|(refine qv_str_bs rfl hbs)|(apply yax (cs := cxc e0.u (.slice adm e0.l.length capm));(·rfl);(·exact hfu))|(apply yax (cs := sbc z);(·rfl);(·exact hfz)))|(apply yae;(·rfl);(·(first|exact sb_more (yaz 0 rfl) hmv|exact sb_body0 (yaz 0 rfl) hbv))));(·rfl);(·rfl))|(refine ybg 0 rfl rfl rfl (sbc_sz e0) (sbc_fit rfl) (sbc_one hone.1 hone.2) (ybh (sbc_all rfl)) rfl rfl ?_ ?_ ?_;(·(exact to_));(·(exact to_)))|refine t1_ ?_|(refine ta_ ?_;intro _)|((fail_if_success (refine ybi rfl ?_));refine ybj rfl ?_ ?_<;>(intro ht;rw [ht];first|replace ht := of_decide_eq_true ht|replace ht := of_decide_eq_false ht|skip))|(refine ych ?_;first|(refine ybw rfl ?_ ?_<;>intro ht)|(refine ybx rfl ?_ ?_<;>intro ht)))
    refine yba (ybd rfl rfl rfl (ybe rfl (sbc_sz z))) rfl rfl rfl ybf (fun _ => ybf) ?_
    intro b32
    refine rx_append (sz := 20) 2 rfl rfl rfl (yaz 0 rfl) (by show (sbc z).length = 1 * 20; exact sbc_len z) (fun u hu => List.all_eq_true.1 (sbc_one hzo.1 hzo.2) u hu) rfl (by omega) (by unfold maxLen; omega) (by omega) rfl rfl rfl ybf (fun _ => ybf) ?_
    intro v9 _
    repeat' (first | (refine ycf ?_; apply ybk; (· first | (exact tk_)); (· rfl); (· rfl)) | refine t1_ ?_ | (refine ta_ ?_; intro _) | ((fail_if_success (refine ybi rfl ?_)); refine ybj rfl ?_ ?_ <;> (intro ht; rw [ht]; first | replace ht := of_decide_eq_true ht | replace ht := of_decide_eq_false ht | skip)) | (refine ych ?_; first | (refine ybw rfl ?_ ?_ <;> intro ht) | (refine ybx rfl ?_ ?_ <;> intro ht)))
    refine nx_round (k + 1, v9, O ++ [z]) ⟨by show k + 1 ≤ _; omega, fun o ho => ?_, ?_⟩ (by show l.length - (k + 1) < l.length - k; omega) ts_ (fun _ s => ?_)
    · rcases List.mem_append.1 ho with ho | ho
      · exact p3 o ho
      · rw [List.mem_singleton.1 ho]; exact hzv
    · dsimp only
      rw [htk, List.map_append]
      simp [hza]
    · have s2 := s.tl.tl
      dsimp only
      show St _ _ [Res.row _ _ v9 (O ++ [z]).length ((O ++ [z]).flatMap sbc)] _
      rw [List.length_append, List.flatMap_append, show [z].flatMap sbc = sbc z by simp]
      exact s2
  · have hkk : k = l.length := by omega
    rw [hkk, List.take_length] at p4
    repeat' (first | (refine ycf ?_; apply ybk; (· first | (exact tk_)); (· rfl); (· rfl)) | refine t1_ ?_ | (refine ta_ ?_; intro _) | ((fail_if_success (refine ybi rfl ?_)); refine ybj rfl ?_ ?_ <;> (intro ht; rw [ht]; first | replace ht := of_decide_eq_true ht | replace ht := of_decide_eq_false ht | skip)) | (refine ych ?_; first | (refine ybw rfl ?_ ?_ <;> intro ht) | (refine ybx rfl ?_ ?_ <;> intro ht)))
    refine nx_ret1 rfl (rv_tmp rfl) (fun w' s' => ?_)
    obtain ⟨h2, hle2, hs2, s2⟩ := s'.rowPersistA (by intro x hx; cases hx)
    exact ⟨(h2, vo, O), rfl, s2.nil, ⟨hs2, fun z hz => (p3 z hz).mono hle2⟩, p4⟩
end Go.Proofs.Ytkkjppeaaicgaaa
end

section
namespace Go.Proofs.Ytkkjppeaaicgaaa
open Go Go.Ck
set_option maxRecDepth 100000
set_option maxHeartbeats 4000000
set_option linter.unusedVariables false

theorem rfrom_sp (v : Value) (l : List Sb) (h : View) (hs : Ss h v l) (fl : Fits l) (w : World) (s : St ⟨w, h, []⟩ h [] w) :
    Calls Try.prog 24 [v].toArray w fun e w' => ∃ z : View × Value × List Sb, e = .returned z.2.1 ∧ St ⟨w, h, []⟩ z.1 [] w' ∧ Rs z.1 z.2.1 z.2.2 ∧ z.2.2.map Sb.a = l.map Sb.a := by
  obtain ⟨hs, hsv⟩ := hs
  obtain ⟨_, ad, cap, rfl, hcap, _⟩ := id hs
  have lenl := fl.1
  refine calls_enter Try.func24 rfl Try.ntmps24 rfl s ?_
  repeat' (first | refine tw_ ?_ | (refine ta_ ?_; intro _) | ((fail_if_success (refine ybi rfl ?_)); refine ybj rfl ?_ ?_ <;> (intro ht; rw [ht]; first | replace ht := of_decide_eq_true ht | replace ht := of_decide_eq_false ht | skip)) | (refine ych ?_; first | (refine ybw rfl ?_ ?_ <;> intro ht) | (refine ybx rfl ?_ ?_ <;> intro ht)))
  refine cx_row 71 20 ?_
  refine cx_loop (X := Nat × Value × List Sb) (fun y => [(0, .slice ad l.length cap), (3, y.2.1), (4, .int .i64 (y.1 : Nat))]) (fun y => h) (fun y => [Res.row 71 20 y.2.1 y.2.2.length (y.2.2.flatMap sbc)])
    (fun y => y.1 ≤ l.length ∧ (∀ o ∈ y.2.2, Rv h o) ∧ y.2.2.map Sb.a = (l.take y.1).map Sb.a) (fun y => l.length - y.1) (0, .slice none 0 0, []) ⟨Nat.zero_le _, fun o ho => (by cases ho), rfl⟩ ts_ (fun _ s => s) ?_
  rintro ⟨k, vo, O⟩ ⟨p1, p3, p4⟩
  dsimp only at p1 p3 p4 ⊢
  have hOl : O.length = k := by
    have := congrArg List.length p4
    simp at this
    omega
  by_cases hkl : k < l.length
  · obtain ⟨bs, o, rfl⟩ := hs.ad (by omega) (by omega)
    have hel : ∀ L, Cells h L ⟨bs, o + k * 20, none⟩ (sbc l[k]) := fun L => hs.elem sbc_len k hkl
    have hxv : Sv h l[k] := hsv _ (List.getElem_mem hkl)
    have hlim := fl.2 _ (List.getElem_mem hkl)
    have htk : (l.take (k + 1)).map Sb.a = O.map Sb.a ++ [l[k].a] := by rw [List.take_succ_eq_append_getElem hkl, List.map_append, ← p4]; rfl
    generalize l[k] = e0 at hel hxv hlim htk
    have hxl := sbc_len e0
    have hone := hxv.one
    obtain ⟨_, adm, capm, hmv, _, _⟩ := id hxv.ds
    obtain ⟨_, adb, capb, hbv, _, _⟩ := id hxv.bs
    have hbs := hxv.bs
    rw [hbv] at hbs
    have hds := hxv.ds
    rw [hmv] at hds
    obtain ⟨z, hz⟩ : ∃ z : Sb, z = ⟨e0.d, e0.u, e0.hu, e0.l, .slice adm e0.l.length capm, e0.b, .string (bstr e0.b)⟩ := ⟨_, rfl⟩
    have hfu := fill2 (ad := adm) (m := e0.l.length) (c := capm) e0.hu
    have hfz : fillL (fun i : Nat => ([(0, 2), (2, 17), (19, 1)] : List (Nat × Nat))[i]?) ([.int .i64 0, .int .i64 0] ++ (up zeroU ++ [.slice none 0 0, .string ⟨#[]⟩])) [(0, .agg (dcs e0.d).toArray), (1, .agg (cxc e0.u (.slice adm e0.l.length capm)).toArray), (2, .string (bstr e0.b))] = some (sbc z) := by
      rw [hz]; exact fill3s e0.hu
    have hzv : Rv h z := by rw [hz]; exact ⟨hds, rfl, hxv.by8⟩
    have hza : z.a = e0.a := by rw [hz]; rfl
    have hzo := hzv.one
    have hzl := sbc_len z
    repeat' (first|(refine ycf ?_;apply ybk;(·first|(first|exact tk_|(apply yad;(·rfl);(·exact hel _);(·exact hxl))|(apply yad;(·rfl);(·exact sb_dot (yaz 0 rfl));(·rfl))|(apply yad (vs := up e0.u);(·rfl);(·exact cells_up2 (sb_past (yaz 0 rfl)));(·simp [up, e0.hu]))|(refine qv_str_bs rfl hbs)|(apply yax (cs := cxc e0.u (.slice adm e0.l.length capm));(·rfl);(·exact hfu))|(apply yax (cs := sbc z);(·rfl);(·exact hfz)))|(apply yae;(·rfl);(·(first|exact sb_more (yaz 0 rfl) hmv|exact sb_body0 (yaz 0 rfl) hbv))));(·rfl);(·rfl))|(refine ybg 0 rfl rfl rfl (sbc_sz e0) (sbc_fit rfl) (sbc_one hone.1 hone.2) (ybh (sbc_all rfl)) rfl rfl ?_ ?_ ?_;(·(exact to_));(·(exact to_)))|refine t1_ ?_|(refine ta_ ?_;intro _)|((fail_if_success (refine ybi rfl ?_));refine ybj rfl ?_ ?_<;>(intro ht;rw [ht];first|replace ht := of_decide_eq_true ht|replace ht := of_decide_eq_false ht|skip))|(refine ych ?_;first|(refine ybw rfl ?_ ?_<;>intro ht)|(refine ybx rfl ?_ ?_<;>intro ht)))
    refine yba (ybd rfl rfl rfl (ybe rfl (sbc_sz z))) rfl rfl rfl ybf (fun _ => ybf) ?_
    intro b32
    refine rx_append (sz := 20) 2 rfl rfl rfl (yaz 0 rfl) (by show (sbc z).length = 1 * 20; exact sbc_len z) (fun u hu => List.all_eq_true.1 (sbc_one hzo.1 hzo.2) u hu) rfl (by omega) (by unfold maxLen; omega) (by omega) rfl rfl rfl ybf (fun _ => ybf) ?_
    intro v9 _
    repeat' (first | (refine ycf ?_; apply ybk; (· first | (exact tk_)); (· rfl); (· rfl)) | refine t1_ ?_ | (refine ta_ ?_; intro _) | ((fail_if_success (refine ybi rfl ?_)); refine ybj rfl ?_ ?_ <;> (intro ht; rw [ht]; first | replace ht := of_decide_eq_true ht | replace ht := of_decide_eq_false ht | skip)) | (refine ych ?_; first | (refine ybw rfl ?_ ?_ <;> intro ht) | (refine ybx rfl ?_ ?_ <;> intro ht)))
    refine nx_round (k + 1, v9, O ++ [z]) ⟨by show k + 1 ≤ _; omega, fun o ho => ?_, ?_⟩ (by show l.length - (k + 1) < l.length - k; omega) ts_ (fun _ s => ?_)
    · rcases List.mem_append.1 ho with ho | ho
      · exact p3 o ho
      · rw [List.mem_singleton.1 ho]; exact hzv
    · dsimp only
      rw [htk, List.map_append]
      simp [hza]
    · have s2 := s.tl.tl
      dsimp only
      show St _ _ [Res.row _ _ v9 (O ++ [z]).length ((O ++ [z]).flatMap sbc)] _
      rw [List.length_append, List.flatMap_append, show [z].flatMap sbc = sbc z by simp]
      exact s2
  · have hkk : k = l.length := by omega
    rw [hkk, List.take_length] at p4
    repeat' (first | (refine ycf ?_; apply ybk; (· first | (exact tk_)); (· rfl); (· rfl)) | refine t1_ ?_ | (refine ta_ ?_; intro _) | ((fail_if_success (refine ybi rfl ?_)); refine ybj rfl ?_ ?_ <;> (intro ht; rw [ht]; first | replace ht := of_decide_eq_true ht | replace ht := of_decide_eq_false ht | skip)) | (refine ych ?_; first | (refine ybw rfl ?_ ?_ <;> intro ht) | (refine ybx rfl ?_ ?_ <;> intro ht)))
    refine nx_ret1 rfl (rv_tmp rfl) (fun w' s' => ?_)
    obtain ⟨h2, hle2, hs2, s2⟩ := s'.rowPersistA (by intro x hx; cases hx)
    exact ⟨(h2, vo, O), rfl, s2.nil, ⟨hs2, fun z hz => (p3 z hz).mono hle2⟩, p4⟩
end Go.Proofs.Ytkkjppeaaicgaaa
end

section
namespace Go.Proofs.Ytkkjppeaaicgaaa
open Go Go.Ck
set_option maxRecDepth 100000
set_option maxHeartbeats 4000000
set_option linter.unusedVariables false

abbrev rowW (v : Value) (l : List An) : Res := Res.row 48 2 v l.length (l.flatMap anc)
def RnOk (h : View) (l : List An) : Prop := ∀ x ∈ l, Rs h x.sv x.set ∧ Fits x.set
theorem RnOk.mono {h h' : View} {l : List An} (a : RnOk h l) (hl : Le h h') : RnOk h' l := fun x hx => ⟨(a x hx).1.mono hl, (a x hx).2⟩
/-- the same answers -/
def Like (I W : List An) : Prop := I.map An.a = W.map An.a
theorem Like.len {I W : List An} (h : Like I W) : I.length = W.length := by simpa using congrArg List.length h
theorem Like.sets {I W : List An} (h : Like I W) : setsA I = setsA W := by
  have := congrArg (fun l : List (Int × List Ab) => l.map (·.2)) h
  simpa [setsA, List.map_map, Function.comp_def, An.a] using this
theorem Like.lack {I W : List An} (h : Like I W) : lackF I = lackF W := by
  unfold lackF
  rw [h.sets]
  split
  · have e : ∀ l : List An, (l.filter fun x => !decide (x.set.map Sb.a = (wholeF [] (setsA W)).1)).map An.fr = ((l.map An.a).filter fun x => !decide (x.2 = (wholeF [] (setsA W)).1)).map (·.1) := fun l => by
      rw [List.filter_map, List.map_map]
      rfl
    rw [e I, e W, h]
  · rfl
theorem Like.at {I W : List An} (h : Like I W) {i : Nat} {x y : An} (hx : I[i]? = some x) (hy : W[i]? = some y) : x.set.map Sb.a = y.set.map Sb.a := by
  have := congrArg (fun l : List (Int × List Ab) => l[i]?) h
  simp only [List.getElem?_map, hx, hy, Option.map_some, Option.some.injEq] at this
  exact congrArg (·.2) this

theorem RepairTells_sp (lv : Value) (l : List An) (h : View) (hs : Ra h lv l) (hl : l.length ≤ 9223372036854775807) (hll : ∀ x ∈ l, x.set.length ≤ 9223372036854775807 ∧ ∀ y ∈ x.set, y.l.length ≤ 9223372036854775807 ∧ y.b.length ≤ 9223372036854775807) (w : World) (s : St ⟨w, h, []⟩ h [] w) :
    Calls Try.prog 4 [lv].toArray w fun e w' => ∃ h', e = .returned (.bool true) ∧ St ⟨w, h, []⟩ h' [] w' := by
  obtain ⟨hs, hsv⟩ := hs
  obtain ⟨_, ad, cap, rfl, hcap, _⟩ := id hs
  refine calls_enter Try.func4 rfl Try.ntmps4 rfl s ?_
  iterate 15 (first | refine t1_ ?_ | (refine ta_ ?_; intro _) | ((fail_if_success (refine ybi rfl ?_)); refine ybj rfl ?_ ?_ <;> (intro ht; rw [ht]; first | replace ht := of_decide_eq_true ht | replace ht := of_decide_eq_false ht | skip)) | (refine ych ?_; first | (refine ybw rfl ?_ ?_ <;> intro ht) | (refine ybx rfl ?_ ?_ <;> intro ht)))
  refine ybo ?_
  refine cx_cut (X := View × (Value × List An) × (Value × List An)) (fun y => [(3, y.2.2.1), (4, y.2.1.1)]) (fun y => y.1) (fun y => [rowW y.2.1.1 y.2.1.2, rowA y.2.2.1 y.2.2.2]) (fun y => y.2.2.2.length ≤ 6 ∧ Le h y.1 ∧ AnOk y.1 y.2.2.2 ∧ RnOk y.1 y.2.1.2 ∧ Like y.2.2.2 y.2.1.2) ?_ ?_
  · --
    repeat' (first | refine tw_ ?_ | (refine ta_ ?_; intro _) | ((fail_if_success (refine ybi rfl ?_)); refine ybj rfl ?_ ?_ <;> (intro ht; rw [ht]; first | replace ht := of_decide_eq_true ht | replace ht := of_decide_eq_false ht | skip)) | (refine ych ?_; first | (refine ybw rfl ?_ ?_ <;> intro ht) | (refine ybx rfl ?_ ?_ <;> intro ht)))
    refine cx_row 50 2 ?_
    refine cx_row 48 2 ?_
    refine cx_loop (X := Nat × View × (Value × List An) × (Value × List An)) (fun y => [(0, .slice ad l.length cap), (3, y.2.2.2.1), (4, y.2.2.1.1), (5, .int .i64 (y.1 : Nat))]) (fun y => y.2.1) (fun y => [rowW y.2.2.1.1 y.2.2.1.2, rowA y.2.2.2.1 y.2.2.2.2])
      (fun y => y.1 ≤ l.length ∧ y.1 ≤ 6 ∧ y.2.2.2.2.length = y.1 ∧ y.2.2.1.2.length = y.1 ∧ Le h y.2.1 ∧ AnOk y.2.1 y.2.2.2.2 ∧ RnOk y.2.1 y.2.2.1.2 ∧ Like y.2.2.2.2 y.2.2.1.2) (fun y => 6 - y.1) (0, h, (.slice none 0 0, []), (.slice none 0 0, [])) ⟨Nat.zero_le _, Nat.zero_le _, rfl, rfl, Le.refl _, fun o ho => (by cases ho), fun o ho => (by cases ho), rfl⟩ ts_ (fun _ s => s) ?_
    rintro ⟨k, hk, ⟨vw, W⟩, ⟨vo, O⟩⟩ ⟨p1, p2, p3, p3', p4, p5, p6, p7⟩
    dsimp only at p1 p2 p3 p3' p4 p5 p6 p7 ⊢
    by_cases hkl : k < l.length ∧ k < 6
    · obtain ⟨hkl, hk6⟩ := hkl
      obtain ⟨bs, o, rfl⟩ := hs.ad (by omega) (by omega)
      have hs3 := hs.mono p4
      have hel : ∀ L, Cells hk L ⟨bs, o + k * 2, none⟩ (anc l[k]) := fun L => hs3.elem anc_len k hkl
      have hxv : Rs hk l[k].sv l[k].set := (hsv _ (List.getElem_mem hkl)).mono p4
      have hlim := hll _ (List.getElem_mem hkl)
      generalize l[k] = e0 at hel hxv hlim
      obtain ⟨fr, sv, set⟩ := e0
      obtain ⟨_, ads, caps, hsv', _, _⟩ := id hxv.1
      dsimp only at hsv' hxv hlim
      subst hsv'
      have hel1 : ∀ L, CellAt hk L bs (o + k * 2 + 1) (.slice ads set.length caps) := fun L => (hel L).cell (j := 1) rfl
      repeat' (first | (refine ycf ?_; apply ybk; (· first | (exact tk_) | (apply yae; (· rfl); (· (exact hel1 _)))); (· rfl); (· rfl)) | refine t1_ ?_ | (refine ta_ ?_; intro _) | ((fail_if_success (refine ybi rfl ?_)); refine ybj rfl ?_ ?_ <;> (intro ht; rw [ht]; first | replace ht := of_decide_eq_true ht | replace ht := of_decide_eq_false ht | skip)) | (refine ych ?_; first | (refine ybw rfl ?_ ?_ <;> intro ht) | (refine ybx rfl ?_ ?_ <;> intro ht)))
      (refine yco (ycp Try.func16 rfl (by kernel_rfl) rfl) (rtame_sp _ set hk hxv hlim.1 hlim.2) rfl rfl rfl ?_ ?_ ?_; (· (exact to_)); (· intro _ _ hle; (exact to_)); intro x px hle)
      obtain ⟨h1, v1, T⟩ := x
      obtain ⟨hT, eT⟩ := px
      dsimp only at hT eT
      have hle1 : Le hk h1 := hle
      clear hle
      have fT := tame_fits eT
      obtain ⟨_, adT, capT, hvT, _, _⟩ := id hT.1
      subst hvT
      have hs4 := hs3.mono hle1
      have hel0 : ∀ L, Cells h1 L ⟨bs, o + k * 2, none⟩ (anc ⟨fr, .slice ads set.length caps, set⟩) := fun L q s => hel L q (Hd.sub s hle1 (fun r hr => hr))
      have hel2 : ∀ L, CellAt h1 L bs (o + k * 2 + 0) (.int .i64 fr) := fun L => (hel0 L).cell (j := 0) rfl
      repeat' (first | (refine ycf ?_; apply ybk; (· first | (exact tk_) | (apply yae; (· rfl); (· (exact hel2 _)))); (· rfl); (· rfl)) | refine t1_ ?_ | (refine ta_ ?_; intro _) | ((fail_if_success (refine ybi rfl ?_)); refine ybj rfl ?_ ?_ <;> (intro ht; rw [ht]; first | replace ht := of_decide_eq_true ht | replace ht := of_decide_eq_false ht | skip)) | (refine ych ?_; first | (refine ybw rfl ?_ ?_ <;> intro ht) | (refine ybx rfl ?_ ?_ <;> intro ht)))
      refine cx_region_drawL [] [] rfl (by kernel_rfl) ?_
      repeat' (refine ycf ?_;(first|(first|(apply ybm;(·(first|(exact tk_)|(apply yae;(·rfl);(·(exact hel2 _)))|exact tq_));(·rfl);(·rfl);(·(first|exact fun _ s => Hd.sub s (Le.refl _) (fun r hr => by cases hr)|exact fun _ s => Hd.sub s hle (fun r hr => by cases hr))))|refine ybl rfl rfl ?_|((fail_if_success (refine ybi rfl ?_));refine ybj rfl ?_ ?_<;>(intro ht;rw [ht];first|replace ht := of_decide_eq_true ht|replace ht := of_decide_eq_false ht|skip))|(refine tb_ ?_ ?_ ?_;(·(first|exact ybf|(refine .inl ?_;(first|exact fun _ s => Hd.sub s (Le.refl _) (fun r hr => by cases hr)|exact fun _ s => Hd.sub s hle (fun r hr => by cases hr)))|exact to_));(·intro _;(first|exact ybf|(refine .inl ?_;(first|exact fun _ s => Hd.sub s (Le.refl _) (fun r hr => by cases hr)|exact fun _ s => Hd.sub s hle (fun r hr => by cases hr)))|exact to_));intro _)|(first|(refine tqs_ ?_ ?_ ?_;(·(first|exact ybf|(refine .inl ?_;(first|exact fun _ s => Hd.sub s (Le.refl _) (fun r hr => by cases hr)|exact fun _ s => Hd.sub s hle (fun r hr => by cases hr)))|exact to_));(·(first|exact ybf|(refine .inl ?_;(first|exact fun _ s => Hd.sub s (Le.refl _) (fun r hr => by cases hr)|exact fun _ s => Hd.sub s hle (fun r hr => by cases hr)))|exact to_))))|(apply ybn;(·(first|(exact tk_)|(apply yae;(·rfl);(·(exact hel2 _)))|exact tq_));(·rfl);(·rfl);(·rfl);(·(first|exact ybf|(refine .inl ?_;(first|exact fun _ s => Hd.sub s (Le.refl _) (fun r hr => by cases hr)|exact fun _ s => Hd.sub s hle (fun r hr => by cases hr)))|exact to_))))|refine ycg ?_))
      (refine yco (ycp Try.func17 rfl (by kernel_rfl) rfl) (rto_sp _ T h1 hT fT) rfl rfl rfl ?_ ?_ ?_; (· (first | exact ybf | (refine .inl ?_; (first | exact fun _ s => Hd.sub s (Le.refl _) (fun r hr => by cases hr) | exact fun _ s => Hd.sub s hle (fun r hr => by cases hr))) | exact to_)); (· intro _ _ hle; (first | exact ybf | (refine .inl ?_; (first | exact fun _ s => Hd.sub s (Le.refl _) (fun r hr => by cases hr) | exact fun _ s => Hd.sub s hle (fun r hr => by cases hr))) | exact to_)); intro x px hle)
      obtain ⟨h2, v2, I⟩ := x
      obtain ⟨hI, eI⟩ := px
      dsimp only at hI eI
      have hle2 : Le h1 h2 := hle
      clear hle
      have fI := fits_same eI fT
      obtain ⟨_, ad2, cap2, hv2, _, _⟩ := id hI.1
      subst hv2
      repeat' (refine ycf ?_;(first|(first|(apply ybm;(·(first|(exact tk_)|(apply yae;(·rfl);(·(exact hel2 _)))|exact tq_));(·rfl);(·rfl);(·(exact fun _ s => Hd.sub s hle2 (fun r hr => by cases hr))))|refine ybl rfl rfl ?_|((fail_if_success (refine ybi rfl ?_));refine ybj rfl ?_ ?_<;>(intro ht;rw [ht];first|replace ht := of_decide_eq_true ht|replace ht := of_decide_eq_false ht|skip))|(refine tb_ ?_ ?_ ?_;(·(first|exact ybf|(refine .inl ?_;(exact fun _ s => Hd.sub s hle2 (fun r hr => by cases hr)))|exact to_));(·intro _;(first|exact ybf|(refine .inl ?_;(exact fun _ s => Hd.sub s hle2 (fun r hr => by cases hr)))|exact to_));intro _)|(first|(refine tqs_ ?_ ?_ ?_;(·(first|exact ybf|(refine .inl ?_;(exact fun _ s => Hd.sub s hle2 (fun r hr => by cases hr)))|exact to_));(·(first|exact ybf|(refine .inl ?_;(exact fun _ s => Hd.sub s hle2 (fun r hr => by cases hr)))|exact to_))))|(apply ybn;(·(first|(exact tk_)|(apply yae;(·rfl);(·(exact hel2 _)))|exact tq_));(·rfl);(·rfl);(·rfl);(·(first|exact ybf|(refine .inl ?_;(exact fun _ s => Hd.sub s hle2 (fun r hr => by cases hr)))|exact to_))))|refine ycg ?_))
      refine rx_append (sz := 2) 2 rfl rfl rfl (yaz 0 rfl) rfl (one_an fr ad2 I.length cap2) rfl (by omega) (by unfold maxLen; omega) (by omega) rfl rfl rfl ?_ ?_ ?_
      · (first | exact ybf | (refine .inl ?_; (exact fun _ s => Hd.sub s hle2 (fun r hr => by cases hr))) | exact to_)
      · intro v'; (first | exact ybf | (refine .inl ?_; (exact fun _ s => Hd.sub s hle2 (fun r hr => by cases hr))) | exact to_)
      intro v3 _
      repeat' (refine ycf ?_;(first|(first|(apply ybm;(·(first|(exact tk_)|(apply yae;(·rfl);(·(exact hel2 _)))|exact tq_));(·rfl);(·rfl);(·(exact fun _ s => Hd.sub s hle2 (fun r hr => by cases hr))))|refine ybl rfl rfl ?_|((fail_if_success (refine ybi rfl ?_));refine ybj rfl ?_ ?_<;>(intro ht;rw [ht];first|replace ht := of_decide_eq_true ht|replace ht := of_decide_eq_false ht|skip))|(refine tb_ ?_ ?_ ?_;(·(first|exact ybf|(refine .inl ?_;(exact fun _ s => Hd.sub s hle2 (fun r hr => by cases hr)))|exact to_));(·intro _;(first|exact ybf|(refine .inl ?_;(exact fun _ s => Hd.sub s hle2 (fun r hr => by cases hr)))|exact to_));intro _)|(first|(refine tqs_ ?_ ?_ ?_;(·(first|exact ybf|(refine .inl ?_;(exact fun _ s => Hd.sub s hle2 (fun r hr => by cases hr)))|exact to_));(·(first|exact ybf|(refine .inl ?_;(exact fun _ s => Hd.sub s hle2 (fun r hr => by cases hr)))|exact to_))))|(apply ybn;(·(first|(exact tk_)|(apply yae;(·rfl);(·(exact hel2 _)))|exact tq_));(·rfl);(·rfl);(·rfl);(·(first|exact ybf|(refine .inl ?_;(exact fun _ s => Hd.sub s hle2 (fun r hr => by cases hr)))|exact to_))))|refine ycg ?_))
      have hel4 : ∀ L, Cells h2 L ⟨bs, o + k * 2, none⟩ (anc ⟨fr, .slice ads set.length caps, set⟩) := fun L q s => hel0 L q (Hd.sub s hle2 (fun r hr => hr))
      have hel3 : ∀ L, CellAt h2 L bs (o + k * 2 + 0) (.int .i64 fr) := fun L => (hel4 L).cell (j := 0) rfl
      repeat' (first | (refine ycf ?_; apply ybk; (· first | (exact tk_) | (apply yae; (· rfl); (· (exact hel3 _)))); (· rfl); (· rfl)) | refine t1_ ?_ | (refine ta_ ?_; intro _) | ((fail_if_success (refine ybi rfl ?_)); refine ybj rfl ?_ ?_ <;> (intro ht; rw [ht]; first | replace ht := of_decide_eq_true ht | replace ht := of_decide_eq_false ht | skip)) | (refine ych ?_; first | (refine ybw rfl ?_ ?_ <;> intro ht) | (refine ybx rfl ?_ ?_ <;> intro ht)))
      refine rx_append (sz := 2) 2 rfl rfl rfl (yaz 0 rfl) rfl (one_an fr adT T.length capT) rfl (by omega) (by unfold maxLen; omega) (by omega) rfl rfl rfl ybf (fun _ => ybf) ?_
      intro v4 _
      repeat' (first | (refine ycf ?_; apply ybk; (· first | (exact tk_) | (apply yae; (· rfl); (· (exact hel3 _)))); (· rfl); (· rfl)) | refine t1_ ?_ | (refine ta_ ?_; intro _) | ((fail_if_success (refine ybi rfl ?_)); refine ybj rfl ?_ ?_ <;> (intro ht; rw [ht]; first | replace ht := of_decide_eq_true ht | replace ht := of_decide_eq_false ht | skip)) | (refine ych ?_; first | (refine ybw rfl ?_ ?_ <;> intro ht) | (refine ybx rfl ?_ ?_ <;> intro ht)))
      refine nx_round (k + 1, h2, (v4, W ++ [⟨fr, .slice adT T.length capT, T⟩]), (v3, O ++ [⟨fr, .slice ad2 I.length cap2, I⟩])) ⟨by show k + 1 ≤ _; omega, by show k + 1 ≤ 6; omega, by show (O ++ [_]).length = _; simp [p3], by show (W ++ [_]).length = _; simp [p3'], p4.trans (hle1.trans hle2), ?_, ?_, ?_⟩ (by show 6 - (k + 1) < 6 - k; omega) ts_ (fun _ s => ?_)
      · intro x hx
        rcases List.mem_append.1 hx with hx | hx
        · exact p5.mono (hle1.trans hle2) x hx
        · rw [List.mem_singleton.1 hx]
          exact ⟨hI, fI⟩
      · intro x hx
        rcases List.mem_append.1 hx with hx | hx
        · exact p6.mono (hle1.trans hle2) x hx
        · rw [List.mem_singleton.1 hx]
          exact ⟨hT.mono hle2, fT⟩
      · show (O ++ [_]).map An.a = (W ++ [_]).map An.a
        rw [List.map_append, List.map_append, p7]
        congr 1
        show [(fr, I.map Sb.a)] = [(fr, T.map Sb.a)]
        rw [eI]
      · have s2 := s.tl.tl
        dsimp only
        show St _ h2 [Res.row _ _ v4 (W ++ [_]).length ((W ++ [_]).flatMap anc), Res.row _ _ v3 (O ++ [_]).length ((O ++ [_]).flatMap anc)] _
        rw [List.length_append, List.flatMap_append, List.length_append, List.flatMap_append]
        exact s2
    · --
      by_cases hk0 : k < l.length
      · have hk6 : ¬ k < 6 := fun hx => hkl ⟨hk0, hx⟩
        repeat' (first | (refine ycf ?_; apply ybk; (· first | (exact tk_)); (· rfl); (· rfl)) | refine t1_ ?_ | (refine ta_ ?_; intro _) | ((fail_if_success (refine ybi rfl ?_)); refine ybj rfl ?_ ?_ <;> (intro ht; rw [ht]; first | replace ht := of_decide_eq_true ht | replace ht := of_decide_eq_false ht | skip)) | (refine ych ?_; first | (refine ybw rfl ?_ ?_ <;> intro ht) | (refine ybx rfl ?_ ?_ <;> intro ht)))
        exact nx_cut (hk, (vw, W), (vo, O)) ⟨by show O.length ≤ 6; omega, p4, p5, p6, p7⟩ ts_ (fun _ s => s)
      · repeat' (first | (refine ycf ?_; apply ybk; (· first | (exact tk_)); (· rfl); (· rfl)) | refine t1_ ?_ | (refine ta_ ?_; intro _) | ((fail_if_success (refine ybi rfl ?_)); refine ybj rfl ?_ ?_ <;> (intro ht; rw [ht]; first | replace ht := of_decide_eq_true ht | replace ht := of_decide_eq_false ht | skip)) | (refine ych ?_; first | (refine ybw rfl ?_ ?_ <;> intro ht) | (refine ybx rfl ?_ ?_ <;> intro ht)))
        exact nx_cut (hk, (vw, W), (vo, O)) ⟨by show O.length ≤ 6; omega, p4, p5, p6, p7⟩ ts_ (fun _ s => s)
  rintro ⟨h1, ⟨vW, W⟩, ⟨vO, O⟩⟩ ⟨q1, q2, q3, q5, q4⟩
  dsimp only at q1 q2 q3 q4 q5 ⊢
  have lW : W.length = O.length := q4.len.symm
  refine yby ?_
  iterate 3 (first | (refine ycf ?_; apply ybk; (· first | (exact tk_)); (· rfl); (· rfl)) | refine t1_ ?_ | (refine ta_ ?_; intro _) | ((fail_if_success (refine ybi rfl ?_)); refine ybj rfl ?_ ?_ <;> (intro ht; rw [ht]; first | replace ht := of_decide_eq_true ht | replace ht := of_decide_eq_false ht | skip)) | (refine ych ?_; first | (refine ybw rfl ?_ ?_ <;> intro ht) | (refine ybx rfl ?_ ?_ <;> intro ht)))
  refine rx_persist rfl fun h2 hle2 hs2 => ?_
  refine rx_rowslice 0 rfl fun adO capO hvO => ?_
  subst hvO
  have RW : Ra h2 vW W := ⟨hs2, fun x hx => ((q5 x hx).1).mono hle2⟩
  have aO := q3.mono hle2
  have eS : setsA O = setsA W := q4.sets
  have eL : lackF O = lackF W := q4.lack
  obtain ⟨⟨WA, er⟩, hW⟩ : ∃ p, p = wholeF [] (setsA W) := ⟨_, rfl⟩
  have WH := whole_sp adO capO O h2 (by omega) aO
  rw [eS, ← hW] at WH
  repeat' (first | (refine ycf ?_; apply ybk; (· first | (exact tk_)); (· rfl); (· rfl)) | refine t1_ ?_ | (refine ta_ ?_; intro _) | ((fail_if_success (refine ybi rfl ?_)); refine ybj rfl ?_ ?_ <;> (intro ht; rw [ht]; first | replace ht := of_decide_eq_true ht | replace ht := of_decide_eq_false ht | skip)) | (refine ych ?_; first | (refine ybw rfl ?_ ?_ <;> intro ht) | (refine ybx rfl ?_ ?_ <;> intro ht)))
  (refine rx_call_m (ycp Try.func18 rfl (by kernel_rfl) rfl) (perm_at (k := 0) rfl) (WH) rfl rfl rfl ?_ ?_ ?_; (· (exact to_)); (· intro _ _ hle; (exact to_)); intro x px hle)
  obtain ⟨h3, v3, M⟩ := x
  obtain ⟨S3, E3⟩ := px
  dsimp only at S3 E3
  have hle3 : Le h2 h3 := hle
  clear hle
  have RH := rwhole_sp vW W h3 (RW.mono hle3) (by omega) (fun x hx => (q5 x hx).2)
  rw [← hW] at RH
  repeat' (first | (refine ycf ?_; apply ybk; (· first | (exact tk_)); (· rfl); (· rfl)) | refine t1_ ?_ | (refine ta_ ?_; intro _) | ((fail_if_success (refine ybi rfl ?_)); refine ybj rfl ?_ ?_ <;> (intro ht; rw [ht]; first | replace ht := of_decide_eq_true ht | replace ht := of_decide_eq_false ht | skip)) | (refine ych ?_; first | (refine ybw rfl ?_ ?_ <;> intro ht) | (refine ybx rfl ?_ ?_ <;> intro ht)))
  (refine yco (ycp Try.func19 rfl (by kernel_rfl) rfl) (RH) rfl rfl rfl ?_ ?_ ?_; (· (exact to_)); (· intro _ _ hle; (exact to_)); intro x px hle)
  obtain ⟨h4, v4, M'⟩ := x
  obtain ⟨S4, E4⟩ := px
  dsimp only at S4 E4
  have hle4 : Le h3 h4 := hle
  clear hle
  have LK := lacking_sp adO capO O h4 (by omega) (aO.mono (hle3.trans hle4))
  rw [eS, eL, ← hW] at LK
  repeat' (first | (refine ycf ?_; apply ybk; (· first | (exact tk_)); (· rfl); (· rfl)) | refine t1_ ?_ | (refine ta_ ?_; intro _) | ((fail_if_success (refine ybi rfl ?_)); refine ybj rfl ?_ ?_ <;> (intro ht; rw [ht]; first | replace ht := of_decide_eq_true ht | replace ht := of_decide_eq_false ht | skip)) | (refine ych ?_; first | (refine ybw rfl ?_ ?_ <;> intro ht) | (refine ybx rfl ?_ ?_ <;> intro ht)))
  (refine rx_call_m (ycp Try.func20 rfl (by kernel_rfl) rfl) (perm_at (k := 0) rfl) (LK) rfl rfl rfl ?_ ?_ ?_; (· (exact to_)); (· intro _ _ hle; (exact to_)); intro x px hle)
  obtain ⟨h5, v5, c⟩ := x
  obtain ⟨S5, E5⟩ := px
  dsimp only at S5 E5
  have hle5 : Le h4 h5 := hle
  clear hle
  have RL := rlacking_sp vW W h5 (RW.mono (hle3.trans (hle4.trans hle5))) (by omega) (fun x hx => (q5 x hx).2)
  rw [← hW] at RL
  repeat' (first | (refine ycf ?_; apply ybk; (· first | (exact tk_)); (· rfl); (· rfl)) | refine t1_ ?_ | (refine ta_ ?_; intro _) | ((fail_if_success (refine ybi rfl ?_)); refine ybj rfl ?_ ?_ <;> (intro ht; rw [ht]; first | replace ht := of_decide_eq_true ht | replace ht := of_decide_eq_false ht | skip)) | (refine ych ?_; first | (refine ybw rfl ?_ ?_ <;> intro ht) | (refine ybx rfl ?_ ?_ <;> intro ht)))
  (refine yco (ycp Try.func21 rfl (by kernel_rfl) rfl) (RL) rfl rfl rfl ?_ ?_ ?_; (· (exact to_)); (· intro _ _ hle; (exact to_)); intro x px hle)
  obtain ⟨h6, v6, d⟩ := x
  obtain ⟨S6, E6⟩ := px
  dsimp only at S6 E6
  have hle6 : Le h5 h6 := hle
  clear hle
  refine rx_persist rfl fun h7 hle7 hs7 => ?_
  have fM : Fits M := by
    by_cases he : er = 0
    · have hc := wholeF_set (r := setsA W) (o := []) (by kernel_rfl) (by rw [← hW]; exact he)
      rw [← hW] at hc
      exact fits_check (by rw [E3]; exact hc)
    · have he2 := wholeF_err (r := setsA W) (o := []) (by rw [← hW]; exact he)
      rw [← hW] at he2
      have hM : M.map Sb.a = [] := by rw [E3]; exact he2
      have hM0 : M = [] := List.map_eq_nil_iff.1 hM
      rw [hM0]
      exact ⟨by simp, fun x hx => by cases hx⟩
  have fM' : Fits M' := fits_same (T := M) (by rw [E3, E4]) fM
  have l37 : Le h3 h7 := hle4.trans (hle5.trans (hle6.trans hle7))
  have FR := rfrom_sp v3 M h7 (S3.mono l37) fM
  have S4' := S4.mono (hle5.trans (hle6.trans hle7))
  have S5' := S5.mono (hle6.trans hle7)
  have S6' := S6.mono hle7
  have RW7 := RW.mono (hle3.trans l37)
  have aO7 := aO.mono (hle3.trans l37)
  have hC : ∃ C : List Int, C = lackF W := ⟨_, rfl⟩
  obtain ⟨C, hC⟩ := hC
  rw [← hC] at E5 E6
  subst E5
  subst E6
  have lC : d.length ≤ 6 := by
    rw [hC]
    unfold lackF
    split
    · rw [List.length_map]
      exact Nat.le_trans (List.length_filter_le ..) (by omega)
    · exact Nat.zero_le _
  clear hC LK RL
  obtain ⟨_, ad5, cap5, hv5, _, _⟩ := id S5'
  subst hv5
  obtain ⟨_, ad6, cap6, hv6, _, _⟩ := id S6'
  subst hv6
  obtain ⟨_, adW, capW, hvW, _, _⟩ := id RW7.1
  subst hvW
  repeat' (first | (refine ycf ?_; apply ybk; (· first | (exact tk_)); (· rfl); (· rfl)) | refine t1_ ?_ | (refine ta_ ?_; intro _) | ((fail_if_success (refine ybi rfl ?_)); refine ybj rfl ?_ ?_ <;> (intro ht; rw [ht]; first | replace ht := of_decide_eq_true ht | replace ht := of_decide_eq_false ht | skip)) | (refine ych ?_; first | (refine ybw rfl ?_ ?_ <;> intro ht) | (refine ybx rfl ?_ ?_ <;> intro ht)))
  (refine ycn (ycp Try.func22 rfl (by kernel_rfl) rfl) (repairs_sp h7) rfl rfl rfl ?_ ?_; (· (exact to_)))
  repeat' (first | (refine ycf ?_; apply ybk; (· first | (exact tk_)); (· rfl); (· rfl)) | refine t1_ ?_ | (refine ta_ ?_; intro _) | ((fail_if_success (refine ybi rfl ?_)); refine ybj rfl ?_ ?_ <;> (intro ht; rw [ht]; first | replace ht := of_decide_eq_true ht | replace ht := of_decide_eq_false ht | skip)) | (refine ych ?_; first | (refine ybw rfl ?_ ?_ <;> intro ht) | (refine ybx rfl ?_ ?_ <;> intro ht)))
  (refine yco (ycp Try.func24 rfl (by kernel_rfl) rfl) (FR) rfl rfl rfl ?_ ?_ ?_; (· (exact to_)); (· intro _ _ hle; (exact to_)); intro x px hle)
  obtain ⟨h8, v8, N⟩ := x
  obtain ⟨S8, E8⟩ := px
  dsimp only at S8 E8
  have hle8 : Le h7 h8 := hle
  clear hle
  have fN : Fits N := fits_same E8 fM
  have SM := rsame_sp v8 v4 N M' h8 S8 (S4'.mono hle8) (by have := fN.1; omega) (by have := fM'.1; omega) (fun x hx => by have := (fN.2 x hx).1; omega) (fun x hx => by have := (fM'.2 x hx).1; omega)
  rw [decide_eq_true (show N.map Sb.a = M'.map Sb.a by rw [E8, E3, E4])] at SM
  repeat' (first | (refine ycf ?_; apply ybk; (· first | (exact tk_)); (· rfl); (· rfl)) | refine t1_ ?_ | (refine ta_ ?_; intro _) | ((fail_if_success (refine ybi rfl ?_)); refine ybj rfl ?_ ?_ <;> (intro ht; rw [ht]; first | replace ht := of_decide_eq_true ht | replace ht := of_decide_eq_false ht | skip)) | (refine ych ?_; first | (refine ybw rfl ?_ ?_ <;> intro ht) | (refine ybx rfl ?_ ?_ <;> intro ht)))
  (refine ycn (ycp Try.func23 rfl (by kernel_rfl) rfl) (SM) rfl rfl rfl ?_ ?_; (· (exact to_)))
  repeat' (first | (refine ycf ?_; apply ybk; (· first | (exact tk_)); (· rfl); (· rfl)) | refine t1_ ?_ | (refine ta_ ?_; intro _) | ((fail_if_success (refine ybi rfl ?_)); refine ybj rfl ?_ ?_ <;> (intro ht; rw [ht]; first | replace ht := of_decide_eq_true ht | replace ht := of_decide_eq_false ht | skip)) | (refine ych ?_; first | (refine ybw rfl ?_ ?_ <;> intro ht) | (refine ybx rfl ?_ ?_ <;> intro ht)))
  have S5'' := S5'.mono hle8
  have S6'' := S6'.mono hle8
  have RW8 := RW7.mono hle8
  have aO8 := aO7.mono hle8
  have hs8 := hs7.mono hle8
  refine cx_loop (X := Nat) (fun z => [(3, .slice adO O.length capO), (4, .slice adW W.length capW), (11, .slice ad5 d.length cap5), (13, .slice ad6 d.length cap6), (15, .int .i64 (z : Nat))]) (fun _ => h8) (fun z => []) (fun z => z ≤ d.length) (fun z => d.length - z) 0 (Nat.zero_le _) ts_ (fun _ s => s.nil) ?_
  rintro k q0
  by_cases hk2 : k < d.length
  · obtain ⟨bs, o, rfl⟩ := S5''.ad (by omega) (by omega)
    obtain ⟨bs2, o2, rfl⟩ := S6''.ad (by omega) (by omega)
    have hcel : ∀ L, CellAt h8 L bs (o + k) (.int .i64 d[k]) := fun L => (S5''.cells (L := L)).cell (by simp [ics, hk2])
    have hcel2 : ∀ L, CellAt h8 L bs2 (o2 + k) (.int .i64 d[k]) := fun L => (S6''.cells (L := L)).cell (by simp [ics, hk2])
    generalize d[k] = n0 at hcel hcel2
    repeat' (first | (refine ycf ?_; apply ybk; (· first | (exact tk_) | (apply yae; (· rfl); (· (first | exact hcel _ | (rw [Nat.mul_one]; exact hcel _) | exact hcel2 _ | (rw [Nat.mul_one]; exact hcel2 _))))); (· rfl); (· rfl)) | refine t1_ ?_ | (refine ta_ ?_; intro _) | ((fail_if_success (refine ybi rfl ?_)); refine ybj rfl ?_ ?_ <;> (intro ht; rw [ht]; first | replace ht := of_decide_eq_true ht | replace ht := of_decide_eq_false ht | skip)) | (refine ych ?_; first | (refine ybw rfl ?_ ?_ <;> intro ht) | (refine ybx rfl ?_ ?_ <;> intro ht)))
    refine cx_region_draw' rfl (by kernel_rfl) ?_
    repeat' (refine ycf ?_;(first|(first|(apply ybm;(·(first|(exact tk_)|(apply yae;(·rfl);(·(first|exact hcel _|(rw [Nat.mul_one];exact hcel _)|exact hcel2 _|(rw [Nat.mul_one];exact hcel2 _))))|exact tq_));(·rfl);(·rfl);(·(exact th_)))|refine ybl rfl rfl ?_|((fail_if_success (refine ybi rfl ?_));refine ybj rfl ?_ ?_<;>(intro ht;rw [ht];first|replace ht := of_decide_eq_true ht|replace ht := of_decide_eq_false ht|skip))|(refine tb_ ?_ ?_ ?_;(·(exact to_));(·intro _;(exact to_));intro _)|(first|(refine tqs_ ?_ ?_ ?_;(·(exact to_));(·(exact to_))))|(apply ybn;(·(first|(exact tk_)|(apply yae;(·rfl);(·(first|exact hcel _|(rw [Nat.mul_one];exact hcel _)|exact hcel2 _|(rw [Nat.mul_one];exact hcel2 _))))|exact tq_));(·rfl);(·rfl);(·rfl);(·(exact to_))))|refine ycg ?_))
    repeat' (first | (refine ycf ?_; apply ybk; (· first | (exact tk_) | (apply yae; (· rfl); (· (first | exact hcel _ | (rw [Nat.mul_one]; exact hcel _) | exact hcel2 _ | (rw [Nat.mul_one]; exact hcel2 _))))); (· rfl); (· rfl)) | refine t1_ ?_ | (refine ta_ ?_; intro _) | ((fail_if_success (refine ybi rfl ?_)); refine ybj rfl ?_ ?_ <;> (intro ht; rw [ht]; first | replace ht := of_decide_eq_true ht | replace ht := of_decide_eq_false ht | skip)) | (refine ych ?_; first | (refine ybw rfl ?_ ?_ <;> intro ht) | (refine ybx rfl ?_ ?_ <;> intro ht)))
    exact nx_round (k + 1) (by omega) (by omega) ts_ (fun _ s => s)
  · --
    repeat' (first | (refine ycf ?_; apply ybk; (· first | (exact tk_)); (· rfl); (· rfl)) | refine t1_ ?_ | (refine ta_ ?_; intro _) | ((fail_if_success (refine ybi rfl ?_)); refine ybj rfl ?_ ?_ <;> (intro ht; rw [ht]; first | replace ht := of_decide_eq_true ht | replace ht := of_decide_eq_false ht | skip)) | (refine ych ?_; first | (refine ybw rfl ?_ ?_ <;> intro ht) | (refine ybx rfl ?_ ?_ <;> intro ht)))
    refine cx_loop (X := Nat × View) (fun z => [(3, .slice adO O.length capO), (4, .slice adW W.length capW), (16, .int .i64 (z.1 : Nat))]) (fun z => z.2) (fun z => []) (fun z => z.1 ≤ O.length ∧ Le h8 z.2) (fun z => O.length - z.1) (0, h8) ⟨Nat.zero_le _, Le.refl _⟩ ts_ (fun _ s => s.nil) ?_
    rintro ⟨i, hi⟩ ⟨r1, r2⟩
    dsimp only at r1 r2 ⊢
    by_cases hil : i < O.length
    · have hsi := hs8.mono r2
      have RWi := RW8.mono r2
      obtain ⟨bs, o, rfl⟩ := hsi.ad (by omega) (by omega)
      obtain ⟨bs2, o2, rfl⟩ := RWi.1.ad (by omega) (by omega)
      have hel : ∀ L, Cells hi L ⟨bs, o + i * 2, none⟩ (anc O[i]) := fun L => hsi.elem anc_len i hil
      have hel2 : ∀ L, Cells hi L ⟨bs2, o2 + i * 2, none⟩ (anc (W[i]'(by omega))) := fun L => RWi.1.elem anc_len i (by omega)
      have hx := (aO8.mono r2) O[i] (List.getElem_mem hil)
      have hy := RWi.2 (W[i]'(by omega)) (List.getElem_mem (by omega))
      have fy := (q5 (W[i]'(by omega)) (List.getElem_mem (by omega))).2
      have exy := q4.at (List.getElem?_eq_getElem hil) (List.getElem?_eq_getElem (l := W) (i := i) (by omega))
      generalize O[i] = x0 at hel hx exy
      generalize W[i]'(by omega) = y0 at hel2 hy exy fy
      obtain ⟨fx, sx, setx⟩ := x0
      obtain ⟨fy', sy, sety⟩ := y0
      dsimp only at hx hy exy fy
      obtain ⟨_, adx, capx, hvx, _, _⟩ := id hx.1.1
      subst hvx
      obtain ⟨_, ady, capy, hvy, _, _⟩ := id hy.1
      subst hvy
      have hel1 : ∀ L, CellAt hi L bs (o + i * 2 + 1) (.slice adx setx.length capx) := fun L => (hel L).cell (j := 1) rfl
      repeat' (first | (refine ycf ?_; apply ybk; (· first | (exact tk_) | (apply yae; (· rfl); (· (exact hel1 _)))); (· rfl); (· rfl)) | refine t1_ ?_ | (refine ta_ ?_; intro _) | ((fail_if_success (refine ybi rfl ?_)); refine ybj rfl ?_ ?_ <;> (intro ht; rw [ht]; first | replace ht := of_decide_eq_true ht | replace ht := of_decide_eq_false ht | skip)) | (refine ych ?_; first | (refine ybw rfl ?_ ?_ <;> intro ht) | (refine ybx rfl ?_ ?_ <;> intro ht)))
      refine cx_region_drawL [] [] rfl (by kernel_rfl) ?_
      repeat' (refine ycf ?_;(first|(first|(apply ybm;(·(first|(exact tk_)|(apply yae;(·rfl);(·(exact hel1 _)))|exact tq_));(·rfl);(·rfl);(·(first|exact fun _ s => Hd.sub s (Le.refl _) (fun r hr => by cases hr)|exact fun _ s => Hd.sub s hle (fun r hr => by cases hr))))|refine ybl rfl rfl ?_|((fail_if_success (refine ybi rfl ?_));refine ybj rfl ?_ ?_<;>(intro ht;rw [ht];first|replace ht := of_decide_eq_true ht|replace ht := of_decide_eq_false ht|skip))|(refine tb_ ?_ ?_ ?_;(·(first|exact ybf|(refine .inl ?_;(first|exact fun _ s => Hd.sub s (Le.refl _) (fun r hr => by cases hr)|exact fun _ s => Hd.sub s hle (fun r hr => by cases hr)))|exact to_));(·intro _;(first|exact ybf|(refine .inl ?_;(first|exact fun _ s => Hd.sub s (Le.refl _) (fun r hr => by cases hr)|exact fun _ s => Hd.sub s hle (fun r hr => by cases hr)))|exact to_));intro _)|(first|(refine tqs_ ?_ ?_ ?_;(·(first|exact ybf|(refine .inl ?_;(first|exact fun _ s => Hd.sub s (Le.refl _) (fun r hr => by cases hr)|exact fun _ s => Hd.sub s hle (fun r hr => by cases hr)))|exact to_));(·(first|exact ybf|(refine .inl ?_;(first|exact fun _ s => Hd.sub s (Le.refl _) (fun r hr => by cases hr)|exact fun _ s => Hd.sub s hle (fun r hr => by cases hr)))|exact to_))))|(apply ybn;(·(first|(exact tk_)|(apply yae;(·rfl);(·(exact hel1 _)))|exact tq_));(·rfl);(·rfl);(·rfl);(·(first|exact ybf|(refine .inl ?_;(first|exact fun _ s => Hd.sub s (Le.refl _) (fun r hr => by cases hr)|exact fun _ s => Hd.sub s hle (fun r hr => by cases hr)))|exact to_))))|refine ycg ?_))
      (refine yco (ycp Try.func24 rfl (by kernel_rfl) rfl) (rfrom_sp _ setx hi hx.1 hx.2) rfl rfl rfl ?_ ?_ ?_; (· (first | exact ybf | (refine .inl ?_; (first | exact fun _ s => Hd.sub s (Le.refl _) (fun r hr => by cases hr) | exact fun _ s => Hd.sub s hle (fun r hr => by cases hr))) | exact to_)); (· intro _ _ hle; (first | exact ybf | (refine .inl ?_; (first | exact fun _ s => Hd.sub s (Le.refl _) (fun r hr => by cases hr) | exact fun _ s => Hd.sub s hle (fun r hr => by cases hr))) | exact to_)); intro x px hle)
      obtain ⟨h9, v9, Q⟩ := x
      obtain ⟨S9, E9⟩ := px
      dsimp only at S9 E9
      have hle9 : Le hi h9 := hle
      clear hle
      have fQ : Fits Q := fits_same E9 hx.2
      have hel4 : ∀ L, CellAt hi L bs2 (o2 + i * 2 + 1) (.slice ady sety.length capy) := fun L => (hel2 L).cell (j := 1) rfl
      have SM2 := rsame_sp v9 (.slice ady sety.length capy) Q sety h9 S9 (hy.mono hle9) (by have := fQ.1; omega) (by have := fy.1; omega) (fun x hx => by have := (fQ.2 x hx).1; omega) (fun x hx => by have := (fy.2 x hx).1; omega)
      rw [decide_eq_true (show Q.map Sb.a = sety.map Sb.a by rw [E9, exy])] at SM2
      repeat' (refine ycf ?_;(first|(first|(apply ybm;(·(first|(exact tk_)|(apply yae;(·rfl);(·(exact hel4 _)))|exact tq_));(·rfl);(·rfl);(·(exact fun _ s => Hd.sub s hle9 (fun r hr => by cases hr))))|refine ybl rfl rfl ?_|((fail_if_success (refine ybi rfl ?_));refine ybj rfl ?_ ?_<;>(intro ht;rw [ht];first|replace ht := of_decide_eq_true ht|replace ht := of_decide_eq_false ht|skip))|(refine tb_ ?_ ?_ ?_;(·(first|exact ybf|(refine .inl ?_;(exact fun _ s => Hd.sub s hle9 (fun r hr => by cases hr)))|exact to_));(·intro _;(first|exact ybf|(refine .inl ?_;(exact fun _ s => Hd.sub s hle9 (fun r hr => by cases hr)))|exact to_));intro _)|(first|(refine tqs_ ?_ ?_ ?_;(·(first|exact ybf|(refine .inl ?_;(exact fun _ s => Hd.sub s hle9 (fun r hr => by cases hr)))|exact to_));(·(first|exact ybf|(refine .inl ?_;(exact fun _ s => Hd.sub s hle9 (fun r hr => by cases hr)))|exact to_))))|(apply ybn;(·(first|(exact tk_)|(apply yae;(·rfl);(·(exact hel4 _)))|exact tq_));(·rfl);(·rfl);(·rfl);(·(first|exact ybf|(refine .inl ?_;(exact fun _ s => Hd.sub s hle9 (fun r hr => by cases hr)))|exact to_))))|refine ycg ?_))
      (refine ycn (ycp Try.func23 rfl (by kernel_rfl) rfl) (SM2) rfl rfl rfl ?_ ?_; (· (first | exact ybf | (refine .inl ?_; (exact fun _ s => Hd.sub s hle9 (fun r hr => by cases hr))) | exact to_)))
      repeat' (refine ycf ?_;(first|(first|(apply ybm;(·(first|(exact tk_)|(apply yae;(·rfl);(·(exact hel4 _)))|exact tq_));(·rfl);(·rfl);(·(exact fun _ s => Hd.sub s hle9 (fun r hr => by cases hr))))|refine ybl rfl rfl ?_|((fail_if_success (refine ybi rfl ?_));refine ybj rfl ?_ ?_<;>(intro ht;rw [ht];first|replace ht := of_decide_eq_true ht|replace ht := of_decide_eq_false ht|skip))|(refine tb_ ?_ ?_ ?_;(·(first|exact ybf|(refine .inl ?_;(exact fun _ s => Hd.sub s hle9 (fun r hr => by cases hr)))|exact to_));(·intro _;(first|exact ybf|(refine .inl ?_;(exact fun _ s => Hd.sub s hle9 (fun r hr => by cases hr)))|exact to_));intro _)|(first|(refine tqs_ ?_ ?_ ?_;(·(first|exact ybf|(refine .inl ?_;(exact fun _ s => Hd.sub s hle9 (fun r hr => by cases hr)))|exact to_));(·(first|exact ybf|(refine .inl ?_;(exact fun _ s => Hd.sub s hle9 (fun r hr => by cases hr)))|exact to_))))|(apply ybn;(·(first|(exact tk_)|(apply yae;(·rfl);(·(exact hel4 _)))|exact tq_));(·rfl);(·rfl);(·rfl);(·(first|exact ybf|(refine .inl ?_;(exact fun _ s => Hd.sub s hle9 (fun r hr => by cases hr)))|exact to_))))|refine ycg ?_))
      repeat' (first | (refine ycf ?_; apply ybk; (· first | (exact tk_)); (· rfl); (· rfl)) | refine t1_ ?_ | (refine ta_ ?_; intro _) | ((fail_if_success (refine ybi rfl ?_)); refine ybj rfl ?_ ?_ <;> (intro ht; rw [ht]; first | replace ht := of_decide_eq_true ht | replace ht := of_decide_eq_false ht | skip)) | (refine ych ?_; first | (refine ybw rfl ?_ ?_ <;> intro ht) | (refine ybx rfl ?_ ?_ <;> intro ht)))
      exact nx_round (i + 1, h9) ⟨by show i + 1 ≤ _; omega, r2.trans hle9⟩ (by show O.length - (i + 1) < O.length - i; omega) ts_ (fun _ s => s)
    · --
      repeat' (first | (refine ycf ?_; apply ybk; (· first | (exact tk_)); (· rfl); (· rfl)) | refine t1_ ?_ | (refine ta_ ?_; intro _) | ((fail_if_success (refine ybi rfl ?_)); refine ybj rfl ?_ ?_ <;> (intro ht; rw [ht]; first | replace ht := of_decide_eq_true ht | replace ht := of_decide_eq_false ht | skip)) | (refine ych ?_; first | (refine ybw rfl ?_ ?_ <;> intro ht) | (refine ybx rfl ?_ ?_ <;> intro ht)))
      exact nx_ret1 rfl (rv_tmp rfl) (fun w' s' => ⟨h, rfl, s'.nil.base⟩)
end Go.Proofs.Ytkkjppeaaicgaaa
end

section
namespace Go.Ck
open Go Go.ChangeShapes
set_option linter.unusedVariables false
section
variable {H : Type} {enc : TypeId × Value → H} {P : Program} {w : World} {base : Nat} {spare : Nat → Bool} {held : Bool}

theorem trod_fields {t : TypeId} {fs : Array Field} {fuel : Nat} {cs : List Value} {x : DataW H × List MemPlace} (ht : P.underlying t = some (.struct fs)) (h : DataW.trod enc P w base spare held fuel t cs = some x) :
    cs.length = P.cellsOf t ∧ ∀ f ∈ fs.toList, ∃ m y, DataW.trod enc P w base spare held m f.type ((cs.drop f.offset).take (P.cellsOf f.type)) = some y := by
  cases fuel with
  | zero => simp [DataW.trod] at h
  | succ n =>
    unfold DataW.trod at h
    simp only [ht] at h
    split at h
    · rename_i hl
      obtain ⟨xs, hxs, _⟩ := Option.map_eq_some_iff.1 h
      refine ⟨hl, fun f hf => ?_⟩
      obtain ⟨i, hi, rfl⟩ := List.getElem_of_mem hf
      have := mapM_some_get hxs i _ (List.getElem?_eq_getElem hi)
      have hlen := mapM_some_length hxs
      rw [List.getElem?_eq_getElem (by omega)] at this
      exact ⟨n, _, this⟩
    · cases h

theorem trod_elems {t e : TypeId} {k fuel : Nat} {cs : List Value} {x : DataW H × List MemPlace} (ht : P.underlying t = some (.array k e)) (h : DataW.trod enc P w base spare held fuel t cs = some x) :
    cs.length = P.cellsOf t ∧ ∀ i, i < k → ∃ m y, DataW.trod enc P w base spare held m e ((cs.drop (i * P.cellsOf e)).take (P.cellsOf e)) = some y := by
  cases fuel with
  | zero => simp [DataW.trod] at h
  | succ n =>
    unfold DataW.trod at h
    simp only [ht] at h
    split at h
    · rename_i hl
      obtain ⟨xs, hxs, _⟩ := Option.map_eq_some_iff.1 h
      refine ⟨hl, fun i hi => ?_⟩
      have := mapM_some_get hxs i i (by simp [hi])
      have hlen := mapM_some_length hxs
      rw [List.getElem?_eq_getElem (by simp at hlen; omega)] at this
      exact ⟨n, _, this⟩
    · cases h
end
end Go.Ck
end

section
namespace Go.Ck
open Go Go.ChangeShapes
set_option linter.unusedVariables false
set_option maxHeartbeats 1000000
section
variable {H : Type} {enc : TypeId × Value → H} {P : Program} {w : World} {base : Nat} {spare : Nat → Bool} {held : Bool}

theorem cells_get' {a : Addr} {n : Nat} {cs : List Value} (h : w.cells? base a n = some cs) {j : Nat} {u : Value} (hj : cs[j]? = some u) : w.cell? (a.add j) = some u := by
  unfold World.cells? at h
  split at h
  · have hl := mapM_some_length h
    have hjl : j < cs.length := (List.getElem?_eq_some_iff.1 hj).1
    have := mapM_some_get h j j (by rw [List.length_range] at hl; exact List.getElem?_range (by omega))
    rw [this, hj]
  · cases h

theorem trod_slice_of {T e k : Nat} {α : Type} {en : α → List Value} {R : α → Prop} (tu : P.underlying T = some (.slice e)) (hc : P.cellsOf e = k) (hk0 : 0 < k) (hlen : ∀ x, (en x).length = k)
    (hel : ∀ (m : Nat) (cs : List Value) (y : DataW H × List MemPlace), DataW.trod enc P w base spare held m e cs = some y → ∃ x : α, R x ∧ cs = en x)
    {m : Nat} {cs : List Value} {y : DataW H × List MemPlace} (h : DataW.trod enc P w base spare held m T cs = some y) :
    ∃ (v : Value) (l : List α), cs = [v] ∧ Sc (fun b => w.heap[b]?) k v l.length (l.flatMap en) ∧ l.length ≤ maxLen ∧ ∀ x ∈ l, R x := by
  subst hc
  rcases Go.Deep.open_slice tu h with ⟨rfl, _⟩ | ⟨a, len, cap, q, n, D, Pl, rfl, _, h1, h2, hk, _, hall⟩
  · exact ⟨_, [], rfl, Sc.nil _ _ none 0, Nat.zero_le _, fun x hx => by cases hx⟩
  · have hkl : len ≤ q := by rw [hk]; split <;> omega
    have hex : ∀ i, i < len → ∃ d : α, R d ∧ w.cells? base (a.add (i * P.cellsOf e)) (P.cellsOf e) = some (en d) := fun i hi => by
      obtain ⟨cs', e1, e2⟩ := hall i (by omega)
      obtain ⟨d, hr, rfl⟩ := hel _ _ _ e2
      exact ⟨d, hr, e1⟩
    generalize P.cellsOf e = k at hex hk0 hlen ⊢
    by_cases h0 : len = 0
    · subst h0
      exact ⟨_, [], rfl, ⟨by simp, some a, cap, rfl, Nat.zero_le _, .inl rfl⟩, Nat.zero_le _, fun x hx => by cases hx⟩
    obtain ⟨d0, _⟩ := hex 0 (by omega)
    obtain ⟨f, hf'⟩ : ∃ f : Nat → α, ∀ i, i < len → R (f i) ∧ w.cells? base (a.add (i * k)) k = some (en (f i)) := by
      classical
      exact ⟨fun i => if hi : i < len then (hex i hi).choose else d0, fun i hi => by
        dsimp only
        rw [dif_pos hi]
        exact (hex i hi).choose_spec⟩
    have hf := fun i hi => (hf' i hi).2
    refine ⟨_, (List.range len).map f, rfl, ⟨?_, some a, cap, by simp, by simpa using h1, ?_⟩, by simp; omega, fun x hx => ?_⟩
    · rw [flat_len hlen]
    · refine .inr ?_
      have hc00 : 0 < (en (f 0)).length := by rw [hlen]; exact hk0
      have hc0 := cells_get' (hf 0 (by omega)) (j := 0) (List.getElem?_eq_getElem hc00)
      obtain ⟨b, o, sp⟩ := a
      have hadd : ∀ i j, ((⟨b, o, sp⟩ : Addr).add i).add j = (⟨b, o, sp⟩ : Addr).add (i + j) := fun i j => Go.Deep.add_add _ i j
      rw [hadd] at hc0
      have hblk : ((⟨b, o, sp⟩ : Addr).add (0 * k + 0)) = ⟨b, o, sp⟩ := by simp [Addr.add]
      rw [hblk] at hc0
      unfold World.cell? at hc0
      split at hc0
      · rename_i c e fz hb
        split at hc0
        · cases hc0
        · rename_i hsp
          have hsp' : sp = none := by simpa using hsp
          subst hsp'
          refine ⟨b, o, c, e, fz, rfl, hb, fun j u hj => ?_⟩
          have hjl : j < len * k := by
            have := (List.getElem?_eq_some_iff.1 hj).1
            rw [flat_len hlen] at this
            simpa using this
          have hjk : j / k < len := Nat.div_lt_of_lt_mul (by rw [Nat.mul_comm]; exact hjl)
          have hd : j / k < ((List.range len).map f).length := by simpa using hjk
          have e1 : (((List.range len).map f).flatMap en)[j]? = (en (f (j / k)))[j % k]? := by
            have := flat_at hlen ((List.range len).map f) (j / k) hd
            have e3 : ((List.range len).map f)[j / k] = f (j / k) := by simp
            rw [e3] at this
            rw [← this, List.getElem?_take_of_lt (Nat.mod_lt _ hk0), List.getElem?_drop]
            congr 1
            rw [Nat.mul_comm]
            exact (Nat.div_add_mod j k).symm
          rw [e1] at hj
          have := cells_get' (hf (j / k) hjk) hj
          rw [hadd, Addr.add_off] at this
          unfold World.cell? at this
          simp only [hb] at this
          simp only [Option.isSome_none, Bool.false_eq_true, if_false] at this
          have ej : j / k * k + j % k = j := by rw [Nat.mul_comm]; exact Nat.div_add_mod j k
          rw [ej] at this
          exact this
      · cases hc0
    · obtain ⟨i, hi, rfl⟩ := List.mem_map.1 hx
      exact (hf' i (by simpa using hi)).1
end
end Go.Ck
end
