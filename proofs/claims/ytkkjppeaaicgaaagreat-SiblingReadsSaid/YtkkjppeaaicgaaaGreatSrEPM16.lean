/-
  Part 16 of a proof: SbP SbQ SbR SbS SbT SbW.
  Conditions: each theorem states its own.
-/
import Derived.Laws.IdiomStrings
import Derived.Test.YtkkjppeaaicgaaaGreatSrEPM15
section
namespace Go.Proofs.YtkkjppeaaicgaaaGreat
open Go Go.Ck
set_option maxRecDepth 100000
set_option maxHeartbeats 4000000
set_option linter.unusedVariables false

/-- the uptos of the first k, at most -/
def upS (l : List Sb) (k : Nat) : List Int := (l.take k).foldl (fun u s => maxU u s.u) zeroU
theorem upS_succ {l : List Sb} {k : Nat} (hk : k < l.length) : upS l (k + 1) = maxU (upS l k) l[k].u := by
  unfold upS
  rw [List.take_succ_eq_append_getElem hk, List.foldl_append]
  rfl
theorem upS_len (l : List Sb) : ∀ k, k ≤ l.length → (upS l k).length = 16
  | 0, _ => by rfl
  | k + 1, h => by rw [upS_succ (by omega)]; exact maxU_len (upS_len l k (by omega)) l[k].hu
/-- the dots of the first k -/
def dotS (l : List Sb) (k : Nat) : List Dt := (l.take k).flatMap fun s => s.d :: s.l
theorem dotS_succ {l : List Sb} {k : Nat} (hk : k < l.length) : dotS l (k + 1) = (dotS l k ++ [l[k].d]) ++ l[k].l := by
  unfold dotS
  rw [List.take_succ_eq_append_getElem hk, List.flatMap_append]
  simp
/-- what has been seen of siblings -/
def seenA (l : List Ab) (x : Dt) : Bool := l.any fun s => decide (x = s.1) || hasC s.2.1 s.2.2.1 x
def SeenR (l : List Ab) (u : List Int) (m : List Dt) (e : Int) : Prop :=
  if checkA l ≠ 0 then e = checkA l ∧ u = zeroU ∧ m = [] else (e = 11 ∧ u = zeroU ∧ m = [] ∧ 32 < (l.flatMap fun s => s.1 :: s.2.2.1).length) ∨ (e = 0 ∧ Inv u m ∧ m.length ≤ 32 ∧ ∀ x, rightB x = true → hasC u m x = seenA l x)

theorem checkA_ok {L : List Ab} (h : checkA L = 0) : L.length ≤ 64 ∧ (∀ x ∈ L, rightA x = true) ∧ (∀ i x y, L[i]? = some x → L[i + 1]? = some y → ordD x.1 y.1 < 0) ∧ (∀ x ∈ L, ∀ y ∈ L, hasA y x.1 = false) := by
  unfold checkA at h
  split at h
  · cases h
  rename_i h1
  split at h
  · cases h
  rename_i h2
  split at h
  · cases h
  rename_i h3
  have hb : ∀ i, i < L.length → badAt L i = false := fun i hi => by
    cases hx : badAt L i with
    | false => rfl
    | true => exact absurd (bad_yes hi hx) h2
  refine ⟨by omega, fun x hx => ?_, fun i x y hx hy => ?_, fun x hx y hy => ?_⟩
  · obtain ⟨i, hi, rfl⟩ := List.getElem_of_mem hx
    have := hb i hi
    unfold badAt at this
    rw [Bool.or_eq_false_iff, List.getElem?_eq_getElem hi] at this
    simpa using this.1
  · have hi : i + 1 < L.length := (List.getElem?_eq_some_iff.1 hy).1
    have := hb (i + 1) hi
    unfold badAt at this
    rw [Bool.or_eq_false_iff, Nat.add_sub_cancel, hx, hy] at this
    have h4 := this.2
    simp at h4
    exact h4
  · cases hc : hasA y x.1 with
    | false => rfl
    | true => exact absurd (List.any_eq_true.2 ⟨x, hx, List.any_eq_true.2 ⟨y, hy, hc⟩⟩) h3
theorem rightA_ok {a : Ab} (h : rightA a = true) : rightB a.1 = true ∧ checkC a.2.1 a.2.2.1 = 0 ∧ hasA a a.1 = false ∧ a.2.2.2.length ≤ 16384 := by
  unfold rightA at h
  simp only [Bool.and_eq_true, decide_eq_true_eq, Bool.not_eq_true'] at h
  exact ⟨h.1, h.2.1, h.2.2.1, by omega⟩
theorem dotS_len {l : List Sb} (hl : ∀ s ∈ l, s.l.length ≤ 32) : ∀ k, k ≤ l.length → (dotS l k).length ≤ 33 * k
  | 0, _ => by simp [dotS]
  | k + 1, hk => by
    have := dotS_len hl k (by omega)
    rw [dotS_succ (by omega), List.length_append, List.length_append]
    have h2 := hl l[k] (List.getElem_mem _)
    simp only [List.length_singleton]
    omega
theorem upS_bd {l : List Sb} (hr : ∀ s ∈ l, rightB s.d = true ∧ checkC s.u s.l = 0) : ∀ k, k ≤ l.length → ∀ x ∈ upS l k, 0 ≤ x ∧ x ≤ 1099511627776
  | 0, _ => fun x hx => by
    have : x = 0 := List.eq_of_mem_replicate (show x ∈ List.replicate 16 (0 : Int) from hx)
    omega
  | k + 1, h => by
    rw [upS_succ (by omega)]
    exact max_bd (upS_len l k (by omega)) l[k].hu (upS_bd hr k (by omega)) (check_right (hr l[k] (List.getElem_mem _)).2).1
theorem has_max {u v : List Int} {x : Dt} (hu : u.length = 16) (hv : v.length = 16) : hasC (maxU u v) [] x = (hasC u [] x || hasC v [] x) := by
  unfold hasC uD
  rw [maxU_at hu hv]
  simp only [List.not_mem_nil, decide_false, Bool.or_false]
  rw [← Bool.decide_or, decide_eq_decide]
  unfold maxI
  split <;> omega
theorem upS_has {l : List Sb} {x : Dt} (hx : rightB x = true) : ∀ k, k ≤ l.length → hasC (upS l k) [] x = (l.take k).any fun s => hasC s.u [] x
  | 0, _ => by
    obtain ⟨_, _, h3, _⟩ := right_of hx
    have hz : uD zeroU x = 0 := by
      unfold uD zeroU
      rw [List.getD_eq_getElem?_getD, List.getElem?_replicate]
      split <;> rfl
    show hasC zeroU [] x = false
    unfold hasC
    rw [hz]
    simp
    omega
  | k + 1, h => by
    rw [upS_succ (by omega), has_max (upS_len l k (by omega)) l[k].hu, upS_has hx k (by omega), List.take_succ_eq_append_getElem (by omega), List.any_append]
    simp
theorem has_split {u : List Int} {m : List Dt} {x : Dt} : hasC u m x = (hasC u [] x || decide (x ∈ m)) := by
  unfold hasC
  simp
theorem seen_eq {l : List Sb} {R : List Dt} (hp : R.Perm (dotS l l.length)) (x : Dt) (hx : rightB x = true) : (hasC (upS l l.length) [] x || decide (x ∈ R)) = seenA (l.map Sb.a) x := by
  rw [upS_has hx _ (Nat.le_refl _), List.take_length]
  have h1 : decide (x ∈ R) = l.any fun s => decide (x = s.d) || decide (x ∈ s.l) := by
    rw [Bool.eq_iff_iff, decide_eq_true_iff, hp.mem_iff, List.any_eq_true]
    unfold dotS
    rw [List.take_length, List.mem_flatMap]
    constructor
    · rintro ⟨s, hs, hm⟩
      refine ⟨s, hs, ?_⟩
      rcases List.mem_cons.1 hm with e | hm
      · simp [e]
      · simp [hm]
    · rintro ⟨s, hs, hm⟩
      refine ⟨s, hs, ?_⟩
      simp only [Bool.or_eq_true, decide_eq_true_eq] at hm
      rcases hm with e | hm
      · rw [e]; exact List.mem_cons_self ..
      · exact List.mem_cons_of_mem _ hm
  rw [h1]
  unfold seenA
  rw [List.any_map]
  induction l with
  | nil => rfl
  | cons s l ih =>
    have ih' : ((l.any fun s => hasC s.u [] x) || l.any fun s => decide (x = s.d) || decide (x ∈ s.l)) = l.any ((fun s => decide (x = s.1) || hasC s.2.1 s.2.2.1 x) ∘ Sb.a) := by
      clear ih h1 hp
      induction l with
      | nil => rfl
      | cons s l ih =>
        simp only [List.any_cons]
        rw [← ih]
        have e : ((fun s : Ab => decide (x = s.1) || hasC s.2.1 s.2.2.1 x) ∘ Sb.a) s = (decide (x = s.d) || (hasC s.u [] x || decide (x ∈ s.l))) := by
          show (decide (x = s.d) || hasC s.u s.l x) = _
          rw [has_split]
        rw [e]
        generalize hasC s.u [] x = a1
        generalize decide (x = s.d) = a2
        generalize decide (x ∈ s.l) = a3
        generalize (l.any fun s => hasC s.u [] x) = a4
        generalize (l.any fun s => decide (x = s.d) || decide (x ∈ s.l)) = a5
        cases a1 <;> cases a2 <;> cases a3 <;> cases a4 <;> cases a5 <;> rfl
    simp only [List.any_cons]
    rw [← ih']
    have e : ((fun s : Ab => decide (x = s.1) || hasC s.2.1 s.2.2.1 x) ∘ Sb.a) s = (decide (x = s.d) || (hasC s.u [] x || decide (x ∈ s.l))) := by
      show (decide (x = s.d) || hasC s.u s.l x) = _
      rw [has_split]
    rw [e]
    generalize hasC s.u [] x = a1
    generalize decide (x = s.d) = a2
    generalize decide (x ∈ s.l) = a3
    generalize (l.any fun s => hasC s.u [] x) = a4
    generalize (l.any fun s => decide (x = s.d) || decide (x ∈ s.l)) = a5
    cases a1 <;> cases a2 <;> cases a3 <;> cases a4 <;> cases a5 <;> rfl
theorem cells_up2 {h : View} {L : List Res} {b o : Nat} {u : List Int} {mv : Value} (c : Cells h L ⟨b, o, none⟩ (cxc u mv)) : Cells h L ⟨b, o, none⟩ (up u) := by
  have := c.take (up u).length
  simpa [cxc] using this
theorem sseen_sp (v : Value) (l : List Sb) (h : View) (hs : Ss h v l) (fl : Fits l) (w : World) (s : St ⟨w, h, []⟩ h [] w) :
    Calls Tryz.prog 24 [v].toArray w fun e w' => ∃ z : View × Value × List Int × List Dt × Int, e = .returned (.tuple #[z.2.1, .int .i64 z.2.2.2.2]) ∧ St ⟨w, h, []⟩ z.1 [] w' ∧ Cx z.1 z.2.1 z.2.2.1 z.2.2.2.1 ∧ SeenR (l.map Sb.a) z.2.2.1 z.2.2.2.1 z.2.2.2.2 := by
  have CA := scheck_sp v l h hs (by have := fl.1; omega) (fun x hx => by have := (fl.2 x hx).1; omega)
  have hs0 := hs
  obtain ⟨hs, hsv⟩ := hs
  obtain ⟨_, ad, cap, rfl, hcap, _⟩ := id hs
  refine calls_enter Tryz.func24 rfl Tryz.ntmps24 rfl s ?_
  by_cases hz : checkA (l.map Sb.a) = 0
  · --
    repeat' (first | (refine ycf ?_; apply ybk; (· first | (exact tk_)); (· rfl); (· rfl)) | refine t1_ ?_ | (refine ta_ ?_; intro _) | ((fail_if_success (refine ybi rfl ?_)); refine ybj rfl ?_ ?_ <;> (intro ht; rw [ht]; first | replace ht := of_decide_eq_true ht | replace ht := of_decide_eq_false ht | skip)) | (refine ych ?_; first | (refine ybw rfl ?_ ?_ <;> intro ht) | (refine ybx rfl ?_ ?_ <;> intro ht)))
    (refine ycn (ycp Tryz.func16 rfl (by kernel_rfl) rfl) (CA) rfl rfl rfl ?_ ?_; (· (exact to_)))
    repeat' (first | (refine ycf ?_; apply ybk; (· first | (exact tk_)); (· rfl); (· rfl)) | refine t1_ ?_ | (refine ta_ ?_; intro _) | ((fail_if_success (refine ybi rfl ?_)); refine ybj rfl ?_ ?_ <;> (intro ht; rw [ht]; first | replace ht := of_decide_eq_true ht | replace ht := of_decide_eq_false ht | skip)) | (refine ych ?_; first | (refine ybw rfl ?_ ?_ <;> intro ht) | (refine ybx rfl ?_ ?_ <;> intro ht)))
    rename_i b2 b5
    obtain ⟨cl64, cr, _, _⟩ := checkA_ok hz
    rw [List.length_map] at cl64
    have hr : ∀ s ∈ l, rightB s.d = true ∧ checkC s.u s.l = 0 := fun s hs => by
      have := rightA_ok (cr s.a (List.mem_map_of_mem hs))
      exact ⟨this.1, this.2.1⟩
    have h32 : ∀ s ∈ l, s.l.length ≤ 32 := fun s hs => (check_right (hr s hs).2).2.1
    refine cx_row 40 2 ?_
    refine cx_loop (X := Nat × Value) (fun x => [(2, .pointer (some ⟨b2, 0, none⟩)), (3, .int .i64 0), (5, .pointer (some ⟨b5, 0, none⟩)), (6, x.2), (20, .slice ad l.length cap), (21, .int .i64 l.length), (22, .int .i64 (x.1 : Nat))]) (fun _ => h)
      (fun x => [rowD x.2 (dotS l x.1), Res.blk b5 (.cells (cxc (upS l x.1) (.slice none 0 0)).toArray 44 (0, 0)), Res.blk b2 (.cells (cxc zeroU (.slice none 0 0)).toArray 44 (0, 0))])
      (fun x => x.1 ≤ l.length) (fun x => l.length - x.1) (0, .slice none 0 0) (Nat.zero_le _) ts_ (fun _ s => s) ?_
    rintro ⟨k, rv⟩ hk
    dsimp only at hk ⊢
    have hUl := upS_len l k hk
    by_cases hkl : k < l.length
    · obtain ⟨bs, o, rfl⟩ := hs.ad (by omega) (by omega)
      have hel : ∀ L, Cells h L ⟨bs, o + k * 20, none⟩ (sbc l[k]) := fun L => hs.elem sbc_len k hkl
      have hxv : Sv h l[k] := hsv _ (List.getElem_mem hkl)
      have hlim := fl.2 _ (List.getElem_mem hkl)
      have he32 := h32 _ (List.getElem_mem hkl)
      have hU1 := upS_succ hkl
      have hd1 := dotS_succ hkl
      generalize l[k] = e0 at hel hxv hlim hU1 hd1 he32
      generalize upS l k = U at hUl hU1 ⊢
      have hxl := sbc_len e0
      repeat' (first|(refine ycf ?_;apply ybk;(·first|(first|exact tk_|(apply yad;(·rfl);(·exact hel _);(·exact hxl))|(apply yad (vs := up e0.u);(·rfl);(·exact cells_up2 (sb_past (yaz 0 rfl)));(·simp [up, e0.hu]))));(·rfl);(·rfl))|(refine ybg 0 rfl rfl rfl (sbc_sz e0) (sbc_fit rfl) (sbc_one hxv.one.1 hxv.one.2) (ybh (sbc_all rfl)) rfl rfl ?_ ?_ ?_;(·(exact to_));(·(exact to_)))|refine t1_ ?_|(refine ta_ ?_;intro _)|((fail_if_success (refine ybi rfl ?_));refine ybj rfl ?_ ?_<;>(intro ht;rw [ht];first|replace ht := of_decide_eq_true ht|replace ht := of_decide_eq_false ht|skip))|(refine ych ?_;first|(refine ybw rfl ?_ ?_<;>intro ht)|(refine ybx rfl ?_ ?_<;>intro ht)))
      rename_i b8
      have hmK : ∀ i, i ≤ 16 → (maxK U e0.u i).length = 16 := fun i hi => maxK_len hUl e0.hu hi
      refine cx_loop (X := Nat) (fun i => [(2, .pointer (some ⟨b2, 0, none⟩)), (3, .int .i64 0), (5, .pointer (some ⟨b5, 0, none⟩)), (6, rv), (8, .pointer (some ⟨b8, 0, none⟩)), (20, .slice (some ⟨bs, o, none⟩) l.length cap), (21, .int .i64 l.length), (22, .int .i64 (k : Nat)), (28, .agg (up e0.u).toArray), (29, .int .i64 (i : Nat))]) (fun _ => h)
        (fun i => [Res.blk b8 (.cells (sbc e0).toArray 46 (0, 0)), rowD rv (dotS l k), Res.blk b5 (.cells (cxc (maxK U e0.u i) (.slice none 0 0)).toArray 44 (0, 0)), Res.blk b2 (.cells (cxc zeroU (.slice none 0 0)).toArray 44 (0, 0))])
        (fun i => i ≤ 16) (fun i => 16 - i) 0 (Nat.zero_le _) ts_ (fun _ s => s) ?_
      intro i hi
      by_cases hi16 : i < 16
      · have hidx : (up e0.u).toArray[((i : Int)).toNat * 1]? = some (.int .i64 (e0.u.getD i 0)) := by
          have := e0.hu
          simp [up, show i < e0.u.length by omega]
        have hset := maxK_set hUl e0.hu hi16
        have hat := maxK_at hUl e0.hu hi16
        have hKl := hmK i hi
        repeat' (first|(refine ycf ?_;apply ybk;(·first|(first|exact tk_|(apply qv_index;(·rfl);(·rfl);(·omega);(·omega);(·exact hidx))|(refine qv_max' rfl rfl rfl))|(apply yae;(·rfl);(·(exact cell_upy hat (ycm (yaz 2 rfl)) (by omega) (by omega)))));(·rfl);(·rfl))|(refine ybg 2 rfl rfl rfl rfl (fit_cxc (i := i) hKl (by omega) (by omega)) rfl (spl_cxc (i := i) (by omega) (by omega)) rfl rfl ?_ ?_ ?_;(·(exact to_));(·(exact to_)))|refine t1_ ?_|(refine ta_ ?_;intro _)|((fail_if_success (refine ybi rfl ?_));refine ybj rfl ?_ ?_<;>(intro ht;rw [ht];first|replace ht := of_decide_eq_true ht|replace ht := of_decide_eq_false ht|skip))|(refine ych ?_;first|(refine ybw rfl ?_ ?_<;>intro ht)|(refine ybx rfl ?_ ?_<;>intro ht)))
        refine nx_round (i + 1) (by show i + 1 ≤ _; omega) (by show 16 - (i + 1) < 16 - i; omega) ts_ (fun _ s => ?_)
        rw [← hset]
        exact s
      · have ei : i = 16 := by omega
        subst ei
        rw [maxK_all hUl e0.hu, ← hU1]
        repeat' (first | (refine ycf ?_; apply ybk; (· first | (exact tk_)); (· rfl); (· rfl)) | refine t1_ ?_ | (refine ta_ ?_; intro _) | ((fail_if_success (refine ybi rfl ?_)); refine ybj rfl ?_ ?_ <;> (intro ht; rw [ht]; first | replace ht := of_decide_eq_true ht | replace ht := of_decide_eq_false ht | skip)) | (refine ych ?_; first | (refine ybw rfl ?_ ?_ <;> intro ht) | (refine ybx rfl ?_ ?_ <;> intro ht)))
        have hdl := dotS_len h32 k hk
        have h32e : e0.l.length ≤ 32 := he32
        obtain ⟨_, adm, capm, hmv, _, _⟩ := id hxv.ds
        refine cx_region_draw [Res.blk b8 (.cells (sbc e0).toArray 46 (0, 0))] rfl (by kernel_rfl) ?_
        repeat' (refine ycf ?_;(first|(first|(apply ybm;(·(first|(apply yad;(·rfl);(·exact sb_dot (yaz 0 rfl));(·rfl))|(apply yae;(·rfl);(·(exact sb_more (yaz 0 rfl) hmv)))|exact tq_));(·rfl);(·rfl);(·(exact fun _ s => ⟨s.view, fun r hr => s.own r (by rw [List.mem_singleton.1 hr];simp)⟩)))|refine ybl rfl rfl ?_|((fail_if_success (refine ybi rfl ?_));refine ybj rfl ?_ ?_<;>(intro ht;rw [ht];first|replace ht := of_decide_eq_true ht|replace ht := of_decide_eq_false ht|skip))|(refine tb_ ?_ ?_ ?_;(·(first|exact ybf|(refine .inl ?_;(exact fun _ s => ⟨s.view, fun r hr => s.own r (by rw [List.mem_singleton.1 hr];simp)⟩))|exact to_));(·intro _;(first|exact ybf|(refine .inl ?_;(exact fun _ s => ⟨s.view, fun r hr => s.own r (by rw [List.mem_singleton.1 hr];simp)⟩))|exact to_));intro _)|(first|(refine tqs_ ?_ ?_ ?_;(·(first|exact ybf|(refine .inl ?_;(exact fun _ s => ⟨s.view, fun r hr => s.own r (by rw [List.mem_singleton.1 hr];simp)⟩))|exact to_));(·(first|exact ybf|(refine .inl ?_;(exact fun _ s => ⟨s.view, fun r hr => s.own r (by rw [List.mem_singleton.1 hr];simp)⟩))|exact to_))))|(apply ybn;(·(first|(apply yad;(·rfl);(·exact sb_dot (yaz 0 rfl));(·rfl))|(apply yae;(·rfl);(·(exact sb_more (yaz 0 rfl) hmv)))|exact tq_));(·rfl);(·rfl);(·rfl);(·(first|exact ybf|(refine .inl ?_;(exact fun _ s => ⟨s.view, fun r hr => s.own r (by rw [List.mem_singleton.1 hr];simp)⟩))|exact to_))))|refine ycg ?_))
        refine rx_append (sz := 2) 2 rfl rfl rfl (yaz 0 rfl) rfl (one_dcs [e0.d]) rfl (by omega) (by unfold maxLen; omega) (by omega) rfl rfl rfl ?_ ?_ ?_
        · (first | exact ybf | (refine .inl ?_; (exact fun _ s => ⟨s.view, fun r hr => s.own r (by rw [List.mem_singleton.1 hr]; simp)⟩)) | exact to_)
        · intro v'; (first | exact ybf | (refine .inl ?_; (exact fun _ s => ⟨s.view, fun r hr => s.own r (by rw [List.mem_singleton.1 hr]; simp)⟩)) | exact to_)
        intro v3 _
        repeat' (refine ycf ?_;(first|(first|(apply ybm;(·(first|(apply yad;(·rfl);(·exact sb_dot (yaz 0 rfl));(·rfl))|(apply yae;(·rfl);(·(exact sb_more (yaz 0 rfl) hmv)))|exact tq_));(·rfl);(·rfl);(·(exact fun _ s => ⟨s.view, fun r hr => s.own r (by rw [List.mem_singleton.1 hr];simp)⟩)))|refine ybl rfl rfl ?_|((fail_if_success (refine ybi rfl ?_));refine ybj rfl ?_ ?_<;>(intro ht;rw [ht];first|replace ht := of_decide_eq_true ht|replace ht := of_decide_eq_false ht|skip))|(refine tb_ ?_ ?_ ?_;(·(first|exact ybf|(refine .inl ?_;(exact fun _ s => ⟨s.view, fun r hr => s.own r (by rw [List.mem_singleton.1 hr];simp)⟩))|exact to_));(·intro _;(first|exact ybf|(refine .inl ?_;(exact fun _ s => ⟨s.view, fun r hr => s.own r (by rw [List.mem_singleton.1 hr];simp)⟩))|exact to_));intro _)|(first|(refine tqs_ ?_ ?_ ?_;(·(first|exact ybf|(refine .inl ?_;(exact fun _ s => ⟨s.view, fun r hr => s.own r (by rw [List.mem_singleton.1 hr];simp)⟩))|exact to_));(·(first|exact ybf|(refine .inl ?_;(exact fun _ s => ⟨s.view, fun r hr => s.own r (by rw [List.mem_singleton.1 hr];simp)⟩))|exact to_))))|(apply ybn;(·(first|(apply yad;(·rfl);(·exact sb_dot (yaz 0 rfl));(·rfl))|(apply yae;(·rfl);(·(exact sb_more (yaz 0 rfl) hmv)))|exact tq_));(·rfl);(·rfl);(·rfl);(·(first|exact ybf|(refine .inl ?_;(exact fun _ s => ⟨s.view, fun r hr => s.own r (by rw [List.mem_singleton.1 hr];simp)⟩))|exact to_))))|refine ycg ?_))
        refine rx_append_sc (sz := 2) (m := e0.l.length) (news := e0.l.flatMap dcs) 2 rfl rfl rfl (by rw [← hmv]; exact hxv.ds) (one_dcs _) rfl (by omega) (by unfold maxLen; omega) (by omega) rfl rfl rfl ?_ ?_ ?_
        · (first | exact ybf | (refine .inl ?_; (exact fun _ s => ⟨s.view, fun r hr => s.own r (by rw [List.mem_singleton.1 hr]; simp)⟩)) | exact to_)
        · intro v'; (first | exact ybf | (refine .inl ?_; (exact fun _ s => ⟨s.view, fun r hr => s.own r (by rw [List.mem_singleton.1 hr]; simp)⟩)) | exact to_)
        intro v4 _
        repeat' (refine ycf ?_;(first|(first|(apply ybm;(·(first|(apply yad;(·rfl);(·exact sb_dot (yaz 0 rfl));(·rfl))|(apply yae;(·rfl);(·(exact sb_more (yaz 0 rfl) hmv)))|exact tq_));(·rfl);(·rfl);(·(exact fun _ s => ⟨s.view, fun r hr => s.own r (by rw [List.mem_singleton.1 hr];simp)⟩)))|refine ybl rfl rfl ?_|((fail_if_success (refine ybi rfl ?_));refine ybj rfl ?_ ?_<;>(intro ht;rw [ht];first|replace ht := of_decide_eq_true ht|replace ht := of_decide_eq_false ht|skip))|(refine tb_ ?_ ?_ ?_;(·(first|exact ybf|(refine .inl ?_;(exact fun _ s => ⟨s.view, fun r hr => s.own r (by rw [List.mem_singleton.1 hr];simp)⟩))|exact to_));(·intro _;(first|exact ybf|(refine .inl ?_;(exact fun _ s => ⟨s.view, fun r hr => s.own r (by rw [List.mem_singleton.1 hr];simp)⟩))|exact to_));intro _)|(first|(refine tqs_ ?_ ?_ ?_;(·(first|exact ybf|(refine .inl ?_;(exact fun _ s => ⟨s.view, fun r hr => s.own r (by rw [List.mem_singleton.1 hr];simp)⟩))|exact to_));(·(first|exact ybf|(refine .inl ?_;(exact fun _ s => ⟨s.view, fun r hr => s.own r (by rw [List.mem_singleton.1 hr];simp)⟩))|exact to_))))|(apply ybn;(·(first|(apply yad;(·rfl);(·exact sb_dot (yaz 0 rfl));(·rfl))|(apply yae;(·rfl);(·(exact sb_more (yaz 0 rfl) hmv)))|exact tq_));(·rfl);(·rfl);(·rfl);(·(first|exact ybf|(refine .inl ?_;(exact fun _ s => ⟨s.view, fun r hr => s.own r (by rw [List.mem_singleton.1 hr];simp)⟩))|exact to_))))|refine ycg ?_))
        repeat' (first | (refine ycf ?_; apply ybk; (· first | (apply yad; (· rfl); (· exact sb_dot (yaz 0 rfl)); (· rfl)) | (apply yae; (· rfl); (· (exact sb_more (yaz 0 rfl) hmv)))); (· rfl); (· rfl)) | refine t1_ ?_ | (refine ta_ ?_; intro _) | ((fail_if_success (refine ybi rfl ?_)); refine ybj rfl ?_ ?_ <;> (intro ht; rw [ht]; first | replace ht := of_decide_eq_true ht | replace ht := of_decide_eq_false ht | skip)) | (refine ych ?_; first | (refine ybw rfl ?_ ?_ <;> intro ht) | (refine ybx rfl ?_ ?_ <;> intro ht)))
        refine nx_round (k + 1, v4) (by show k + 1 ≤ _; omega) (by show l.length - (k + 1) < l.length - k; omega) ts_ (fun _ s => ?_)
        have s2 := s.tl.tl
        dsimp only
        rw [hd1]
        show St _ h [Res.row _ _ v4 ((dotS l k ++ [e0.d]) ++ e0.l).length (((dotS l k ++ [e0.d]) ++ e0.l).flatMap dcs), _, _] _
        rw [List.length_append, List.length_append, List.flatMap_append, List.flatMap_append]
        exact s2
    · have ek : k = l.length := by omega
      subst ek
      repeat' (first | (refine ycf ?_; apply ybk; (· first | (exact tk_)); (· rfl); (· rfl)) | refine t1_ ?_ | (refine ta_ ?_; intro _) | ((fail_if_success (refine ybi rfl ?_)); refine ybj rfl ?_ ?_ <;> (intro ht; rw [ht]; first | replace ht := of_decide_eq_true ht | replace ht := of_decide_eq_false ht | skip)) | (refine ych ?_; first | (refine ybw rfl ?_ ?_ <;> intro ht) | (refine ybx rfl ?_ ?_ <;> intro ht)))
      have hRl := dotS_len h32 l.length (Nat.le_refl _)
      (refine rx_call_m (ycp Tryz.func49 rfl (by kernel_rfl) rfl) (perm_at (k := 0) rfl) (sort2_sp rv (dotS l l.length) h (by omega)) rfl rfl rfl ?_ ?_ ?_; (· (exact to_)); (· intro _ _ hle; (exact to_)); intro x px hle)
      obtain ⟨hperm, hsrt⟩ := px
      have hxl := hperm.length_eq
      rename_i R _ _
      clear hle
      have hperm' : x.Perm (dotS l l.length) := hperm
      generalize x = R at hperm' hsrt hxl ⊢
      refine rx_rowslice 0 rfl fun ad2 cap2 hrv => ?_
      subst hrv
      refine rx_persist rfl fun h1 hle1 hs1 => ?_
      repeat' (first | (refine ycf ?_; apply ybk; (· first | (exact tk_)); (· rfl); (· rfl)) | refine t1_ ?_ | (refine ta_ ?_; intro _) | ((fail_if_success (refine ybi rfl ?_)); refine ybj rfl ?_ ?_ <;> (intro ht; rw [ht]; first | replace ht := of_decide_eq_true ht | replace ht := of_decide_eq_false ht | skip)) | (refine ych ?_; first | (refine ybw rfl ?_ ?_ <;> intro ht) | (refine ybx rfl ?_ ?_ <;> intro ht)))
      have hRr : ∀ d ∈ R, rightB d = true := fun d hd => by
        have := hperm'.mem_iff.1 hd
        unfold dotS at this
        rw [List.take_length] at this
        obtain ⟨s, hs, hd⟩ := List.mem_flatMap.1 this
        rcases List.mem_cons.1 hd with rfl | hd
        · exact (hr s hs).1
        · exact (check_right (hr s hs).2).2.2 d hd
      have hUI : Inv (upS l l.length) [] := ⟨hUl, upS_bd hr _ (Nat.le_refl _), by simp, by simp⟩
      generalize hUeq : upS l l.length = U at hUl hUI ⊢
      refine cx_loop (X := Nat × View × List Int × Value × List Dt) (fun y => [(2, .pointer (some ⟨b2, 0, none⟩)), (3, .int .i64 0), (5, .pointer (some ⟨b5, 0, none⟩)), (55, .slice ad2 R.length cap2), (56, .int .i64 R.length), (57, .int .i64 (y.1 : Nat))]) (fun y => y.2.1)
        (fun y => [Res.blk b5 (.cells (cxc y.2.2.1 y.2.2.2.1).toArray 44 (0, 0)), Res.blk b2 (.cells (cxc zeroU (.slice none 0 0)).toArray 44 (0, 0))])
        (fun y => y.1 ≤ R.length ∧ Le h1 y.2.1 ∧ Inv y.2.2.1 y.2.2.2.2 ∧ Ds y.2.1 y.2.2.2.1 y.2.2.2.2 ∧ (y.2.2.2.2.length ≤ 32 ∧ y.2.2.2.2.length ≤ y.1) ∧ ∀ x, rightB x = true → hasC y.2.2.1 y.2.2.2.2 x = (hasC U [] x || decide (x ∈ R.take y.1))) (fun y => R.length - y.1) (0, h1, U, .slice none 0 0, [])
        ⟨Nat.zero_le _, Le.refl _, hUI, Sc.nil _ 2 none 0, ⟨Nat.zero_le _, Nat.zero_le _⟩, fun x _ => by simp⟩ ts_ (fun _ s => s) ?_
      rintro ⟨k, hk, u, mv, m⟩ ⟨p1, p2, p3, p4, ⟨p5, p7⟩, p6⟩
      dsimp only at p1 p2 p3 p4 p5 p6 p7 ⊢
      have hu := p3.len
      obtain ⟨_, adm, capm, hmv, _, _⟩ := id p4
      by_cases hkl : k < R.length
      · obtain ⟨bs, o, rfl⟩ := hs1.ad (by omega) (by omega)
        have hs2 := hs1.mono p2
        have hel : ∀ L, Cells hk L ⟨bs, o + k * 2, none⟩ (dcs R[k]) := fun L => hs2.elem dcs_len k hkl
        have hrd := hRr _ (List.getElem_mem hkl)
        have htk : R.take (k + 1) = R.take k ++ [R[k]] := List.take_succ_eq_append_getElem hkl
        generalize R[k] = d at hel hrd htk
        obtain ⟨d1, d2, d3, d4⟩ := right_of hrd
        have hcell : ∀ L, Cells hk L ⟨b5, 0, none⟩ (cxc u mv) → CellAt hk L b5 (0 + 0 + (d.1 - 1).toNat * 1) (.int .i64 (uD u d)) := fun L c => ycl c (d.1 - 1).toNat (by omega) (by omega)
        by_cases hdu : d.2 ≤ uD u d
        · repeat' (first | (refine ycf ?_; apply ybk; (· first | (first | exact tk_ | (apply yad; (· rfl); (· exact hel _); (· rfl)) | (apply yad; (· rfl); (· exact yaz 1 rfl); (· exact ycj hu))) | (apply yae; (· rfl); (· (exact hcell _ (yaz 1 rfl))))); (· rfl); (· rfl)) | refine t1_ ?_ | (refine ta_ ?_; intro _) | ((fail_if_success (refine ybi rfl ?_)); refine ybj rfl ?_ ?_ <;> (intro ht; rw [ht]; first | replace ht := of_decide_eq_true ht | replace ht := of_decide_eq_false ht | skip)) | (refine ych ?_; first | (refine ybw rfl ?_ ?_ <;> intro ht) | (refine ybx rfl ?_ ?_ <;> intro ht)))
          refine cx_region_draw' rfl (by kernel_rfl) ?_
          repeat' (refine ycf ?_;(first|(first|(apply ybm;(·(first|(first|exact tk_|(apply yad;(·rfl);(·exact hel _);(·rfl))|(apply yad;(·rfl);(·exact yaz 1 rfl);(·exact ycj hu)))|(apply yae;(·rfl);(·(exact hcell _ (yaz 1 rfl))))|exact tq_));(·rfl);(·rfl);(·(exact th_)))|refine ybl rfl rfl ?_|((fail_if_success (refine ybi rfl ?_));refine ybj rfl ?_ ?_<;>(intro ht;rw [ht];first|replace ht := of_decide_eq_true ht|replace ht := of_decide_eq_false ht|skip))|(refine tb_ ?_ ?_ ?_;(·(exact to_));(·intro _;(exact to_));intro _)|(first|(refine tqs_ ?_ ?_ ?_;(·(exact to_));(·(exact to_))))|(apply ybn;(·(first|(first|exact tk_|(apply yad;(·rfl);(·exact hel _);(·rfl))|(apply yad;(·rfl);(·exact yaz 1 rfl);(·exact ycj hu)))|(apply yae;(·rfl);(·(exact hcell _ (yaz 1 rfl))))|exact tq_));(·rfl);(·rfl);(·rfl);(·(exact to_))))|refine ycg ?_))
          repeat' (first | (refine ycf ?_; apply ybk; (· first | (first | exact tk_ | (apply yad; (· rfl); (· exact hel _); (· rfl)) | (apply yad; (· rfl); (· exact yaz 1 rfl); (· exact ycj hu))) | (apply yae; (· rfl); (· (exact hcell _ (yaz 1 rfl))))); (· rfl); (· rfl)) | refine t1_ ?_ | (refine ta_ ?_; intro _) | ((fail_if_success (refine ybi rfl ?_)); refine ybj rfl ?_ ?_ <;> (intro ht; rw [ht]; first | replace ht := of_decide_eq_true ht | replace ht := of_decide_eq_false ht | skip)) | (refine ych ?_; first | (refine ybw rfl ?_ ?_ <;> intro ht) | (refine ybx rfl ?_ ?_ <;> intro ht)))
          refine nx_round (k + 1, hk, u, mv, m) ⟨by show k + 1 ≤ _; omega, p2, p3, p4, ⟨p5, by show m.length ≤ k + 1; omega⟩, fun x hx => ?_⟩ (by show R.length - (k + 1) < R.length - k; omega) ts_ (fun _ s => s.tl)
          dsimp only
          rw [htk, p6 x hx]
          by_cases hxd : x = d
          · subst hxd
            have h1 := p6 x hx
            have h2 : hasC u m x = true := by unfold hasC; simp [hdu]
            rw [h2] at h1
            rw [← h1]
            simp
          · simp [hxd]
        · have AA := Add_any (cxv u mv) u m d hk ⟨hu, mv, rfl, p4⟩ p3 p5 hrd
          repeat' (first | (refine ycf ?_; apply ybk; (· first | (first | exact tk_ | (apply yad; (· rfl); (· exact hel _); (· rfl)) | (apply yad; (· rfl); (· exact yaz 1 rfl); (· exact ycj hu))) | (apply yae; (· rfl); (· (exact hcell _ (yaz 1 rfl))))); (· rfl); (· rfl)) | refine t1_ ?_ | (refine ta_ ?_; intro _) | ((fail_if_success (refine ybi rfl ?_)); refine ybj rfl ?_ ?_ <;> (intro ht; rw [ht]; first | replace ht := of_decide_eq_true ht | replace ht := of_decide_eq_false ht | skip)) | (refine ych ?_; first | (refine ybw rfl ?_ ?_ <;> intro ht) | (refine ybx rfl ?_ ?_ <;> intro ht)))
          refine cx_region_draw' rfl (by kernel_rfl) ?_
          repeat' (refine ycf ?_;(first|(first|(apply ybm;(·(first|(first|exact tk_|(apply yad;(·rfl);(·exact hel _);(·rfl))|(apply yad;(·rfl);(·exact yaz 1 rfl);(·exact ycj hu)))|(apply yae;(·rfl);(·(exact hcell _ (yaz 1 rfl))))|exact tq_));(·rfl);(·rfl);(·(exact th_)))|refine ybl rfl rfl ?_|((fail_if_success (refine ybi rfl ?_));refine ybj rfl ?_ ?_<;>(intro ht;rw [ht];first|replace ht := of_decide_eq_true ht|replace ht := of_decide_eq_false ht|skip))|(refine tb_ ?_ ?_ ?_;(·(exact to_));(·intro _;(exact to_));intro _)|(first|(refine tqs_ ?_ ?_ ?_;(·(exact to_));(·(exact to_))))|(apply ybn;(·(first|(first|exact tk_|(apply yad;(·rfl);(·exact hel _);(·rfl))|(apply yad;(·rfl);(·exact yaz 1 rfl);(·exact ycj hu)))|(apply yae;(·rfl);(·(exact hcell _ (yaz 1 rfl))))|exact tq_));(·rfl);(·rfl);(·rfl);(·(exact to_))))|refine ycg ?_))
          repeat' (first | (refine ycf ?_; apply ybk; (· first | (first | exact tk_ | (apply yad; (· rfl); (· exact hel _); (· rfl)) | (apply yad; (· rfl); (· exact yaz 1 rfl); (· exact ycj hu))) | (apply yae; (· rfl); (· (exact hcell _ (yaz 1 rfl))))); (· rfl); (· rfl)) | refine t1_ ?_ | (refine ta_ ?_; intro _) | ((fail_if_success (refine ybi rfl ?_)); refine ybj rfl ?_ ?_ <;> (intro ht; rw [ht]; first | replace ht := of_decide_eq_true ht | replace ht := of_decide_eq_false ht | skip)) | (refine ych ?_; first | (refine ybw rfl ?_ ?_ <;> intro ht) | (refine ybx rfl ?_ ?_ <;> intro ht)))
          (refine yco (ycp Tryz.func53 rfl (by kernel_rfl) rfl) (AA) rfl rfl rfl ?_ ?_ ?_; (· (exact to_)); (· intro _ _ hle; (exact to_)); intro x px hle)
          obtain ⟨h3, v3, er, u', m'⟩ := x
          replace hle : Le hk h3 := hle
          obtain ⟨c3, px⟩ := px
          dsimp only at c3 px
          obtain ⟨hu', mv', hv3, s3⟩ := c3
          subst hv3
          obtain ⟨_, adm', capm', hmv', _, _⟩ := id s3
          subst hmv'
          rcases px with ⟨px, q4⟩ | ⟨px, q1, q2, q4, q3⟩
          · subst px
            repeat' (first|(refine ycf ?_;apply ybk;(·first|(first|exact tk_|(apply yad;(·rfl);(·exact hel _);(·rfl))|(apply yad;(·rfl);(·exact yaz 1 rfl);(·exact ycj hu)))|(apply yae;(·rfl);(·(exact hcell _ (yaz 1 rfl)))));(·rfl);(·rfl))|(refine ybg 1 rfl rfl rfl (cxc_sz hu') (cxc_fit' hu' hu) (cxc_one rfl) (ybh (cxc_all' hu' hu)) rfl rfl ?_ ?_ ?_;(·(exact to_));(·(exact to_)))|refine t1_ ?_|(refine ta_ ?_;intro _)|((fail_if_success (refine ybi rfl ?_));refine ybj rfl ?_ ?_<;>(intro ht;rw [ht];first|replace ht := of_decide_eq_true ht|replace ht := of_decide_eq_false ht|skip))|(refine ych ?_;first|(refine ybw rfl ?_ ?_<;>intro ht)|(refine ybx rfl ?_ ?_<;>intro ht)))
            refine nx_ret2 rfl (rv_cells rfl (yaz 2 rfl) rfl) (rv_tmp rfl) (fun w' s' => ⟨(h3, cxv zeroU (.slice none 0 0), zeroU, [], 11), rfl, s'.nil, ⟨rfl, _, rfl, Sc.nil h3 2 none 0⟩, ?_⟩)
            unfold SeenR
            rw [if_neg (by rw [hz]; decide)]
            refine .inl ⟨rfl, rfl, rfl, ?_⟩
            have e1 := hperm'.length_eq
            have e2 : dotS l l.length = (l.map Sb.a).flatMap fun s => s.1 :: s.2.2.1 := by
              unfold dotS
              rw [List.take_length, List.flatMap_map]
              rfl
            rw [← e2, ← e1]
            omega
          · subst px
            repeat' (first|(refine ycf ?_;apply ybk;(·first|(first|exact tk_|(apply yad;(·rfl);(·exact hel _);(·rfl))|(apply yad;(·rfl);(·exact yaz 1 rfl);(·exact ycj hu)))|(apply yae;(·rfl);(·(exact hcell _ (yaz 1 rfl)))));(·rfl);(·rfl))|(refine ybg 1 rfl rfl rfl (cxc_sz hu') (cxc_fit' hu' hu) (cxc_one rfl) (ybh (cxc_all' hu' hu)) rfl rfl ?_ ?_ ?_;(·(exact to_));(·(exact to_)))|refine t1_ ?_|(refine ta_ ?_;intro _)|((fail_if_success (refine ybi rfl ?_));refine ybj rfl ?_ ?_<;>(intro ht;rw [ht];first|replace ht := of_decide_eq_true ht|replace ht := of_decide_eq_false ht|skip))|(refine ych ?_;first|(refine ybw rfl ?_ ?_<;>intro ht)|(refine ybx rfl ?_ ?_<;>intro ht)))
            refine nx_round (k + 1, h3, u', _, m') ⟨by show k + 1 ≤ _; omega, p2.trans hle, q1, s3, ⟨q2, by show m'.length ≤ k + 1; omega⟩, fun x hx => ?_⟩ (by show R.length - (k + 1) < R.length - k; omega) ts_ (fun _ s => s.tl)
            dsimp only
            rw [htk, q3 x hx, p6 x hx]
            simp [Bool.or_assoc]
      · have ek : k = R.length := by omega
        subst ek
        rw [List.take_length] at p6
        subst hmv
        repeat' (first | (refine ycf ?_; apply ybk; (· first | (first | exact tk_ | (apply yad; (· rfl); (· exact yaz 0 rfl); (· exact ycj hu)))); (· rfl); (· rfl)) | (refine ybg 1 rfl rfl rfl (cxc_sz hu) (cxc_fit hu) (cxc_one rfl) (ybh (cxc_all hu)) rfl rfl ?_ ?_ ?_; (· (exact to_)); (· (exact to_))) | refine t1_ ?_ | (refine ta_ ?_; intro _) | ((fail_if_success (refine ybi rfl ?_)); refine ybj rfl ?_ ?_ <;> (intro ht; rw [ht]; first | replace ht := of_decide_eq_true ht | replace ht := of_decide_eq_false ht | skip)) | (refine ych ?_; first | (refine ybw rfl ?_ ?_ <;> intro ht) | (refine ybx rfl ?_ ?_ <;> intro ht)))
        refine nx_ret2 rfl (rv_cells rfl (yaz 1 rfl) (cxc_all hu)) (rv_tmp rfl) (fun w' s' => ⟨(hk, cxv u (.slice adm m.length capm), u, m, 0), rfl, s'.nil, ⟨hu, _, rfl, p4⟩, ?_⟩)
        unfold SeenR
        rw [if_neg (by rw [hz]; decide)]
        refine .inr ⟨rfl, p3, p5, fun x hx => ?_⟩
        rw [p6 x hx, ← hUeq]
        exact seen_eq hperm' x hx
  · repeat' (first | (refine ycf ?_; apply ybk; (· first | (first | exact tk_ | (apply yad; (· rfl); (· exact yaz 0 rfl); (· exact ycj hu)))); (· rfl); (· rfl)) | (refine ybg 1 rfl rfl rfl (cxc_sz hu) (cxc_fit hu) (cxc_one rfl) (ybh (cxc_all hu)) rfl rfl ?_ ?_ ?_; (· (exact to_)); (· (exact to_))) | refine t1_ ?_ | (refine ta_ ?_; intro _) | ((fail_if_success (refine ybi rfl ?_)); refine ybj rfl ?_ ?_ <;> (intro ht; rw [ht]; first | replace ht := of_decide_eq_true ht | replace ht := of_decide_eq_false ht | skip)) | (refine ych ?_; first | (refine ybw rfl ?_ ?_ <;> intro ht) | (refine ybx rfl ?_ ?_ <;> intro ht)))
    (refine ycn (ycp Tryz.func16 rfl (by kernel_rfl) rfl) (CA) rfl rfl rfl ?_ ?_; (· (exact to_)))
    repeat' (first | (refine ycf ?_; apply ybk; (· first | (first | exact tk_ | (apply yad; (· rfl); (· exact yaz 0 rfl); (· exact ycj hu)))); (· rfl); (· rfl)) | (refine ybg 1 rfl rfl rfl (cxc_sz hu) (cxc_fit hu) (cxc_one rfl) (ybh (cxc_all hu)) rfl rfl ?_ ?_ ?_; (· (exact to_)); (· (exact to_))) | refine t1_ ?_ | (refine ta_ ?_; intro _) | ((fail_if_success (refine ybi rfl ?_)); refine ybj rfl ?_ ?_ <;> (intro ht; rw [ht]; first | replace ht := of_decide_eq_true ht | replace ht := of_decide_eq_false ht | skip)) | (refine ych ?_; first | (refine ybw rfl ?_ ?_ <;> intro ht) | (refine ybx rfl ?_ ?_ <;> intro ht)))
    refine nx_ret2 rfl (rv_cells rfl (yaz 0 rfl) rfl) (rv_tmp rfl) (fun w' s' => ⟨(h, cxv zeroU (.slice none 0 0), zeroU, [], checkA (l.map Sb.a)), rfl, s'.nil, ⟨rfl, _, rfl, Sc.nil h 2 none 0⟩, ?_⟩)
    unfold SeenR
    rw [if_pos hz]
    exact ⟨rfl, rfl, rfl⟩
end Go.Proofs.YtkkjppeaaicgaaaGreat
end

section
namespace Go.Proofs.YtkkjppeaaicgaaaGreat
open Go Go.Ck
set_option maxRecDepth 100000
set_option maxHeartbeats 4000000
set_option linter.unusedVariables false

section
variable {P : Program} {n : Nat} {K : Bs} {F : List (Nat × Value)} {h : View} {L : List Res} {Q : Exit → Act → World → Prop}
variable {dst : Option Nat} {ty : Nat} {pos : String} {af : Array Edge} {gd : Option (Nat × Bool)}
theorem bytes_at {l : List Int} (hb : Bytes l) (cap : Nat) (j : Nat) (u : Value) (hj : (bcs l)[j]? = some u) : (bytesRow (bstr l) cap)[j]? = some u := by
  have hjl : j < l.length := by
    have := (List.getElem?_eq_some_iff.1 hj).1
    rwa [bcs_len] at this
  have hs : j < (bstr l).data.size := by simp [bstr, hjl]
  rw [bytesRow_at _ _ _ hs, ← hj]
  have hc := hb l[j] (List.getElem_mem hjl)
  have e1 : (bcs l)[j]? = some (.int .u8 l[j]) := by simp [bcs, hjl]
  rw [e1]
  have e2 : (bstr l).data[j] = UInt8.ofNat l[j].toNat := by simp [bstr]
  rw [e2]
  congr 2
  simp
  omega
theorem rx_bytes_of {g : Rg} {i : Nat} {r : List (Nat × Oper)} {S D e : Nat} {x : Operand} {l : List Int} [tS : TyU P S .string] [tD : TyU P D (.slice e)] [te : TyU P e (.int .u8)] (hA : K.A = []) (hx : ev F x = some (.string (bstr l))) (hb : Bytes l)
    (hw : wantedF g.ops F ⟨dst, .convert S D x, ty, pos, af, gd⟩ = some true) (hd : okd n dst = true) (hl : g.lo i = true) (o1 : Owe g i h L) (o2 : ∀ h', Le h h' → Owe g i h' L)
    (hn : ∀ h' v, Le h h' → Bs8 h' v l → RX P n K g r (putF dst v F) h' L Q) : RX P n K g ((i, ⟨dst, .convert S D x, ty, pos, af, gd⟩) :: r) F h L Q := by
  unfold RX at *
  intro a w f s
  have hrun := run_bytes_of_string (P := P) w S D e (bstr l) tS.u tD.u te.u
  obtain ⟨cap, hcap⟩ : ∃ cap, cap = grownCap w (bstr l).size 0 e := ⟨_, rfl⟩
  have hge : (bstr l).size ≤ cap := by rw [hcap]; exact grownCap_ge ..
  rw [← hcap] at hrun
  have s1 := s.drew.alloc (.cells (bytesRow (bstr l) cap) e ((bytesRow (bstr l) cap).size, (bytesRow (bstr l) cap).size + 1))
  have hnone : h w.heap.size = none := s1.dis _ (by rw [doms_cons]; exact List.mem_append_left _ (List.mem_singleton.2 rfl))
  have s2 := s1.persist hA
  have hle := Le.addV (o := .cells (bytesRow (bstr l) cap) e ((bytesRow (bstr l) cap).size, (bytesRow (bstr l) cap).size + 1)) hnone
  refine .inr (.inr ⟨wantedF_ok f hw, hl, o1.out s, ?_⟩)
  unfold Oper.wp
  have he : (execOp a.eval ⟨dst, .convert S D x, ty, pos, af, gd⟩).run P w = .ok (.value (.slice (some ⟨w.heap.size, 0, none⟩) (bstr l).size cap)) (w.drew.alloc (.cells (bytesRow (bstr l) cap) e ((bytesRow (bstr l) cap).size, (bytesRow (bstr l) cap).size + 1))) := by
    simp only [execOp, f.ev hx, Sem.run_bind, hrun]
    rfl
  rw [he]
  refine ⟨(o2 _ hle).out s2, hn _ _ hle ?_ _ _ (f.put hd _) s2⟩
  refine ⟨by rw [bcs_len]; simp, some ⟨w.heap.size, 0, none⟩, cap, by rw [bstr_size], by rwa [bstr_size] at hge, .inr ⟨w.heap.size, 0, _, _, _, rfl, addV_same, fun j u hj => ?_⟩⟩
  rw [Nat.zero_add]
  exact bytes_at hb cap j u hj
end

/-- the document's siblings -/
structure Rv (h : View) (s : Sb) : Prop where
  ds : Ds h s.mv s.l
  bs : s.bv = .string (bstr s.b)
  by8 : Bytes s.b
theorem Rv.mono {h h' : View} {s : Sb} (v : Rv h s) (hl : Le h h') : Rv h' s := ⟨v.ds.mono hl, v.bs, v.by8⟩
theorem Rv.one {h : View} {s : Sb} (v : Rv h s) : s.mv.oneCell' = true ∧ s.bv.oneCell' = true := by
  obtain ⟨_, _, _, e1, _⟩ := v.ds
  rw [e1, v.bs]
  exact ⟨rfl, rfl⟩
def Rs (h : View) (v : Value) (l : List Sb) : Prop := Sc h 20 v l.length (l.flatMap sbc) ∧ ∀ s ∈ l, Rv h s
theorem Rs.mono {h h' : View} {v : Value} {l : List Sb} (s : Rs h v l) (hl : Le h h') : Rs h' v l := ⟨s.1.mono hl, fun x hx => (s.2 x hx).mono hl⟩
end Go.Proofs.YtkkjppeaaicgaaaGreat
end

section
namespace Go.Proofs.YtkkjppeaaicgaaaGreat
open Go Go.Ck
set_option maxRecDepth 100000
set_option maxHeartbeats 4000000
set_option linter.unusedVariables false

/-- one of the resources at hand -/
theorem tm_ {p : Prop} (h : p := by (first | exact List.mem_of_getElem? (i := 0) rfl | exact List.mem_of_getElem? (i := 1) rfl | exact List.mem_of_getElem? (i := 2) rfl | exact List.mem_of_getElem? (i := 3) rfl)) : p := h
theorem fill3 {d : Dt} {u : List Int} {mv bv : Value} (hu : u.length = 16) (hb : bv.cells = #[bv]) : fillL (fun i : Nat => ([(0, 2), (2, 17), (19, 1)] : List (Nat × Nat))[i]?) ([.int .i64 0, .int .i64 0] ++ (up zeroU ++ [.slice none 0 0, .slice none 0 0])) [(0, .agg (dcs d).toArray), (1, .agg (cxc u mv).toArray), (2, bv)] = some (dcs d ++ (cxc u mv ++ [bv])) := by
  obtain ⟨a0, a1, a2, a3, a4, a5, a6, a7, a8, a9, a10, a11, a12, a13, a14, a15, rfl⟩ := list16 u hu
  unfold fillL fillL fillL fillL
  simp only [hb]
  rfl
end Go.Proofs.YtkkjppeaaicgaaaGreat
end

section
namespace Go.Proofs.YtkkjppeaaicgaaaGreat
open Go Go.Ck
set_option maxRecDepth 100000
set_option maxHeartbeats 4000000
set_option linter.unusedVariables false

/-- no more than some -/
def cutA (m n : Nat) (a : Ab) : Ab := (a.1, a.2.1, a.2.2.1.take m, a.2.2.2.take n)
theorem min_nat {a b : Nat} : (if (b : Int) < (a : Int) then (b : Int) else (a : Int)) = ((min a b : Nat) : Int) := by split <;> omega

theorem min_lim {a : Nat} (m : Nat) {j : Nat} (hj : j = min a m) : (if (m : Int) < (a : Int) then (m : Int) else (a : Int)) = (j : Int) := by split <;> omega
theorem take_min {α : Type} {l : List α} {m : Nat} : l.take (min l.length m) = l.take m := by
  by_cases h : l.length ≤ m
  · rw [Nat.min_eq_left h, List.take_length, List.take_of_length_le h]
  · rw [Nat.min_eq_right (by omega)]
end Go.Proofs.YtkkjppeaaicgaaaGreat
end

section
namespace Go.Proofs.YtkkjppeaaicgaaaGreat
open Go Go.Ck
set_option maxRecDepth 100000
set_option maxHeartbeats 4000000
set_option linter.unusedVariables false

theorem ddk_all {l : List Sb} (hd : (l.map Sb.d).Nodup) : ∀ k, k ≤ l.length → ddk l k = l.take k
  | 0, _ => rfl
  | k + 1, hk => by
    obtain ⟨x, hx⟩ : ∃ x, l[k]? = some x := ⟨_, List.getElem?_eq_getElem (by omega)⟩
    have htk : l.take (k + 1) = l.take k ++ [x] := by
      obtain ⟨h, rfl⟩ := List.getElem?_eq_some_iff.1 hx
      exact List.take_succ_eq_append_getElem h
    by_cases h0 : k = 0
    · subst h0
      rw [ddk_one hx, htk]; rfl
    · obtain ⟨y, hy⟩ : ∃ y, l[k - 1]? = some y := ⟨_, List.getElem?_eq_getElem (by omega)⟩
      have hne : x.d ≠ y.d := fun e => by
        have h1 : (l.map Sb.d)[k]? = some x.d := by rw [List.getElem?_map, hx]; rfl
        have h2 : (l.map Sb.d)[k - 1]? = some x.d := by rw [List.getElem?_map, hy, e]; rfl
        obtain ⟨q1, e1⟩ := List.getElem?_eq_some_iff.1 h1
        obtain ⟨q2, e2⟩ := List.getElem?_eq_some_iff.1 h2
        exact List.pairwise_iff_getElem.1 hd (k - 1) k q2 q1 (by omega) (by rw [e1, e2])
      rw [ddk_succ hx hy h0, if_neg hne, ddk_all hd k (by omega), htk]
theorem merge_distinct {a b : List Sb} {M : List Ab} {e : Int} (h : MergeR a b M e) (ca : checkA (a.map Sb.a) = 0) (cb : checkA (b.map Sb.a) = 0) (hd : ((a ++ b).map Sb.d).Nodup) :
    ∃ R, R.Perm ((a ++ b).filter fun x => freeS (a.map Sb.a) (b.map Sb.a) x.a) ∧ SortS R ∧ (if 64 < R.length then e = 5 ∧ M = [] else e = 0 ∧ M = R.map Sb.a) := by
  unfold MergeR at h
  rw [if_neg (by rw [ca]; decide), if_neg (by rw [cb]; decide)] at h
  obtain ⟨R, kR, sR, hR⟩ := h
  have hp := kR.perm
  have hdR : (R.map Sb.d).Nodup := (hp.map Sb.d).nodup_iff.1 hd
  rw [ddk_all hdR _ (Nat.le_refl _), List.take_length] at hR
  exact ⟨_, (hp.symm.filter _), sR.sublist (List.filter_sublist ..), hR⟩
theorem perm_one {α : Type} {l : List α} {x : α} (h : l.Perm [x]) : l = [x] := List.perm_singleton.1 h
theorem sort_two {x y : Sb} {l : List Sb} (h : l.Perm [x, y]) (hs : SortS l) (hxy : ordD x.d y.d < 0) : l = [x, y] := by
  match l, h.length_eq with
  | [p, q], _ =>
    have hm := h.mem_iff (a := p)
    have hp : p = x ∨ p = y := by
      have := (h.mem_iff (a := p)).1 (by simp)
      simpa using this
    have hs2 : ordD p.d q.d ≤ 0 := by
      have := List.pairwise_cons.1 hs
      exact this.1 q (by simp)
    rcases hp with rfl | rfl
    · have : [q].Perm [y] := by simpa using h
      rw [perm_one this]
    · have h2 : [p, q].Perm [p, x] := h.trans (List.Perm.swap _ _ _)
      have : [q].Perm [x] := by simpa using h2
      have hq := perm_one this
      simp only [List.cons.injEq, and_true] at hq
      subst hq
      rw [ord_le] at hs2
      exact absurd hxy hs2
/-- a sibling of a zero past and no body -/
def s0 (d : Dt) : Sb := ⟨d, zeroU, rfl, [], .slice none 0 0, [], .slice none 0 0⟩
theorem s0_ok (h : View) (d : Dt) : Sv h (s0 d) := ⟨Sc.nil h 2 none 0, Sc.nil h 1 none 0, fun b hb => by cases hb⟩

theorem map_one {M : List Sb} {x : Ab} (h : M.map Sb.a = [x]) : ∃ m, M = [m] ∧ m.a = x := by
  match M, h with
  | [m], h => exact ⟨m, rfl, by simpa using h⟩
theorem map_two {M : List Sb} {x y : Ab} (h : M.map Sb.a = [x, y]) : ∃ m n, M = [m, n] ∧ m.a = x ∧ n.a = y := by
  match M, h with
  | [m, n], h =>
    simp only [List.map_cons, List.map_nil, List.cons.injEq, and_true] at h
    exact ⟨m, n, rfl, h.1, h.2⟩
theorem fits_small {l : List Sb} (h1 : l.length ≤ 40000) (h : ∀ x ∈ l, x.l.length ≤ 1000000 ∧ x.b.length ≤ 1000000) : Fits l := ⟨h1, h⟩
/-- one that is right is a set alone -/
theorem check_single {a : Ab} (h : rightA a = true) : checkA [a] = 0 := by
  obtain ⟨_, _, h3, _⟩ := rightA_ok h
  unfold checkA
  rw [if_neg (show ¬ 64 < [a].length by simp), if_neg, if_neg]
  · simp [h3]
  · have : badAt [a] 0 = false := by
      unfold badAt
      simp [h]
    simp [this]

theorem sets1 (v : Value) (a : List Sb) (y : Sb) (M : List Sb) (e : Int) (hm : MergeR a [y] (M.map Sb.a) e) (ca : checkA (a.map Sb.a) = 0) (cy : checkA [y.a] = 0) (hd : ((a ++ [y]).map Sb.d).Nodup) (G : List Sb) (hG : ((a ++ [y]).filter fun x => freeS (a.map Sb.a) [y.a] x.a) = G) (hl : G.length ≤ 64) :
    ∃ R, R.Perm G ∧ SortS R ∧ e = 0 ∧ M.map Sb.a = R.map Sb.a := by
  obtain ⟨R, h1, h2, h3⟩ := merge_distinct hm ca (by simpa using cy) hd
  have hG' : ((a ++ [y]).filter fun x => freeS (a.map Sb.a) ([y].map Sb.a) x.a) = G := hG
  rw [hG'] at h1
  rw [if_neg (by rw [h1.length_eq]; omega)] at h3
  exact ⟨R, h1, h2, h3⟩

theorem fill3b {d : Dt} {u : List Int} {mv : Value} (hu : u.length = 16) : fillL (fun i : Nat => ([(0, 2), (2, 17), (19, 1)] : List (Nat × Nat))[i]?) ([.int .i64 0, .int .i64 0] ++ (up zeroU ++ [.slice none 0 0, .slice none 0 0])) [(0, .agg (dcs d).toArray), (1, .agg (cxc u mv).toArray)] = some (dcs d ++ (cxc u mv ++ [.slice none 0 0])) := by
  obtain ⟨a0, a1, a2, a3, a4, a5, a6, a7, a8, a9, a10, a11, a12, a13, a14, a15, rfl⟩ := list16 u hu
  rfl
theorem sets_sp (h : View) (w : World) (s : St ⟨w, h, []⟩ h [] w) :
    Calls Tryz.prog 6 [].toArray w fun e w' => e = .returned (.bool true) ∧ St ⟨w, h, []⟩ h [] w' := by
  refine calls_enter Tryz.func6 rfl Tryz.ntmps6 rfl s ?_
  repeat' (first | refine tw_ ?_ | (refine ta_ ?_; intro _) | ((fail_if_success (refine ybi rfl ?_)); refine ybj rfl ?_ ?_ <;> (intro ht; rw [ht]; first | replace ht := of_decide_eq_true ht | replace ht := of_decide_eq_false ht | skip)) | (refine ych ?_; first | (refine ybw rfl ?_ ?_ <;> intro ht) | (refine ybx rfl ?_ ?_ <;> intro ht)))
  have n0 : Ss h (.slice none 0 0) [] := ⟨Sc.nil h 20 none 0, fun x hx => by cases hx⟩
  (refine yco (ycp Tryz.func23 rfl (by kernel_rfl) rfl) (sput_sp (.slice none 0 0) [] (s0 (1, 1)) h n0 (s0_ok h _) ⟨by simp, fun x hx => by cases hx⟩ (by decide)) rfl rfl rfl ?_ ?_ ?_; (· (exact to_)); (· intro _ _ hle; (exact to_)); intro x px hle)
  obtain ⟨h1, v1, M1, e1⟩ := x
  obtain ⟨S1, R1⟩ := px
  dsimp only at S1 R1
  obtain ⟨T1, q1, q2, q3, q4⟩ := sets1 v1 [] (s0 (1, 1)) M1 e1 R1 (by kernel_rfl) (by kernel_rfl) (by decide) [s0 (1, 1)] (by kernel_rfl) (by decide)
  rw [perm_one q1] at q4
  subst q3
  obtain ⟨m1, rfl, hm1⟩ := map_one q4
  clear q1 q2 q4 R1 hle
  repeat' (first | refine tw_ ?_ | (refine ta_ ?_; intro _) | ((fail_if_success (refine ybi rfl ?_)); refine ybj rfl ?_ ?_ <;> (intro ht; rw [ht]; first | replace ht := of_decide_eq_true ht | replace ht := of_decide_eq_false ht | skip)) | (refine ych ?_; first | (refine ybw rfl ?_ ?_ <;> intro ht) | (refine ybx rfl ?_ ?_ <;> intro ht)))
  have d1 : m1.d = (1, 1) := congrArg (·.1) hm1
  (refine yco (ycp Tryz.func23 rfl (by kernel_rfl) rfl) (sput_sp v1 [m1] (s0 (2, 1)) h1 S1 (s0_ok h1 _) ⟨by simp, fun x hx => by rw [List.mem_singleton.1 hx]; exact ⟨by rw [show m1.l = [] from congrArg (·.2.2.1) hm1]; decide, by rw [show m1.b = [] from congrArg (·.2.2.2) hm1]; decide⟩⟩ (by decide)) rfl rfl rfl ?_ ?_ ?_; (· (exact to_)); (· intro _ _ hle; (exact to_)); intro x px hle)
  obtain ⟨h2, v2, M2, e2⟩ := x
  obtain ⟨S2, R2⟩ := px
  dsimp only at S2 R2
  have c1 : checkA ([m1].map Sb.a) = 0 := by show checkA [m1.a] = 0; rw [hm1]; kernel_rfl
  have nd1 : (([m1] ++ [s0 (2, 1)]).map Sb.d).Nodup := by show [m1.d, (2, 1)].Nodup; rw [d1]; decide
  have g1 : (([m1] ++ [s0 (2, 1)]).filter fun x => freeS ([m1].map Sb.a) [(s0 (2, 1)).a] x.a) = [m1, s0 (2, 1)] := by
    show List.filter (fun x => freeS [m1.a] [(s0 (2, 1)).a] x.a) [m1, s0 (2, 1)] = _
    rw [List.filter_cons_of_pos (by show freeS [m1.a] [(s0 (2, 1)).a] m1.a = true; rw [hm1]; kernel_rfl), List.filter_cons_of_pos (by show freeS [m1.a] [(s0 (2, 1)).a] (s0 (2, 1)).a = true; rw [hm1]; kernel_rfl)]
    rfl
  obtain ⟨T2, q1, q2, q3, q4⟩ := sets1 v1 [m1] (s0 (2, 1)) M2 e2 R2 c1 (by kernel_rfl) nd1 _ g1 (by show 2 ≤ 64; decide)
  rw [sort_two q1 q2 (by show ordD m1.d (2, 1) < 0; rw [d1]; decide)] at q4
  subst q3
  obtain ⟨m2, n2, rfl, hm2, hn2⟩ := map_two q4
  rw [hm1] at hm2
  clear q1 q2 q4 R2 hle g1 nd1 c1
  obtain ⟨_, ad2, cap2, hv2, _, _⟩ := id S2.1
  subst hv2
  have c2 : checkA ([m2, n2].map Sb.a) = 0 := by show checkA [m2.a, n2.a] = 0; rw [hm2, hn2]; kernel_rfl
  have f2 : Fits [m2, n2] := ⟨by simp, fun x hx => by
    rcases List.mem_cons.1 hx with rfl | hx
    · exact ⟨by rw [show x.l = [] from congrArg (·.2.2.1) hm2]; decide, by rw [show x.b = [] from congrArg (·.2.2.2) hm2]; decide⟩
    · rw [List.mem_singleton.1 hx]; exact ⟨by rw [show n2.l = [] from congrArg (·.2.2.1) hn2]; decide, by rw [show n2.b = [] from congrArg (·.2.2.2) hn2]; decide⟩⟩
  repeat' (first | refine tw_ ?_ | (refine ta_ ?_; intro _) | ((fail_if_success (refine ybi rfl ?_)); refine ybj rfl ?_ ?_ <;> (intro ht; rw [ht]; first | replace ht := of_decide_eq_true ht | replace ht := of_decide_eq_false ht | skip)) | (refine ych ?_; first | (refine ybw rfl ?_ ?_ <;> intro ht) | (refine ybx rfl ?_ ?_ <;> intro ht)))
  (refine yco (ycp Tryz.func24 rfl (by kernel_rfl) rfl) (sseen_sp _ [m2, n2] h2 S2 f2) rfl rfl rfl ?_ ?_ ?_; (· (exact to_)); (· intro _ _ hle; (exact to_)); intro x px hle)
  obtain ⟨h3, v3, u, m, e3⟩ := x
  obtain ⟨C3, R3⟩ := px
  dsimp only at C3 R3
  unfold SeenR at R3
  rw [if_neg (by rw [c2]; decide)] at R3
  rcases R3 with ⟨_, _, _, r4⟩ | ⟨r1, r2, r3, r4⟩
  · exfalso
    have : ([m2, n2].map Sb.a).flatMap (fun s => s.1 :: s.2.2.1) = [(1, 1), (2, 1)] := by
      show [m2.a, n2.a].flatMap _ = _
      rw [hm2, hn2]; rfl
    rw [this] at r4
    exact absurd r4 (by decide)
  subst r1
  obtain ⟨hu, mv, hv3, s3⟩ := id C3
  subst hv3
  obtain ⟨_, ad3, cap3, hmv, _, _⟩ := id s3
  subst hmv
  have hle3 : Le h2 h3 := hle
  clear hle
  obtain ⟨y, hy⟩ : ∃ y : Sb, y = ⟨(1, 2), u, hu, m, .slice ad3 m.length cap3, [], .slice none 0 0⟩ := ⟨_, rfl⟩
  have hfy : fillL (fun i : Nat => ([(0, 2), (2, 17), (19, 1)] : List (Nat × Nat))[i]?) ([.int .i64 0, .int .i64 0] ++ (up zeroU ++ [.slice none 0 0, .slice none 0 0])) [(0, .agg (dcs (1, 2)).toArray), (1, .agg (cxc u (.slice ad3 m.length cap3)).toArray)] = some (sbc y) := by
    rw [hy]; exact fill3b hu
  have hyv : Sv h3 y := by rw [hy]; exact ⟨s3, Sc.nil h3 1 none 0, fun b hb => by cases hb⟩
  repeat' (first | (refine ycf ?_; apply ybk; (· first | (first | (apply yad; (· rfl); (· exact yaz 0 rfl); (· exact ycj hu)) | (apply yax (cs := sbc y); (· rfl); (· exact hfy)))); (· rfl); (· rfl)) | (refine ybg 0 rfl rfl rfl (cxc_sz hu) (cxc_fit hu) (cxc_one rfl) (ybh (cxc_all hu)) rfl rfl ?_ ?_ ?_; (· (exact to_)); (· (exact to_))) | refine t1_ ?_ | (refine ta_ ?_; intro _) | ((fail_if_success (refine ybi rfl ?_)); refine ybj rfl ?_ ?_ <;> (intro ht; rw [ht]; first | replace ht := of_decide_eq_true ht | replace ht := of_decide_eq_false ht | skip)) | (refine ych ?_; first | (refine ybw rfl ?_ ?_ <;> intro ht) | (refine ybx rfl ?_ ?_ <;> intro ht)))
  have ey : y.a = ((1, 2), u, m, []) := by rw [hy]; rfl
  have ck : checkC u m = 0 := check_inv r2 r3
  have sn : ∀ d, rightB d = true → hasC u m d = seenA [((1, 1), zeroU, [], []), ((2, 1), zeroU, [], [])] d := fun d hd => by
    rw [r4 d hd]
    show seenA [m2.a, n2.a] d = _
    rw [hm2, hn2]
    rfl
  have hA : ∀ d, rightB d = true → hasA y.a d = seenA [((1, 1), zeroU, [], []), ((2, 1), zeroU, [], [])] d := fun d hd => by
    rw [ey]
    show (decide (checkC u m = 0) && rightB d && hasC u m d) = _
    rw [ck, hd, sn d hd]
    rfl
  have ry : rightA y.a = true := by
    unfold rightA
    have e1 : hasA y.a y.a.1 = false := by
      rw [show y.a.1 = (1, 2) by rw [ey], hA (1, 2) (by decide)]
      kernel_rfl
    rw [e1, ey]
    show (rightB (1, 2) && (decide (checkC u m = 0) && (!false && decide ((([] : List Int).length : Int) ≤ 16384)))) = true
    rw [ck]
    rfl
  have dm2 : m2.d = (1, 1) := congrArg (·.1) hm2
  have dn2 : n2.d = (2, 1) := congrArg (·.1) hn2
  have dy : y.d = (1, 2) := by rw [hy]
  have nd2 : (([m2, n2] ++ [y]).map Sb.d).Nodup := by show [m2.d, n2.d, y.d].Nodup; rw [dm2, dn2, dy]; decide
  have fr : ∀ x : Ab, freeS [m2.a, n2.a] [y.a] x = (!(hasA m2.a x.1 || hasA n2.a x.1) && !(hasA y.a x.1)) := fun x => by
    unfold freeS
    simp
  have g2 : (([m2, n2] ++ [y]).filter fun x => freeS ([m2, n2].map Sb.a) [y.a] x.a) = [y] := by
    show List.filter (fun x => freeS [m2.a, n2.a] [y.a] x.a) [m2, n2, y] = _
    rw [List.filter_cons_of_neg (by show ¬ freeS [m2.a, n2.a] [y.a] m2.a = true; rw [fr, show m2.a.1 = (1, 1) from dm2, hA (1, 1) (by decide), show seenA [((1, 1), zeroU, [], []), ((2, 1), zeroU, [], [])] (1, 1) = true by kernel_rfl]; simp),
      List.filter_cons_of_neg (by show ¬ freeS [m2.a, n2.a] [y.a] n2.a = true; rw [fr, show n2.a.1 = (2, 1) from dn2, hA (2, 1) (by decide), show seenA [((1, 1), zeroU, [], []), ((2, 1), zeroU, [], [])] (2, 1) = true by kernel_rfl]; simp),
      List.filter_cons_of_pos (by show freeS [m2.a, n2.a] [y.a] y.a = true; rw [fr, show y.a.1 = (1, 2) from dy, hA (1, 2) (by decide), hm2, hn2]; kernel_rfl)]
    rfl
  have ly : y.l.length ≤ 1000000 ∧ y.b.length ≤ 1000000 := by rw [hy]; exact ⟨by show m.length ≤ _; omega, Nat.zero_le _⟩
  have S3 : Ss h3 (.slice ad2 [m2, n2].length cap2) [m2, n2] := S2.mono hle3
  (refine yco (ycp Tryz.func23 rfl (by kernel_rfl) rfl) (sput_sp _ [m2, n2] y h3 S3 hyv f2 ly) rfl rfl rfl ?_ ?_ ?_; (· (exact to_)); (· intro _ _ hle; (exact to_)); intro x px hle)
  obtain ⟨h4, v4, M4, e4⟩ := x
  obtain ⟨S4, R4⟩ := px
  dsimp only at S4 R4
  obtain ⟨T4, q1, q2, q3, q4⟩ := sets1 v4 [m2, n2] y M4 e4 R4 c2 (check_single ry) nd2 _ g2 (by show 1 ≤ 64; decide)
  rw [perm_one q1] at q4
  subst q3
  obtain ⟨m4, rfl, hm4⟩ := map_one q4
  have dm4 : m4.d = (1, 2) := by rw [show m4.d = y.d from congrArg (·.1) hm4, dy]
  obtain ⟨_, ad4, cap4, hv4, _, _⟩ := id S4.1
  subst hv4
  obtain ⟨b4, o4, hb4⟩ := S4.1.ad (by show 0 < 1; decide) (by decide)
  subst hb4
  have hel : ∀ L, Cells h4 L ⟨b4, o4 + 0 * 20, none⟩ (sbc m4) := fun L => S4.1.elem sbc_len 0 (by show 0 < 1; decide)
  have e42 : m4.d.2 = 2 := by rw [dm4]
  have l4 : [m4].length = 1 := rfl
  have l2 : [m2, n2].length = 2 := rfl
  repeat' (first | (refine ycf ?_; apply ybk; (· first | (exact tk_) | (apply yae; (· rfl); (· (exact sb_nu (hel _))))); (· rfl); (· rfl)) | (refine ybg 0 rfl rfl rfl (cxc_sz hu) (cxc_fit hu) (cxc_one rfl) (ybh (cxc_all hu)) rfl rfl ?_ ?_ ?_; (· (exact to_)); (· (exact to_))) | refine t1_ ?_ | (refine ta_ ?_; intro _) | ((fail_if_success (refine ybi rfl ?_)); refine ybj rfl ?_ ?_ <;> (intro ht; rw [ht]; first | replace ht := of_decide_eq_true ht | replace ht := of_decide_eq_false ht | skip)) | (refine ych ?_; first | (refine ybw rfl ?_ ?_ <;> intro ht) | (refine ybx rfl ?_ ?_ <;> intro ht)))
  exact nx_ret1 rfl (rv_tmp rfl) (fun w' s' => ⟨rfl, s'.nil.base⟩)
end Go.Proofs.YtkkjppeaaicgaaaGreat
end

section
namespace Go.Proofs.YtkkjppeaaicgaaaGreat
open Go Go.Ck
set_option maxRecDepth 100000
set_option maxHeartbeats 1000000
set_option linter.unusedVariables false

/-- dots that rise -/
def StrictA (l : List Ab) : Prop := l.Pairwise fun x y => ordD x.1 y.1 < 0
theorem ord_anti {x y : Dt} (h1 : ordD x y < 0) (h2 : ordD y x < 0) : False := by rw [ord_iff] at h1 h2; omega
theorem ord_ne {x y : Dt} (h1 : ordD x y < 0) : x ≠ y := fun e => by rw [e] at h1; exact ord_self _ h1
theorem ord_lt_of {x y : Dt} (h1 : ordD x y ≤ 0) (h2 : x ≠ y) : ordD x y < 0 := by
  rw [ord_le, ord_iff] at h1
  rw [ord_iff]
  obtain ⟨x1, x2⟩ := x
  obtain ⟨y1, y2⟩ := y
  simp only [ne_eq, Prod.mk.injEq] at h1 h2 ⊢
  omega
theorem ord_tr {x y z : Dt} (h1 : ordD x y < 0) (h2 : ordD y z < 0) : ordD x z < 0 := by
  rw [ord_iff] at h1 h2 ⊢
  omega
theorem strict_nodup {l : List Ab} (h : StrictA l) : l.Nodup := by
  show List.Pairwise _ _
  exact List.Pairwise.imp (fun {a b} hab => by intro e; exact ord_ne hab (congrArg (·.1) e)) h
theorem strict_ext {l m : List Ab} (hl : StrictA l) (hm : StrictA m) (h : ∀ x, x ∈ l ↔ x ∈ m) : l = m :=
  List.Perm.eq_of_pairwise (le := fun x y : Ab => ordD x.1 y.1 < 0) (fun a b _ _ h1 h2 => (ord_anti h1 h2).elim) hl hm ((List.perm_ext_iff_of_nodup (strict_nodup hl) (strict_nodup hm)).2 h)
theorem strict_one {l : List Ab} (h : StrictA l) {x y : Ab} (hx : x ∈ l) (hy : y ∈ l) (e : x.1 = y.1) : x = y := by
  obtain ⟨i, hi, rfl⟩ := List.mem_iff_getElem.1 hx
  obtain ⟨j, hj, rfl⟩ := List.mem_iff_getElem.1 hy
  have hp := List.pairwise_iff_getElem.1 h
  rcases Nat.lt_trichotomy i j with h1 | h1 | h1
  · exact absurd e (ord_ne (hp i j hi hj h1))
  · subst h1; rfl
  · exact absurd e.symm (ord_ne (hp j i hj hi h1))
theorem strict_of_step {l : List Ab} (h : ∀ i x y, l[i]? = some x → l[i + 1]? = some y → ordD x.1 y.1 < 0) : StrictA l := by
  induction l with
  | nil => exact List.Pairwise.nil
  | cons x l ih =>
    have ih := ih (fun i a b ha hb => h (i + 1) a b (by simpa using ha) (by simpa using hb))
    refine List.pairwise_cons.2 ⟨fun y hy => ?_, ih⟩
    cases l with
    | nil => cases hy
    | cons z l =>
      have h1 := h 0 x z (by simp) (by simp)
      rcases List.mem_cons.1 hy with rfl | hy
      · exact h1
      · exact ord_tr h1 ((List.pairwise_cons.1 ih).1 y hy)
theorem checkA_strict {L : List Ab} (h : checkA L = 0) : StrictA L := strict_of_step (checkA_ok h).2.2.1
theorem checkA_mk {L : List Ab} (h1 : L.length ≤ 64) (h2 : ∀ x ∈ L, rightA x = true) (h3 : StrictA L) (h4 : ∀ x ∈ L, ∀ y ∈ L, hasA y x.1 = false) : checkA L = 0 := by
  unfold checkA
  rw [if_neg (by omega), if_neg, if_neg]
  · intro h
    obtain ⟨x, hx, h⟩ := List.any_eq_true.1 h
    obtain ⟨y, hy, h⟩ := List.any_eq_true.1 h
    rw [h4 x hx y hy] at h
    cases h
  · rw [bad_no]
    · decide
    · intro j hj
      unfold badAt
      have e1 : L[j]? = some L[j] := List.getElem?_eq_getElem hj
      rw [e1]
      have e2 : (some L[j]).any rightA = true := by simpa using h2 _ (List.getElem_mem hj)
      rw [e2]
      by_cases h0 : 0 < j
      · have e3 : L[j - 1]? = some L[j - 1] := List.getElem?_eq_getElem (by omega)
        rw [e3]
        have := List.pairwise_iff_getElem.1 h3 (j - 1) j (by omega) hj (by omega)
        have e4 : ¬ 0 ≤ ordD L[j - 1].1 L[j].1 := by omega
        simp [h0, e4]
      · simp [h0]

theorem last_le {l : List Sb} (hs : SortS l) {k : Nat} {y : Sb} (hy : l[k]? = some y) : ∀ x ∈ l.take (k + 1), ordD x.d y.d ≤ 0 := fun x hx => by
  obtain ⟨i, hi, rfl⟩ := List.mem_iff_getElem.1 hx
  obtain ⟨hk, rfl⟩ := List.getElem?_eq_some_iff.1 hy
  rw [List.getElem_take]
  simp only [List.length_take] at hi
  by_cases e : i = k
  · subst e
    rw [ord_le]
    exact ord_self _
  · exact List.pairwise_iff_getElem.1 hs i k (by omega) hk (by omega)
/-- the first of each dot -/
theorem ddk_spec {l : List Sb} (hs : SortS l) : ∀ k, k ≤ l.length → ((ddk l k).Pairwise fun x y => ordD x.d y.d < 0) ∧ ∀ x, x ∈ ddk l k ↔ ((l.take k).filter fun y => decide (y.d = x.d)).head? = some x
  | 0, _ => ⟨List.Pairwise.nil, fun x => by simp [ddk_zero]⟩
  | k + 1, hk => by
    obtain ⟨ih1, ih2⟩ := ddk_spec hs k (by omega)
    obtain ⟨z, hz⟩ : ∃ z, l[k]? = some z := ⟨_, List.getElem?_eq_getElem (by omega)⟩
    have htk : l.take (k + 1) = l.take k ++ [z] := by
      obtain ⟨h, rfl⟩ := List.getElem?_eq_some_iff.1 hz
      exact List.take_succ_eq_append_getElem h
    have hle := last_le hs hz
    rw [htk] at hle
    have hsub : ∀ x ∈ ddk l k, x ∈ l.take k := fun x hx => (List.mem_filter.1 (List.mem_of_mem_head? (Option.mem_def.2 ((ih2 x).1 hx)))).1
    have hnew : (∀ y ∈ l.take k, y.d ≠ z.d) → ((ddk l k ++ [z]).Pairwise fun x y => ordD x.d y.d < 0) ∧ ∀ x, x ∈ ddk l k ++ [z] ↔ ((l.take (k + 1)).filter fun y => decide (y.d = x.d)).head? = some x := fun hne => by
      refine ⟨List.pairwise_append.2 ⟨ih1, List.pairwise_singleton .., fun x hx y hy => ?_⟩, fun x => ?_⟩
      · rw [List.mem_singleton.1 hy]
        exact ord_lt_of (hle x (List.mem_append_left _ (hsub x hx))) (hne x (hsub x hx))
      · rw [htk, List.filter_append, List.mem_append, List.mem_singleton]
        by_cases e : z.d = x.d
        · have e0 : (l.take k).filter (fun y => decide (y.d = x.d)) = [] := List.filter_eq_nil_iff.2 fun y hy => by simpa [← e] using hne y hy
          have e1 : x ∉ ddk l k := fun hx => by
            have := (ih2 x).1 hx
            rw [e0] at this
            cases this
          rw [e0]
          simp only [e1, false_or, List.nil_append]
          rw [List.filter_cons_of_pos (by simp [e])]
          simp only [List.filter_nil, List.head?_cons, Option.some.injEq]
          exact eq_comm
        · have e1 : x ≠ z := fun h => e (by rw [h])
          rw [List.filter_cons_of_neg (by simpa using e)]
          simp only [List.filter_nil, List.append_nil, e1, or_false]
          exact ih2 x
    by_cases h0 : k = 0
    · subst h0
      have := hnew (fun y hy => by simp at hy)
      rw [ddk_zero, List.nil_append] at this
      rw [ddk_one hz]
      exact this
    · obtain ⟨y, hy⟩ : ∃ y, l[k - 1]? = some y := ⟨_, List.getElem?_eq_getElem (by omega)⟩
      have hyk : y ∈ l.take k := by
        refine List.mem_of_getElem? (i := k - 1) ?_
        rw [List.getElem?_take, if_pos (by omega), hy]
      rw [ddk_succ hz hy h0]
      by_cases e : z.d = y.d
      · rw [if_pos e, List.append_nil]
        refine ⟨ih1, fun x => ?_⟩
        rw [ih2 x, htk, List.filter_append]
        by_cases e2 : z.d = x.d
        · obtain ⟨q, t, eq⟩ : ∃ q t, (l.take k).filter (fun y => decide (y.d = x.d)) = q :: t := by
            have hm : y ∈ (l.take k).filter (fun y => decide (y.d = x.d)) := List.mem_filter.2 ⟨hyk, by simp [← e2, e]⟩
            cases hq : (l.take k).filter (fun y => decide (y.d = x.d)) with
            | nil => rw [hq] at hm; cases hm
            | cons q t => exact ⟨q, t, rfl⟩
          rw [eq]
          rfl
        · rw [List.filter_cons_of_neg (by simpa using e2)]
          simp
      · rw [if_neg e]
        refine hnew fun x hx e2 => ?_
        have h1 := hle x (List.mem_append_left _ hx)
        have h2 : ordD x.d y.d ≤ 0 := last_le hs hy x (by rw [show k - 1 + 1 = k by omega]; exact hx)
        have h3 : ordD y.d z.d ≤ 0 := hle y (List.mem_append_left _ hyk)
        rw [e2] at h2
        have h4 := ord_lt_of h3 (fun h => e h.symm)
        have h5 := ord_lt_of h2 e
        exact ord_anti h4 h5

/-- of a row of rising dots, those of one dot -/
theorem only_one {l : List Sb} (hn : StrictA (l.map Sb.a)) {x : Sb} (hx : x ∈ l) : l.filter (fun y => decide (y.d = x.d)) = [x] := by
  induction l with
  | nil => cases hx
  | cons y l ih =>
    have h1 := List.pairwise_cons.1 hn
    rcases List.mem_cons.1 hx with rfl | hx
    · rw [List.filter_cons_of_pos (by simp)]
      congr 1
      exact List.filter_eq_nil_iff.2 fun z hz => by
        have h2 : ¬ z.d = x.d := fun e => ord_ne (h1.1 z.a (List.mem_map_of_mem hz)) e.symm
        simpa using h2
    · have : ¬ y.d = x.d := ord_ne (h1.1 x.a (List.mem_map_of_mem hx))
      rw [List.filter_cons_of_neg (by simpa using this)]
      exact ih h1.2 hx

/-- those of both that nobody has seen, of each dot the first's -/
def InM (A B : List Ab) (x : Ab) : Prop := (x ∈ A ∨ (x ∈ B ∧ ∀ y ∈ A, y.1 ≠ x.1)) ∧ freeS A B x = true
theorem merge_law {a b : List Sb} {M : List Ab} {e : Int} (h : MergeR a b M e) (ca : checkA (a.map Sb.a) = 0) (cb : checkA (b.map Sb.a) = 0) :
    ∃ L : List Ab, StrictA L ∧ (∀ x, x ∈ L ↔ InM (a.map Sb.a) (b.map Sb.a) x) ∧ (if 64 < L.length then e = 5 ∧ M = [] else e = 0 ∧ M = L) := by
  unfold MergeR at h
  rw [if_neg (by rw [ca]; decide), if_neg (by rw [cb]; decide)] at h
  obtain ⟨R, kR, sR, hR⟩ := h
  obtain ⟨s1, s2⟩ := ddk_spec sR R.length (Nat.le_refl _)
  rw [List.take_length] at s2
  have sa := checkA_strict ca
  have sb := checkA_strict cb
  refine ⟨((ddk R R.length).filter fun x => freeS (a.map Sb.a) (b.map Sb.a) x.a).map Sb.a, ?_, fun x => ?_, by rw [List.length_map]; exact hR⟩
  · show List.Pairwise _ _
    rw [List.pairwise_map]
    exact (s1.filter _).imp (fun h => h)
  · have hmem : ∀ s : Sb, s ∈ ddk R R.length ↔ (a.filter (fun y => decide (y.d = s.d)) ++ b.filter fun y => decide (y.d = s.d)).head? = some s := fun s => by
      rw [s2 s, ← kR s.d, List.filter_append]
    rw [List.mem_map]
    constructor
    · rintro ⟨s, hs, rfl⟩
      obtain ⟨h1, h2⟩ := List.mem_filter.1 hs
      refine ⟨?_, h2⟩
      rw [hmem] at h1
      cases hq : a.filter (fun y => decide (y.d = s.d)) with
      | nil =>
        rw [hq] at h1
        right
        have hb : s ∈ b := (List.mem_filter.1 (List.mem_of_mem_head? (Option.mem_def.2 h1))).1
        refine ⟨List.mem_map_of_mem hb, fun y hy => ?_⟩
        obtain ⟨t, ht, rfl⟩ := List.mem_map.1 hy
        have := List.filter_eq_nil_iff.1 hq t ht
        intro e
        exact this (decide_eq_true (show t.d = s.d from e))
      | cons q t =>
        rw [hq] at h1
        have e : q = s := by simpa using h1
        left
        have hm : s ∈ a.filter (fun y => decide (y.d = s.d)) := by rw [hq, e]; exact List.mem_cons_self ..
        exact List.mem_map_of_mem (List.mem_filter.1 hm).1
    · rintro ⟨h1, h2⟩
      rcases h1 with h1 | ⟨h1, h3⟩
      · obtain ⟨s, hs, rfl⟩ := List.mem_map.1 h1
        refine ⟨s, List.mem_filter.2 ⟨?_, h2⟩, rfl⟩
        rw [hmem, only_one sa hs]
        rfl
      · obtain ⟨s, hs, rfl⟩ := List.mem_map.1 h1
        refine ⟨s, List.mem_filter.2 ⟨?_, h2⟩, rfl⟩
        rw [hmem, only_one sb hs, List.filter_eq_nil_iff.2 fun t ht => by have h4 : ¬ t.d = s.d := h3 t.a (List.mem_map_of_mem ht); simpa using h4]
        rfl
theorem free_iff {A B : List Ab} {x : Ab} : freeS A B x = true ↔ (∀ y ∈ A, hasA y x.1 = false) ∧ ∀ y ∈ B, hasA y x.1 = false := by
  unfold freeS
  simp only [Bool.and_eq_true, Bool.not_eq_true', List.any_eq_false, Bool.not_eq_true]
theorem merge_nil {a b : List Sb} {M : List Ab} {e : Int} (h : MergeR a b M e) (ha : a = []) (cb : checkA (b.map Sb.a) = 0) : e = 0 ∧ M = b.map Sb.a := by
  subst ha
  obtain ⟨L, h1, h2, h3⟩ := merge_law h (by kernel_rfl) cb
  obtain ⟨c1, c2, c3, c4⟩ := checkA_ok cb
  have e1 : L = b.map Sb.a := strict_ext h1 (checkA_strict cb) fun x => by
    rw [h2 x]
    unfold InM
    rw [free_iff]
    constructor
    · rintro ⟨h | h, _⟩
      · cases h
      · exact h.1
    · intro h
      exact ⟨.inr ⟨h, fun y hy => (by cases hy)⟩, fun y hy => (by cases hy), fun y hy => c4 x h y hy⟩
  rw [e1, if_neg (by omega)] at h3
  exact h3
theorem merge_self {a b : List Sb} {M : List Ab} {e : Int} (h : MergeR a b M e) (hab : a.map Sb.a = b.map Sb.a) (ca : checkA (a.map Sb.a) = 0) : e = 0 ∧ M = a.map Sb.a := by
  obtain ⟨L, h1, h2, h3⟩ := merge_law h ca (hab ▸ ca)
  rw [← hab] at h2
  obtain ⟨c1, c2, c3, c4⟩ := checkA_ok ca
  have e1 : L = a.map Sb.a := strict_ext h1 (checkA_strict ca) fun x => by
    rw [h2 x]
    unfold InM
    rw [free_iff]
    constructor
    · rintro ⟨h | h, _⟩
      · exact h
      · exact h.1
    · intro h
      exact ⟨.inl h, fun y hy => c4 x h y hy, fun y hy => c4 x h y hy⟩
  rw [e1, if_neg (by omega)] at h3
  exact h3
/-- what is merged is a set -/
theorem merge_set {a b : List Sb} {M : List Ab} (h : MergeR a b M 0) : checkA (a.map Sb.a) = 0 ∧ checkA (b.map Sb.a) = 0 ∧ checkA M = 0 := by
  by_cases ca : checkA (a.map Sb.a) = 0
  · by_cases cb : checkA (b.map Sb.a) = 0
    · refine ⟨ca, cb, ?_⟩
      obtain ⟨L, h1, h2, h3⟩ := merge_law h ca cb
      split at h3
      · exact absurd h3.1 (by decide)
      · rename_i hl
        rw [h3.2]
        refine checkA_mk (by omega) (fun x hx => ?_) h1 fun x hx y hy => ?_
        · rcases ((h2 x).1 hx).1 with h | h
          · exact (checkA_ok ca).2.1 x h
          · exact (checkA_ok cb).2.1 x h.1
        · have hf := free_iff.1 ((h2 x).1 hx).2
          rcases ((h2 y).1 hy).1 with h | h
          · exact hf.1 y h
          · exact hf.2 y h.1
    · unfold MergeR at h
      rw [if_neg (by rw [ca]; decide), if_pos cb] at h
      exact absurd h.1.symm cb
  · unfold MergeR at h
    rw [if_pos ca] at h
    exact absurd h.1.symm ca
theorem merge_err {a b : List Sb} {M : List Ab} {e : Int} (h : MergeR a b M e) (he : e ≠ 0) : M = [] := by
  unfold MergeR at h
  split at h
  · exact h.2
  split at h
  · exact h.2
  obtain ⟨R, _, _, h⟩ := h
  split at h
  · exact h.2
  · exact absurd h.1 he
end Go.Proofs.YtkkjppeaaicgaaaGreat
end
