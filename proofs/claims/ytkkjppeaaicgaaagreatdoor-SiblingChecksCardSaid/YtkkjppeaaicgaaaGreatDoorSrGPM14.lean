/-
  Part 14 of a proof: SbP SbQ.
  Conditions: each theorem states its own.
-/
import Derived.Laws.IdiomStrings
import Derived.Test.YtkkjppeaaicgaaaGreatDoorSrGPM13
section
namespace Go.Proofs.YtkkjppeaaicgaaaGreatDoor
open Go Go.Ck
set_option maxRecDepth 100000
set_option maxHeartbeats 4000000
set_option linter.unusedVariables false
def upS (l : List Sb) (k : Nat) : List Int := (l.take k).foldl (fun u s => maxU u s.u) zeroU
theorem upS_succ {l : List Sb} {k : Nat} (hk : k < l.length) : upS l (k + 1) = maxU (upS l k) l[k].u := by
  unfold upS
  rw [List.take_succ_eq_append_getElem hk, List.foldl_append]
  rfl
theorem upS_len (l : List Sb) : ∀ k, k ≤ l.length → (upS l k).length = 16
  | 0, _ => by rfl
  | k + 1, h => by rw [upS_succ (by omega)]; exact maxU_len (upS_len l k (by omega)) l[k].hu
def dotS (l : List Sb) (k : Nat) : List Dt := (l.take k).flatMap fun s => s.d :: s.l
theorem dotS_succ {l : List Sb} {k : Nat} (hk : k < l.length) : dotS l (k + 1) = (dotS l k ++ [l[k].d]) ++ l[k].l := by
  unfold dotS
  rw [List.take_succ_eq_append_getElem hk, List.flatMap_append]
  simp
def seenA (l : List Ab) (x : Dt) : Bool := l.any fun s => decide (x = s.1) || hasC s.2.1 s.2.2.1 x
def SeenR (l : List Ab) (u : List Int) (m : List Dt) (e : Int) : Prop :=
  if checkA l ≠ 0 then e = checkA l ∧ u = zeroU ∧ m = [] else (e = 11 ∧ u = zeroU ∧ m = [] ∧ 32 < (l.flatMap fun s => s.1 :: s.2.2.1).length ∧ ∀ U T, Inv U T → (∀ x, rightB x = true → hasC U T x = seenA l x) → 32 < T.length) ∨ (e = 0 ∧ Inv u m ∧ m.length ≤ 32 ∧ ∀ x, rightB x = true → hasC u m x = seenA l x)
theorem checkA_ok {L : List Ab} (h : checkA L = 0) : L.length ≤ 64 ∧ (∀ x ∈ L, rightA x = true) ∧ (∀ i x y, L[i]? = some x → L[i + 1]? = some y → ordD x.1 y.1 < 0) ∧ (∀ x ∈ L, ∀ y ∈ L, hasA y x.1 = false) := by
  unfold checkA at h
  split at h
  · cases h
  rename_i h1
  split at h
  · cases h
  rename_i h2
  split at h
  · cases h
  rename_i h3
  have hb : ∀ i, i < L.length → badAt L i = false := fun i hi => by
    cases hx : badAt L i with
    | false => rfl
    | true => exact absurd (bad_yes hi hx) h2
  refine ⟨by omega, fun x hx => ?_, fun i x y hx hy => ?_, fun x hx y hy => ?_⟩
  · obtain ⟨i, hi, rfl⟩ := List.getElem_of_mem hx
    have := hb i hi
    unfold badAt at this
    rw [Bool.or_eq_false_iff, List.getElem?_eq_getElem hi] at this
    simpa using this.1
  · have hi : i + 1 < L.length := (List.getElem?_eq_some_iff.1 hy).1
    have := hb (i + 1) hi
    unfold badAt at this
    rw [Bool.or_eq_false_iff, Nat.add_sub_cancel, hx, hy] at this
    have h4 := this.2
    simp at h4
    exact h4
  · cases hc : hasA y x.1 with
    | false => rfl
    | true => exact absurd (List.any_eq_true.2 ⟨x, hx, List.any_eq_true.2 ⟨y, hy, hc⟩⟩) h3
theorem rightA_ok {a : Ab} (h : rightA a = true) : rightB a.1 = true ∧ checkC a.2.1 a.2.2.1 = 0 ∧ hasA a a.1 = false ∧ a.2.2.2.length ≤ 16384 := by
  unfold rightA at h
  simp only [Bool.and_eq_true, decide_eq_true_eq, Bool.not_eq_true'] at h
  exact ⟨h.1, h.2.1, h.2.2.1, by omega⟩
theorem dotS_len {l : List Sb} (hl : ∀ s ∈ l, s.l.length ≤ 32) : ∀ k, k ≤ l.length → (dotS l k).length ≤ 33 * k
  | 0, _ => by simp [dotS]
  | k + 1, hk => by
    have := dotS_len hl k (by omega)
    rw [dotS_succ (by omega), List.length_append, List.length_append]
    have h2 := hl l[k] (List.getElem_mem _)
    simp only [List.length_singleton]
    omega
theorem upS_bd {l : List Sb} (hr : ∀ s ∈ l, rightB s.d = true ∧ checkC s.u s.l = 0) : ∀ k, k ≤ l.length → ∀ x ∈ upS l k, 0 ≤ x ∧ x ≤ 1099511627776
  | 0, _ => fun x hx => by
    have : x = 0 := List.eq_of_mem_replicate (show x ∈ List.replicate 16 (0 : Int) from hx)
    omega
  | k + 1, h => by
    rw [upS_succ (by omega)]
    exact max_bd (upS_len l k (by omega)) l[k].hu (upS_bd hr k (by omega)) (check_right (hr l[k] (List.getElem_mem _)).2).1
theorem has_max {u v : List Int} {x : Dt} (hu : u.length = 16) (hv : v.length = 16) : hasC (maxU u v) [] x = (hasC u [] x || hasC v [] x) := by
  unfold hasC uD
  rw [maxU_at hu hv]
  simp only [List.not_mem_nil, decide_false, Bool.or_false]
  rw [← Bool.decide_or, decide_eq_decide]
  unfold maxI
  split <;> omega
theorem upS_has {l : List Sb} {x : Dt} (hx : rightB x = true) : ∀ k, k ≤ l.length → hasC (upS l k) [] x = (l.take k).any fun s => hasC s.u [] x
  | 0, _ => by
    obtain ⟨_, _, h3, _⟩ := right_of hx
    have hz : uD zeroU x = 0 := by
      unfold uD zeroU
      rw [List.getD_eq_getElem?_getD, List.getElem?_replicate]
      split <;> rfl
    show hasC zeroU [] x = false
    unfold hasC
    rw [hz]
    simp
    omega
  | k + 1, h => by
    rw [upS_succ (by omega), has_max (upS_len l k (by omega)) l[k].hu, upS_has hx k (by omega), List.take_succ_eq_append_getElem (by omega), List.any_append]
    simp
theorem has_split {u : List Int} {m : List Dt} {x : Dt} : hasC u m x = (hasC u [] x || decide (x ∈ m)) := by
  unfold hasC
  simp
theorem seen_eq {l : List Sb} {R : List Dt} (hp : R.Perm (dotS l l.length)) (x : Dt) (hx : rightB x = true) : (hasC (upS l l.length) [] x || decide (x ∈ R)) = seenA (l.map Sb.a) x := by
  rw [upS_has hx _ (Nat.le_refl _), List.take_length]
  have h1 : decide (x ∈ R) = l.any fun s => decide (x = s.d) || decide (x ∈ s.l) := by
    rw [Bool.eq_iff_iff, decide_eq_true_iff, hp.mem_iff, List.any_eq_true]
    unfold dotS
    rw [List.take_length, List.mem_flatMap]
    constructor
    · rintro ⟨s, hs, hm⟩
      refine ⟨s, hs, ?_⟩
      rcases List.mem_cons.1 hm with e | hm
      · simp [e]
      · simp [hm]
    · rintro ⟨s, hs, hm⟩
      refine ⟨s, hs, ?_⟩
      simp only [Bool.or_eq_true, decide_eq_true_eq] at hm
      rcases hm with e | hm
      · rw [e]; exact List.mem_cons_self ..
      · exact List.mem_cons_of_mem _ hm
  rw [h1]
  unfold seenA
  rw [List.any_map]
  induction l with
  | nil => rfl
  | cons s l ih =>
    have ih' : ((l.any fun s => hasC s.u [] x) || l.any fun s => decide (x = s.d) || decide (x ∈ s.l)) = l.any ((fun s => decide (x = s.1) || hasC s.2.1 s.2.2.1 x) ∘ Sb.a) := by
      clear ih h1 hp
      induction l with
      | nil => rfl
      | cons s l ih =>
        simp only [List.any_cons]
        rw [← ih]
        have e : ((fun s : Ab => decide (x = s.1) || hasC s.2.1 s.2.2.1 x) ∘ Sb.a) s = (decide (x = s.d) || (hasC s.u [] x || decide (x ∈ s.l))) := by
          show (decide (x = s.d) || hasC s.u s.l x) = _
          rw [has_split]
        rw [e]
        generalize hasC s.u [] x = a1
        generalize decide (x = s.d) = a2
        generalize decide (x ∈ s.l) = a3
        generalize (l.any fun s => hasC s.u [] x) = a4
        generalize (l.any fun s => decide (x = s.d) || decide (x ∈ s.l)) = a5
        cases a1 <;> cases a2 <;> cases a3 <;> cases a4 <;> cases a5 <;> rfl
    simp only [List.any_cons]
    rw [← ih']
    have e : ((fun s : Ab => decide (x = s.1) || hasC s.2.1 s.2.2.1 x) ∘ Sb.a) s = (decide (x = s.d) || (hasC s.u [] x || decide (x ∈ s.l))) := by
      show (decide (x = s.d) || hasC s.u s.l x) = _
      rw [has_split]
    rw [e]
    generalize hasC s.u [] x = a1
    generalize decide (x = s.d) = a2
    generalize decide (x ∈ s.l) = a3
    generalize (l.any fun s => hasC s.u [] x) = a4
    generalize (l.any fun s => decide (x = s.d) || decide (x ∈ s.l)) = a5
    cases a1 <;> cases a2 <;> cases a3 <;> cases a4 <;> cases a5 <;> rfl
theorem cells_up2 {h : View} {L : List Res} {b o : Nat} {u : List Int} {mv : Value} (c : Cells h L ⟨b, o, none⟩ (cxc u mv)) : Cells h L ⟨b, o, none⟩ (up u) := by
  have := c.take (up u).length
  simpa [cxc] using this
theorem nodup_le {l : List Dt} : ∀ {m : List Dt}, l.Nodup → (∀ x ∈ l, x ∈ m) → l.length ≤ m.length := by
  induction l with
  | nil => intro m _ _; exact Nat.zero_le _
  | cons a l ih =>
    intro m hn hs
    obtain ⟨h1, h2⟩ := List.nodup_cons.1 hn
    have ha := hs a (List.mem_cons_self ..)
    have := ih (m := m.erase a) h2 (fun x hx => (List.mem_erase_of_ne (fun e => h1 (by rw [← e]; exact hx))).2 (hs x (List.mem_cons_of_mem _ hx)))
    rw [List.length_erase_of_mem ha] at this
    have hp : 0 < m.length := List.length_pos_of_mem ha
    simp only [List.length_cons]
    omega
theorem more_mono {U0 : List Int} {R : List Dt} {k : Nat} {u1 U : List Int} {m1 T : List Dt} (hs : SortedD R) (hr : ∀ d ∈ R, rightB d = true) (i1 : Inv u1 m1) (i2 : Inv U T)
    (h1 : ∀ x, rightB x = true → hasC u1 m1 x = (hasC U0 [] x || decide (x ∈ R.take k))) (h2 : ∀ x, rightB x = true → hasC U T x = (hasC U0 [] x || decide (x ∈ R))) : m1.length ≤ T.length := by
  have hmem : ∀ e ∈ m1, e ∈ T := fun e he => by
    obtain ⟨re, me⟩ := i1.mor e he
    obtain ⟨r1, r2, r3, r4⟩ := right_of re
    have hb : 0 ≤ uD u1 e := by
      unfold uD
      rw [List.getD_eq_getElem?_getD]
      cases hg : u1[(e.1 - 1).toNat]? with
      | none => simp
      | some q => exact (i1.bd q (List.mem_of_getElem? hg)).1
    obtain ⟨f, hf⟩ : ∃ f : Dt, f = (e.1, uD u1 e + 1) := ⟨_, rfl⟩
    have rf : rightB f = true := by
      rw [hf]
      simp only [rightB, Bool.and_eq_true, decide_eq_true_eq] at re ⊢
      omega
    have uf : ∀ u : List Int, uD u f = uD u e := fun u => by rw [hf]; rfl
    have f2 : f.2 = uD u1 e + 1 := by rw [hf]
    have nf : hasC u1 m1 f = false := by
      unfold hasC
      rw [uf, f2, Bool.or_eq_false_iff]
      refine ⟨decide_eq_false (by omega), decide_eq_false fun h => ?_⟩
      have := (i1.mor f h).2
      rw [uf, f2] at this
      omega
    have ye : hasC u1 m1 e = true := by unfold hasC; rw [decide_eq_true he, Bool.or_true]
    rw [h1 f rf] at nf
    rw [h1 e re] at ye
    have n0 : hasC U0 [] f = false := by
      cases hq : hasC U0 [] f with
      | false => rfl
      | true => rw [hq] at nf; cases nf
    have nt : f ∉ R.take k := fun hq => by rw [decide_eq_true hq, Bool.or_true] at nf; cases nf
    have e0 : hasC U0 [] e = false := by
      cases hq : hasC U0 [] e with
      | false => rfl
      | true =>
        have a1 : e.2 ≤ uD U0 e := by unfold hasC at hq; simpa using hq
        have : hasC U0 [] f = true := by unfold hasC; rw [uf, decide_eq_true (show f.2 ≤ uD U0 e by omega)]; rfl
        rw [this] at n0; cases n0
    rw [e0, Bool.false_or] at ye
    have et : e ∈ R.take k := oet_ ye
    have nR : f ∉ R := fun hq => by
      rw [← List.take_append_drop k R] at hq hs
      have hd : f ∈ R.drop k := (List.mem_append.1 hq).resolve_left nt
      have := (List.pairwise_append.1 hs).2.2 e et f hd
      refine this ?_
      rw [ord_iff, f2]
      refine .inr ⟨by rw [hf], by omega⟩
    have nT : hasC U T f = false := by rw [h2 f rf, n0, decide_eq_false nR]; rfl
    have yT : hasC U T e = true := by rw [h2 e re, decide_eq_true (List.mem_of_mem_take et), Bool.or_true]
    unfold hasC at yT nT
    rw [Bool.or_eq_false_iff] at nT
    rw [Bool.or_eq_true] at yT
    rcases yT with h | h
    · exfalso
      have h := oet_ h
      refine oef_ nT.1 ?_
      rw [uf]
      omega
    · exact oet_ h
  refine nodup_le ?_ hmem
  refine i1.srt.imp fun {a b} hab hE => ?_
  subst hE
  rw [ord_iff] at hab
  omega
theorem sseen_sp (v : Value) (l : List Sb) (h : View) (hs : Ss h v l) (fl : Fits l) (w : World) (s : St ⟨w, h, []⟩ h [] w) :
    Calls Tryz.prog 9 [v].toArray w fun e w' => ∃ z : View × Value × List Int × List Dt × Int, e = .returned (.tuple #[z.2.1, .int .i64 z.2.2.2.2]) ∧ St ⟨w, h, []⟩ z.1 [] w' ∧ Cx z.1 z.2.1 z.2.2.1 z.2.2.2.1 ∧ SeenR (l.map Sb.a) z.2.2.1 z.2.2.2.1 z.2.2.2.2 := by
  have CA := scheck_sp v l h hs (by have := fl.1; omega) (fun x hx => by have := (fl.2 x hx).1; omega)
  have hs0 := hs
  obtain ⟨hs, hsv⟩ := hs
  obtain ⟨_, ad, cap, rfl, hcap, _⟩ := id hs
  refine calls_enter Tryz.func9 rfl Tryz.ntmps9 rfl s ?_
  by_cases hz : checkA (l.map Sb.a) = 0
  ·
    repeat' (first|(refine ycf ?_;apply ybk;(·first|(exact tk_));(·rfl);(·rfl))|refine t1_ ?_|(refine ta_ ?_;intro _)|((fail_if_success (refine ybi rfl ?_));refine ybj rfl ?_ ?_<;>(intro ht;rw [ht];first|replace ht := oet_ ht|replace ht := oef_ ht|skip))|(refine ych ?_;first|(refine ybw rfl ?_ ?_<;>intro ht)|(refine ybx rfl ?_ ?_<;>intro ht)))
    (refine ycn (ycp Tryz.func12 rfl (by kernel_rfl) rfl) (CA) rfl rfl rfl ?_ ?_; (· (exact to_)))
    repeat' (first|(refine ycf ?_;apply ybk;(·first|(exact tk_));(·rfl);(·rfl))|refine t1_ ?_|(refine ta_ ?_;intro _)|((fail_if_success (refine ybi rfl ?_));refine ybj rfl ?_ ?_<;>(intro ht;rw [ht];first|replace ht := oet_ ht|replace ht := oef_ ht|skip))|(refine ych ?_;first|(refine ybw rfl ?_ ?_<;>intro ht)|(refine ybx rfl ?_ ?_<;>intro ht)))
    rename_i b2 b5
    obtain ⟨cl64, cr, _, _⟩ := checkA_ok hz
    rw [List.length_map] at cl64
    have hr : ∀ s ∈ l, rightB s.d = true ∧ checkC s.u s.l = 0 := fun s hs => by
      have := rightA_ok (cr s.a (List.mem_map_of_mem hs))
      exact ⟨this.1, this.2.1⟩
    have h32 : ∀ s ∈ l, s.l.length ≤ 32 := fun s hs => (check_right (hr s hs).2).2.1
    refine cx_row 53 2 ?_
    refine cx_loop (X := Nat × Value) (fun x => [(2, .pointer (some ⟨b2, 0, none⟩)), (3, .int .i64 0), (5, .pointer (some ⟨b5, 0, none⟩)), (6, x.2), (20, .slice ad l.length cap), (21, .int .i64 l.length), (22, .int .i64 (x.1 : Nat))]) (fun _ => h)
      (fun x => [rowD x.2 (dotS l x.1), Res.blk b5 (.cells (cxc (upS l x.1) (.slice none 0 0)).toArray 37 (0, 0)), Res.blk b2 (.cells (cxc zeroU (.slice none 0 0)).toArray 37 (0, 0))])
      (fun x => x.1 ≤ l.length) (fun x => l.length - x.1) (0, .slice none 0 0) (Nat.zero_le _) ts_ (fun _ s => s) ?_
    rintro ⟨k, rv⟩ hk
    dsimp only at hk ⊢
    have hUl := upS_len l k hk
    by_cases hkl : k < l.length
    · obtain ⟨bs, o, rfl⟩ := hs.ad (by omega) (by omega)
      have hel : ∀ L, Cells h L ⟨bs, o + k * 20, none⟩ (sbc l[k]) := fun L => hs.elem sbc_len k hkl
      have hxv : Sv h l[k] := hsv _ (List.getElem_mem hkl)
      have hlim := fl.2 _ (List.getElem_mem hkl)
      have he32 := h32 _ (List.getElem_mem hkl)
      have hU1 := upS_succ hkl
      have hd1 := dotS_succ hkl
      generalize l[k] = e0 at hel hxv hlim hU1 hd1 he32
      generalize upS l k = U at hUl hU1 ⊢
      have hxl := sbc_len e0
      repeat' (first|(refine ycf ?_;apply ybk;(·first|(first|exact tk_|(apply yad;(·rfl);(·exact hel _);(·exact hxl))|(apply yad (vs := up e0.u);(·rfl);(·exact cells_up2 (sb_past (yaz 0 rfl)));(·simp [up, e0.hu]))));(·rfl);(·rfl))|(refine ybg 0 rfl rfl rfl (sbc_sz e0) (sbc_fit rfl) (sbc_one hxv.one.1 hxv.one.2) (ybh (sbc_all rfl)) rfl rfl ?_ ?_ ?_;(·(exact to_));(·(exact to_)))|refine t1_ ?_|(refine ta_ ?_;intro _)|((fail_if_success (refine ybi rfl ?_));refine ybj rfl ?_ ?_<;>(intro ht;rw [ht];first|replace ht := oet_ ht|replace ht := oef_ ht|skip))|(refine ych ?_;first|(refine ybw rfl ?_ ?_<;>intro ht)|(refine ybx rfl ?_ ?_<;>intro ht)))
      rename_i b8
      have hmK : ∀ i, i ≤ 16 → (maxK U e0.u i).length = 16 := fun i hi => maxK_len hUl e0.hu hi
      refine cx_loop (X := Nat) (fun i => [(2, .pointer (some ⟨b2, 0, none⟩)), (3, .int .i64 0), (5, .pointer (some ⟨b5, 0, none⟩)), (6, rv), (8, .pointer (some ⟨b8, 0, none⟩)), (20, .slice (some ⟨bs, o, none⟩) l.length cap), (21, .int .i64 l.length), (22, .int .i64 (k : Nat)), (28, .agg (up e0.u).toArray), (29, .int .i64 (i : Nat))]) (fun _ => h)
        (fun i => [Res.blk b8 (.cells (sbc e0).toArray 57 (0, 0)), rowD rv (dotS l k), Res.blk b5 (.cells (cxc (maxK U e0.u i) (.slice none 0 0)).toArray 37 (0, 0)), Res.blk b2 (.cells (cxc zeroU (.slice none 0 0)).toArray 37 (0, 0))])
        (fun i => i ≤ 16) (fun i => 16 - i) 0 (Nat.zero_le _) ts_ (fun _ s => s) ?_
      intro i hi
      by_cases hi16 : i < 16
      · have hidx : (up e0.u).toArray[((i : Int)).toNat * 1]? = some (.int .i64 (e0.u.getD i 0)) := by
          have := e0.hu
          simp [up, show i < e0.u.length by omega]
        have hset := maxK_set hUl e0.hu hi16
        have hat := maxK_at hUl e0.hu hi16
        have hKl := hmK i hi
        repeat' (first|(refine ycf ?_;apply ybk;(·first|(first|exact tk_|(apply qv_index;(·rfl);(·rfl);(·omega);(·omega);(·exact hidx))|(refine qv_max' rfl rfl rfl))|(apply yae;(·rfl);(·(exact cell_upy hat (ycm (yaz 2 rfl)) (by omega) (by omega)))));(·rfl);(·rfl))|(refine ybg 2 rfl rfl rfl rfl (fit_cxc (i := i) hKl (by omega) (by omega)) rfl (spl_cxc (i := i) (by omega) (by omega)) rfl rfl ?_ ?_ ?_;(·(exact to_));(·(exact to_)))|refine t1_ ?_|(refine ta_ ?_;intro _)|((fail_if_success (refine ybi rfl ?_));refine ybj rfl ?_ ?_<;>(intro ht;rw [ht];first|replace ht := oet_ ht|replace ht := oef_ ht|skip))|(refine ych ?_;first|(refine ybw rfl ?_ ?_<;>intro ht)|(refine ybx rfl ?_ ?_<;>intro ht)))
        refine nx_round (i + 1) (by show i + 1 ≤ _; omega) (by show 16 - (i + 1) < 16 - i; omega) ts_ (fun _ s => ?_)
        rw [← hset]
        exact s
      · have ei : i = 16 := by omega
        subst ei
        rw [maxK_all hUl e0.hu, ← hU1]
        repeat' (first|(refine ycf ?_;apply ybk;(·first|(exact tk_));(·rfl);(·rfl))|refine t1_ ?_|(refine ta_ ?_;intro _)|((fail_if_success (refine ybi rfl ?_));refine ybj rfl ?_ ?_<;>(intro ht;rw [ht];first|replace ht := oet_ ht|replace ht := oef_ ht|skip))|(refine ych ?_;first|(refine ybw rfl ?_ ?_<;>intro ht)|(refine ybx rfl ?_ ?_<;>intro ht)))
        have hdl := dotS_len h32 k hk
        have h32e : e0.l.length ≤ 32 := he32
        obtain ⟨_, adm, capm, hmv, _, _⟩ := id hxv.ds
        refine cx_region_draw [Res.blk b8 (.cells (sbc e0).toArray 57 (0, 0))] rfl (by kernel_rfl) ?_
        repeat' (refine ycf ?_;(first|(first|(apply ybm;(·(first|(apply yad;(·rfl);(·exact sb_dot (yaz 0 rfl));(·rfl))|(apply yae;(·rfl);(·(exact sb_more (yaz 0 rfl) hmv)))|exact tq_));(·rfl);(·rfl);(·(exact fun _ s => ⟨s.view, fun r hr => s.own r (by rw [List.mem_singleton.1 hr];simp)⟩)))|refine ybl rfl rfl ?_|((fail_if_success (refine ybi rfl ?_));refine ybj rfl ?_ ?_<;>(intro ht;rw [ht];first|replace ht := oet_ ht|replace ht := oef_ ht|skip))|(refine tb_ ?_ ?_ ?_;(·(first|exact ybf|(refine .inl ?_;(exact fun _ s => ⟨s.view, fun r hr => s.own r (by rw [List.mem_singleton.1 hr];simp)⟩))|exact to_));(·intro _;(first|exact ybf|(refine .inl ?_;(exact fun _ s => ⟨s.view, fun r hr => s.own r (by rw [List.mem_singleton.1 hr];simp)⟩))|exact to_));intro _)|(first|(refine tqs_ ?_ ?_ ?_;(·(first|exact ybf|(refine .inl ?_;(exact fun _ s => ⟨s.view, fun r hr => s.own r (by rw [List.mem_singleton.1 hr];simp)⟩))|exact to_));(·(first|exact ybf|(refine .inl ?_;(exact fun _ s => ⟨s.view, fun r hr => s.own r (by rw [List.mem_singleton.1 hr];simp)⟩))|exact to_))))|(apply ybn;(·(first|(apply yad;(·rfl);(·exact sb_dot (yaz 0 rfl));(·rfl))|(apply yae;(·rfl);(·(exact sb_more (yaz 0 rfl) hmv)))|exact tq_));(·rfl);(·rfl);(·rfl);(·(first|exact ybf|(refine .inl ?_;(exact fun _ s => ⟨s.view, fun r hr => s.own r (by rw [List.mem_singleton.1 hr];simp)⟩))|exact to_))))|refine ycg ?_))
        refine rx_append (sz := 2) 2 rfl rfl rfl (yaz 0 rfl) rfl (one_dcs [e0.d]) rfl (by omega) (by unfold maxLen; omega) (by omega) rfl rfl rfl ?_ ?_ ?_
        · (first|exact ybf|(refine .inl ?_;(exact fun _ s => ⟨s.view, fun r hr => s.own r (by rw [List.mem_singleton.1 hr];simp)⟩))|exact to_)
        · intro v';(first|exact ybf|(refine .inl ?_;(exact fun _ s => ⟨s.view, fun r hr => s.own r (by rw [List.mem_singleton.1 hr];simp)⟩))|exact to_)
        intro v3 _
        repeat' (refine ycf ?_;(first|(first|(apply ybm;(·(first|(apply yad;(·rfl);(·exact sb_dot (yaz 0 rfl));(·rfl))|(apply yae;(·rfl);(·(exact sb_more (yaz 0 rfl) hmv)))|exact tq_));(·rfl);(·rfl);(·(exact fun _ s => ⟨s.view, fun r hr => s.own r (by rw [List.mem_singleton.1 hr];simp)⟩)))|refine ybl rfl rfl ?_|((fail_if_success (refine ybi rfl ?_));refine ybj rfl ?_ ?_<;>(intro ht;rw [ht];first|replace ht := oet_ ht|replace ht := oef_ ht|skip))|(refine tb_ ?_ ?_ ?_;(·(first|exact ybf|(refine .inl ?_;(exact fun _ s => ⟨s.view, fun r hr => s.own r (by rw [List.mem_singleton.1 hr];simp)⟩))|exact to_));(·intro _;(first|exact ybf|(refine .inl ?_;(exact fun _ s => ⟨s.view, fun r hr => s.own r (by rw [List.mem_singleton.1 hr];simp)⟩))|exact to_));intro _)|(first|(refine tqs_ ?_ ?_ ?_;(·(first|exact ybf|(refine .inl ?_;(exact fun _ s => ⟨s.view, fun r hr => s.own r (by rw [List.mem_singleton.1 hr];simp)⟩))|exact to_));(·(first|exact ybf|(refine .inl ?_;(exact fun _ s => ⟨s.view, fun r hr => s.own r (by rw [List.mem_singleton.1 hr];simp)⟩))|exact to_))))|(apply ybn;(·(first|(apply yad;(·rfl);(·exact sb_dot (yaz 0 rfl));(·rfl))|(apply yae;(·rfl);(·(exact sb_more (yaz 0 rfl) hmv)))|exact tq_));(·rfl);(·rfl);(·rfl);(·(first|exact ybf|(refine .inl ?_;(exact fun _ s => ⟨s.view, fun r hr => s.own r (by rw [List.mem_singleton.1 hr];simp)⟩))|exact to_))))|refine ycg ?_))
        refine rx_append_sc (sz := 2) (m := e0.l.length) (news := e0.l.flatMap dcs) 2 rfl rfl rfl (by rw [← hmv]; exact hxv.ds) (one_dcs _) rfl (by omega) (by unfold maxLen; omega) (by omega) rfl rfl rfl ?_ ?_ ?_
        · (first|exact ybf|(refine .inl ?_;(exact fun _ s => ⟨s.view, fun r hr => s.own r (by rw [List.mem_singleton.1 hr];simp)⟩))|exact to_)
        · intro v';(first|exact ybf|(refine .inl ?_;(exact fun _ s => ⟨s.view, fun r hr => s.own r (by rw [List.mem_singleton.1 hr];simp)⟩))|exact to_)
        intro v4 _
        repeat' (refine ycf ?_;(first|(first|(apply ybm;(·(first|(apply yad;(·rfl);(·exact sb_dot (yaz 0 rfl));(·rfl))|(apply yae;(·rfl);(·(exact sb_more (yaz 0 rfl) hmv)))|exact tq_));(·rfl);(·rfl);(·(exact fun _ s => ⟨s.view, fun r hr => s.own r (by rw [List.mem_singleton.1 hr];simp)⟩)))|refine ybl rfl rfl ?_|((fail_if_success (refine ybi rfl ?_));refine ybj rfl ?_ ?_<;>(intro ht;rw [ht];first|replace ht := oet_ ht|replace ht := oef_ ht|skip))|(refine tb_ ?_ ?_ ?_;(·(first|exact ybf|(refine .inl ?_;(exact fun _ s => ⟨s.view, fun r hr => s.own r (by rw [List.mem_singleton.1 hr];simp)⟩))|exact to_));(·intro _;(first|exact ybf|(refine .inl ?_;(exact fun _ s => ⟨s.view, fun r hr => s.own r (by rw [List.mem_singleton.1 hr];simp)⟩))|exact to_));intro _)|(first|(refine tqs_ ?_ ?_ ?_;(·(first|exact ybf|(refine .inl ?_;(exact fun _ s => ⟨s.view, fun r hr => s.own r (by rw [List.mem_singleton.1 hr];simp)⟩))|exact to_));(·(first|exact ybf|(refine .inl ?_;(exact fun _ s => ⟨s.view, fun r hr => s.own r (by rw [List.mem_singleton.1 hr];simp)⟩))|exact to_))))|(apply ybn;(·(first|(apply yad;(·rfl);(·exact sb_dot (yaz 0 rfl));(·rfl))|(apply yae;(·rfl);(·(exact sb_more (yaz 0 rfl) hmv)))|exact tq_));(·rfl);(·rfl);(·rfl);(·(first|exact ybf|(refine .inl ?_;(exact fun _ s => ⟨s.view, fun r hr => s.own r (by rw [List.mem_singleton.1 hr];simp)⟩))|exact to_))))|refine ycg ?_))
        repeat' (first|(refine ycf ?_;apply ybk;(·first|(apply yad;(·rfl);(·exact sb_dot (yaz 0 rfl));(·rfl))|(apply yae;(·rfl);(·(exact sb_more (yaz 0 rfl) hmv))));(·rfl);(·rfl))|refine t1_ ?_|(refine ta_ ?_;intro _)|((fail_if_success (refine ybi rfl ?_));refine ybj rfl ?_ ?_<;>(intro ht;rw [ht];first|replace ht := oet_ ht|replace ht := oef_ ht|skip))|(refine ych ?_;first|(refine ybw rfl ?_ ?_<;>intro ht)|(refine ybx rfl ?_ ?_<;>intro ht)))
        refine nx_round (k + 1, v4) (by show k + 1 ≤ _; omega) (by show l.length - (k + 1) < l.length - k; omega) ts_ (fun _ s => ?_)
        have s2 := s.tl.tl
        dsimp only
        rw [hd1]
        show St _ h [Res.row _ _ v4 ((dotS l k ++ [e0.d]) ++ e0.l).length (((dotS l k ++ [e0.d]) ++ e0.l).flatMap dcs), _, _] _
        rw [List.length_append, List.length_append, List.flatMap_append, List.flatMap_append]
        exact s2
    · have ek : k = l.length := by omega
      subst ek
      repeat' (first|(refine ycf ?_;apply ybk;(·first|(exact tk_));(·rfl);(·rfl))|refine t1_ ?_|(refine ta_ ?_;intro _)|((fail_if_success (refine ybi rfl ?_));refine ybj rfl ?_ ?_<;>(intro ht;rw [ht];first|replace ht := oet_ ht|replace ht := oef_ ht|skip))|(refine ych ?_;first|(refine ybw rfl ?_ ?_<;>intro ht)|(refine ybx rfl ?_ ?_<;>intro ht)))
      have hRl := dotS_len h32 l.length (Nat.le_refl _)
      (refine rx_call_m (ycp Tryz.func28 rfl (by kernel_rfl) rfl) (perm_at (k := 0) rfl) (sort2_sp rv (dotS l l.length) h (by omega)) rfl rfl rfl ?_ ?_ ?_; (· (exact to_)); (· intro _ _ hle; (exact to_)); intro x px hle)
      obtain ⟨hperm, hsrt⟩ := px
      have hxl := hperm.length_eq
      rename_i R _ _
      clear hle
      have hperm' : x.Perm (dotS l l.length) := hperm
      generalize x = R at hperm' hsrt hxl ⊢
      refine rx_rowslice 0 rfl fun ad2 cap2 hrv => ?_
      subst hrv
      refine rx_persist rfl fun h1 hle1 hs1 => ?_
      repeat' (first|(refine ycf ?_;apply ybk;(·first|(exact tk_));(·rfl);(·rfl))|refine t1_ ?_|(refine ta_ ?_;intro _)|((fail_if_success (refine ybi rfl ?_));refine ybj rfl ?_ ?_<;>(intro ht;rw [ht];first|replace ht := oet_ ht|replace ht := oef_ ht|skip))|(refine ych ?_;first|(refine ybw rfl ?_ ?_<;>intro ht)|(refine ybx rfl ?_ ?_<;>intro ht)))
      have hRr : ∀ d ∈ R, rightB d = true := fun d hd => by
        have := hperm'.mem_iff.1 hd
        unfold dotS at this
        rw [List.take_length] at this
        obtain ⟨s, hs, hd⟩ := List.mem_flatMap.1 this
        rcases List.mem_cons.1 hd with rfl | hd
        · exact (hr s hs).1
        · exact (check_right (hr s hs).2).2.2 d hd
      have hUI : Inv (upS l l.length) [] := ⟨hUl, upS_bd hr _ (Nat.le_refl _), by simp, by simp⟩
      generalize hUeq : upS l l.length = U at hUl hUI ⊢
      refine cx_loop (X := Nat × View × List Int × Value × List Dt) (fun y => [(2, .pointer (some ⟨b2, 0, none⟩)), (3, .int .i64 0), (5, .pointer (some ⟨b5, 0, none⟩)), (55, .slice ad2 R.length cap2), (56, .int .i64 R.length), (57, .int .i64 (y.1 : Nat))]) (fun y => y.2.1)
        (fun y => [Res.blk b5 (.cells (cxc y.2.2.1 y.2.2.2.1).toArray 37 (0, 0)), Res.blk b2 (.cells (cxc zeroU (.slice none 0 0)).toArray 37 (0, 0))])
        (fun y => y.1 ≤ R.length ∧ Le h1 y.2.1 ∧ Inv y.2.2.1 y.2.2.2.2 ∧ Ds y.2.1 y.2.2.2.1 y.2.2.2.2 ∧ (y.2.2.2.2.length ≤ 32 ∧ y.2.2.2.2.length ≤ y.1) ∧ ∀ x, rightB x = true → hasC y.2.2.1 y.2.2.2.2 x = (hasC U [] x || decide (x ∈ R.take y.1))) (fun y => R.length - y.1) (0, h1, U, .slice none 0 0, [])
        ⟨Nat.zero_le _, Le.refl _, hUI, Sc.nil _ 2 none 0, ⟨Nat.zero_le _, Nat.zero_le _⟩, fun x _ => by simp⟩ ts_ (fun _ s => s) ?_
      rintro ⟨k, hk, u, mv, m⟩ ⟨p1, p2, p3, p4, ⟨p5, p7⟩, p6⟩
      dsimp only at p1 p2 p3 p4 p5 p6 p7 ⊢
      have hu := p3.len
      obtain ⟨_, adm, capm, hmv, _, _⟩ := id p4
      by_cases hkl : k < R.length
      · obtain ⟨bs, o, rfl⟩ := hs1.ad (by omega) (by omega)
        have hs2 := hs1.mono p2
        have hel : ∀ L, Cells hk L ⟨bs, o + k * 2, none⟩ (dcs R[k]) := fun L => hs2.elem dcs_len k hkl
        have hrd := hRr _ (List.getElem_mem hkl)
        have htk : R.take (k + 1) = R.take k ++ [R[k]] := List.take_succ_eq_append_getElem hkl
        generalize R[k] = d at hel hrd htk
        obtain ⟨d1, d2, d3, d4⟩ := right_of hrd
        have hcell : ∀ L, Cells hk L ⟨b5, 0, none⟩ (cxc u mv) → CellAt hk L b5 (0 + 0 + (d.1 - 1).toNat * 1) (.int .i64 (uD u d)) := fun L c => ycl c (d.1 - 1).toNat (by omega) (by omega)
        by_cases hdu : d.2 ≤ uD u d
        · repeat' (first|(refine ycf ?_;apply ybk;(·first|(first|exact tk_|(apply yad;(·rfl);(·exact hel _);(·rfl))|(apply yad;(·rfl);(·exact yaz 1 rfl);(·exact ycj hu)))|(apply yae;(·rfl);(·(exact hcell _ (yaz 1 rfl)))));(·rfl);(·rfl))|refine t1_ ?_|(refine ta_ ?_;intro _)|((fail_if_success (refine ybi rfl ?_));refine ybj rfl ?_ ?_<;>(intro ht;rw [ht];first|replace ht := oet_ ht|replace ht := oef_ ht|skip))|(refine ych ?_;first|(refine ybw rfl ?_ ?_<;>intro ht)|(refine ybx rfl ?_ ?_<;>intro ht)))
          refine cx_region_draw' rfl (by kernel_rfl) ?_
          repeat' (refine ycf ?_;(first|(first|(apply ybm;(·(first|(first|exact tk_|(apply yad;(·rfl);(·exact hel _);(·rfl))|(apply yad;(·rfl);(·exact yaz 1 rfl);(·exact ycj hu)))|(apply yae;(·rfl);(·(exact hcell _ (yaz 1 rfl))))|exact tq_));(·rfl);(·rfl);(·(exact th_)))|refine ybl rfl rfl ?_|((fail_if_success (refine ybi rfl ?_));refine ybj rfl ?_ ?_<;>(intro ht;rw [ht];first|replace ht := oet_ ht|replace ht := oef_ ht|skip))|(refine tb_ ?_ ?_ ?_;(·(exact to_));(·intro _;(exact to_));intro _)|(first|(refine tqs_ ?_ ?_ ?_;(·(exact to_));(·(exact to_))))|(apply ybn;(·(first|(first|exact tk_|(apply yad;(·rfl);(·exact hel _);(·rfl))|(apply yad;(·rfl);(·exact yaz 1 rfl);(·exact ycj hu)))|(apply yae;(·rfl);(·(exact hcell _ (yaz 1 rfl))))|exact tq_));(·rfl);(·rfl);(·rfl);(·(exact to_))))|refine ycg ?_))
          repeat' (first|(refine ycf ?_;apply ybk;(·first|(first|exact tk_|(apply yad;(·rfl);(·exact hel _);(·rfl))|(apply yad;(·rfl);(·exact yaz 1 rfl);(·exact ycj hu)))|(apply yae;(·rfl);(·(exact hcell _ (yaz 1 rfl)))));(·rfl);(·rfl))|refine t1_ ?_|(refine ta_ ?_;intro _)|((fail_if_success (refine ybi rfl ?_));refine ybj rfl ?_ ?_<;>(intro ht;rw [ht];first|replace ht := oet_ ht|replace ht := oef_ ht|skip))|(refine ych ?_;first|(refine ybw rfl ?_ ?_<;>intro ht)|(refine ybx rfl ?_ ?_<;>intro ht)))
          refine nx_round (k + 1, hk, u, mv, m) ⟨by show k + 1 ≤ _; omega, p2, p3, p4, ⟨p5, by show m.length ≤ k + 1; omega⟩, fun x hx => ?_⟩ (by show R.length - (k + 1) < R.length - k; omega) ts_ (fun _ s => s.tl)
          dsimp only
          rw [htk, p6 x hx]
          by_cases hxd : x = d
          · subst hxd
            have h1 := p6 x hx
            have h2 : hasC u m x = true := by unfold hasC; simp [hdu]
            rw [h2] at h1
            rw [← h1]
            simp
          · simp [hxd]
        · have AA := Add_any (cxv u mv) u m d hk ⟨hu, mv, rfl, p4⟩ p3 p5 hrd
          repeat' (first|(refine ycf ?_;apply ybk;(·first|(first|exact tk_|(apply yad;(·rfl);(·exact hel _);(·rfl))|(apply yad;(·rfl);(·exact yaz 1 rfl);(·exact ycj hu)))|(apply yae;(·rfl);(·(exact hcell _ (yaz 1 rfl)))));(·rfl);(·rfl))|refine t1_ ?_|(refine ta_ ?_;intro _)|((fail_if_success (refine ybi rfl ?_));refine ybj rfl ?_ ?_<;>(intro ht;rw [ht];first|replace ht := oet_ ht|replace ht := oef_ ht|skip))|(refine ych ?_;first|(refine ybw rfl ?_ ?_<;>intro ht)|(refine ybx rfl ?_ ?_<;>intro ht)))
          refine cx_region_draw' rfl (by kernel_rfl) ?_
          repeat' (refine ycf ?_;(first|(first|(apply ybm;(·(first|(first|exact tk_|(apply yad;(·rfl);(·exact hel _);(·rfl))|(apply yad;(·rfl);(·exact yaz 1 rfl);(·exact ycj hu)))|(apply yae;(·rfl);(·(exact hcell _ (yaz 1 rfl))))|exact tq_));(·rfl);(·rfl);(·(exact th_)))|refine ybl rfl rfl ?_|((fail_if_success (refine ybi rfl ?_));refine ybj rfl ?_ ?_<;>(intro ht;rw [ht];first|replace ht := oet_ ht|replace ht := oef_ ht|skip))|(refine tb_ ?_ ?_ ?_;(·(exact to_));(·intro _;(exact to_));intro _)|(first|(refine tqs_ ?_ ?_ ?_;(·(exact to_));(·(exact to_))))|(apply ybn;(·(first|(first|exact tk_|(apply yad;(·rfl);(·exact hel _);(·rfl))|(apply yad;(·rfl);(·exact yaz 1 rfl);(·exact ycj hu)))|(apply yae;(·rfl);(·(exact hcell _ (yaz 1 rfl))))|exact tq_));(·rfl);(·rfl);(·rfl);(·(exact to_))))|refine ycg ?_))
          repeat' (first|(refine ycf ?_;apply ybk;(·first|(first|exact tk_|(apply yad;(·rfl);(·exact hel _);(·rfl))|(apply yad;(·rfl);(·exact yaz 1 rfl);(·exact ycj hu)))|(apply yae;(·rfl);(·(exact hcell _ (yaz 1 rfl)))));(·rfl);(·rfl))|refine t1_ ?_|(refine ta_ ?_;intro _)|((fail_if_success (refine ybi rfl ?_));refine ybj rfl ?_ ?_<;>(intro ht;rw [ht];first|replace ht := oet_ ht|replace ht := oef_ ht|skip))|(refine ych ?_;first|(refine ybw rfl ?_ ?_<;>intro ht)|(refine ybx rfl ?_ ?_<;>intro ht)))
          (refine yco (ycp Tryz.func32 rfl (by kernel_rfl) rfl) (AA) rfl rfl rfl ?_ ?_ ?_; (· (exact to_)); (· intro _ _ hle; (exact to_)); intro x px hle)
          obtain ⟨h3, v3, er, u', m'⟩ := x
          replace hle : Le hk h3 := hle
          obtain ⟨c3, px⟩ := px
          dsimp only at c3 px
          obtain ⟨hu', mv', hv3, s3⟩ := c3
          subst hv3
          obtain ⟨_, adm', capm', hmv', _, _⟩ := id s3
          subst hmv'
          rcases px with ⟨px, q4, u1, m1, q5, q6, q7⟩ | ⟨px, q1, q2, q4, q3⟩
          · subst px
            repeat' (first|(refine ycf ?_;apply ybk;(·first|(first|exact tk_|(apply yad;(·rfl);(·exact hel _);(·rfl))|(apply yad;(·rfl);(·exact yaz 1 rfl);(·exact ycj hu)))|(apply yae;(·rfl);(·(exact hcell _ (yaz 1 rfl)))));(·rfl);(·rfl))|(refine ybg 1 rfl rfl rfl (cxc_sz hu') (cxc_fit' hu' hu) (cxc_one rfl) (ybh (cxc_all' hu' hu)) rfl rfl ?_ ?_ ?_;(·(exact to_));(·(exact to_)))|refine t1_ ?_|(refine ta_ ?_;intro _)|((fail_if_success (refine ybi rfl ?_));refine ybj rfl ?_ ?_<;>(intro ht;rw [ht];first|replace ht := oet_ ht|replace ht := oef_ ht|skip))|(refine ych ?_;first|(refine ybw rfl ?_ ?_<;>intro ht)|(refine ybx rfl ?_ ?_<;>intro ht)))
            refine nx_ret2 rfl (rv_cells rfl (yaz 2 rfl) rfl) (rv_tmp rfl) (fun w' s' => ⟨(h3, cxv zeroU (.slice none 0 0), zeroU, [], 11), rfl, s'.nil, ⟨rfl, _, rfl, Sc.nil h3 2 none 0⟩, ?_⟩)
            unfold SeenR
            rw [if_neg (by rw [hz]; decide)]
            refine .inl ⟨rfl, rfl, rfl, ?_, fun UU TT hI hA => ?_⟩
            rotate_left
            · refine Nat.lt_of_lt_of_le q6 (more_mono (U0 := U) (k := k + 1) hsrt hRr q5 hI (fun x hx => ?_) (fun x hx => ?_))
              · rw [q7 x hx, p6 x hx, htk]
                simp [Bool.or_assoc]
              · rw [hA x hx, ← hUeq]
                exact (seen_eq hperm' x hx).symm
            have e1 := hperm'.length_eq
            have e2 : dotS l l.length = (l.map Sb.a).flatMap fun s => s.1 :: s.2.2.1 := by
              unfold dotS
              rw [List.take_length, List.flatMap_map]
              rfl
            rw [← e2, ← e1]
            omega
          · subst px
            repeat' (first|(refine ycf ?_;apply ybk;(·first|(first|exact tk_|(apply yad;(·rfl);(·exact hel _);(·rfl))|(apply yad;(·rfl);(·exact yaz 1 rfl);(·exact ycj hu)))|(apply yae;(·rfl);(·(exact hcell _ (yaz 1 rfl)))));(·rfl);(·rfl))|(refine ybg 1 rfl rfl rfl (cxc_sz hu') (cxc_fit' hu' hu) (cxc_one rfl) (ybh (cxc_all' hu' hu)) rfl rfl ?_ ?_ ?_;(·(exact to_));(·(exact to_)))|refine t1_ ?_|(refine ta_ ?_;intro _)|((fail_if_success (refine ybi rfl ?_));refine ybj rfl ?_ ?_<;>(intro ht;rw [ht];first|replace ht := oet_ ht|replace ht := oef_ ht|skip))|(refine ych ?_;first|(refine ybw rfl ?_ ?_<;>intro ht)|(refine ybx rfl ?_ ?_<;>intro ht)))
            refine nx_round (k + 1, h3, u', _, m') ⟨by show k + 1 ≤ _; omega, p2.trans hle, q1, s3, ⟨q2, by show m'.length ≤ k + 1; omega⟩, fun x hx => ?_⟩ (by show R.length - (k + 1) < R.length - k; omega) ts_ (fun _ s => s.tl)
            dsimp only
            rw [htk, q3 x hx, p6 x hx]
            simp [Bool.or_assoc]
      · have ek : k = R.length := by omega
        subst ek
        rw [List.take_length] at p6
        subst hmv
        repeat' (first|(refine ycf ?_;apply ybk;(·first|(first|exact tk_|(apply yad;(·rfl);(·exact yaz 0 rfl);(·exact ycj hu))));(·rfl);(·rfl))|(refine ybg 1 rfl rfl rfl (cxc_sz hu) (cxc_fit hu) (cxc_one rfl) (ybh (cxc_all hu)) rfl rfl ?_ ?_ ?_;(·(exact to_));(·(exact to_)))|refine t1_ ?_|(refine ta_ ?_;intro _)|((fail_if_success (refine ybi rfl ?_));refine ybj rfl ?_ ?_<;>(intro ht;rw [ht];first|replace ht := oet_ ht|replace ht := oef_ ht|skip))|(refine ych ?_;first|(refine ybw rfl ?_ ?_<;>intro ht)|(refine ybx rfl ?_ ?_<;>intro ht)))
        refine nx_ret2 rfl (rv_cells rfl (yaz 1 rfl) (cxc_all hu)) (rv_tmp rfl) (fun w' s' => ⟨(hk, cxv u (.slice adm m.length capm), u, m, 0), rfl, s'.nil, ⟨hu, _, rfl, p4⟩, ?_⟩)
        unfold SeenR
        rw [if_neg (by rw [hz]; decide)]
        refine .inr ⟨rfl, p3, p5, fun x hx => ?_⟩
        rw [p6 x hx, ← hUeq]
        exact seen_eq hperm' x hx
  · repeat' (first|(refine ycf ?_;apply ybk;(·first|(first|exact tk_|(apply yad;(·rfl);(·exact yaz 0 rfl);(·exact ycj hu))));(·rfl);(·rfl))|(refine ybg 1 rfl rfl rfl (cxc_sz hu) (cxc_fit hu) (cxc_one rfl) (ybh (cxc_all hu)) rfl rfl ?_ ?_ ?_;(·(exact to_));(·(exact to_)))|refine t1_ ?_|(refine ta_ ?_;intro _)|((fail_if_success (refine ybi rfl ?_));refine ybj rfl ?_ ?_<;>(intro ht;rw [ht];first|replace ht := oet_ ht|replace ht := oef_ ht|skip))|(refine ych ?_;first|(refine ybw rfl ?_ ?_<;>intro ht)|(refine ybx rfl ?_ ?_<;>intro ht)))
    (refine ycn (ycp Tryz.func12 rfl (by kernel_rfl) rfl) (CA) rfl rfl rfl ?_ ?_; (· (exact to_)))
    repeat' (first|(refine ycf ?_;apply ybk;(·first|(first|exact tk_|(apply yad;(·rfl);(·exact yaz 0 rfl);(·exact ycj hu))));(·rfl);(·rfl))|(refine ybg 1 rfl rfl rfl (cxc_sz hu) (cxc_fit hu) (cxc_one rfl) (ybh (cxc_all hu)) rfl rfl ?_ ?_ ?_;(·(exact to_));(·(exact to_)))|refine t1_ ?_|(refine ta_ ?_;intro _)|((fail_if_success (refine ybi rfl ?_));refine ybj rfl ?_ ?_<;>(intro ht;rw [ht];first|replace ht := oet_ ht|replace ht := oef_ ht|skip))|(refine ych ?_;first|(refine ybw rfl ?_ ?_<;>intro ht)|(refine ybx rfl ?_ ?_<;>intro ht)))
    refine nx_ret2 rfl (rv_cells rfl (yaz 0 rfl) rfl) (rv_tmp rfl) (fun w' s' => ⟨(h, cxv zeroU (.slice none 0 0), zeroU, [], checkA (l.map Sb.a)), rfl, s'.nil, ⟨rfl, _, rfl, Sc.nil h 2 none 0⟩, ?_⟩)
    unfold SeenR
    rw [if_pos hz]
    exact ⟨rfl, rfl, rfl⟩
end Go.Proofs.YtkkjppeaaicgaaaGreatDoor
end

section
namespace Go.Proofs.YtkkjppeaaicgaaaGreatDoor
open Go Go.Ck
set_option maxRecDepth 100000
set_option maxHeartbeats 4000000
set_option linter.unusedVariables false
section
variable {P : Program} {n : Nat} {K : Bs} {F : List (Nat × Value)} {h : View} {L : List Res} {Q : Exit → Act → World → Prop}
variable {dst : Option Nat} {ty : Nat} {pos : String} {af : Array Edge} {gd : Option (Nat × Bool)}
theorem bytes_at {l : List Int} (hb : Bytes l) (cap : Nat) (j : Nat) (u : Value) (hj : (bcs l)[j]? = some u) : (bytesRow (bstr l) cap)[j]? = some u := by
  have hjl : j < l.length := by
    have := (List.getElem?_eq_some_iff.1 hj).1
    rwa [bcs_len] at this
  have hs : j < (bstr l).data.size := by simp [bstr, hjl]
  rw [bytesRow_at _ _ _ hs, ← hj]
  have hc := hb l[j] (List.getElem_mem hjl)
  have e1 : (bcs l)[j]? = some (.int .u8 l[j]) := by simp [bcs, hjl]
  rw [e1]
  have e2 : (bstr l).data[j] = UInt8.ofNat l[j].toNat := by simp [bstr]
  rw [e2]
  congr 2
  simp
  omega
theorem rx_bytes_of {g : Rg} {i : Nat} {r : List (Nat × Oper)} {S D e : Nat} {x : Operand} {l : List Int} [tS : TyU P S .string] [tD : TyU P D (.slice e)] [te : TyU P e (.int .u8)] (hA : K.A = []) (hx : ev F x = some (.string (bstr l))) (hb : Bytes l)
    (hw : wantedF g.ops F ⟨dst, .convert S D x, ty, pos, af, gd⟩ = some true) (hd : okd n dst = true) (hl : g.lo i = true) (o1 : Owe g i h L) (o2 : ∀ h', Le h h' → Owe g i h' L)
    (hn : ∀ h' v, Le h h' → Bs8 h' v l → RX P n K g r (putF dst v F) h' L Q) : RX P n K g ((i, ⟨dst, .convert S D x, ty, pos, af, gd⟩) :: r) F h L Q := by
  unfold RX at *
  intro a w f s
  have hrun := run_bytes_of_string (P := P) w S D e (bstr l) tS.u tD.u te.u
  obtain ⟨cap, hcap⟩ : ∃ cap, cap = grownCap w (bstr l).size 0 e := ⟨_, rfl⟩
  have hge : (bstr l).size ≤ cap := by rw [hcap]; exact grownCap_ge ..
  rw [← hcap] at hrun
  have s1 := s.drew.alloc (.cells (bytesRow (bstr l) cap) e ((bytesRow (bstr l) cap).size, (bytesRow (bstr l) cap).size + 1))
  have hnone : h w.heap.size = none := s1.dis _ (by rw [doms_cons]; exact List.mem_append_left _ (List.mem_singleton.2 rfl))
  have s2 := s1.persist hA
  have hle := Le.addV (o := .cells (bytesRow (bstr l) cap) e ((bytesRow (bstr l) cap).size, (bytesRow (bstr l) cap).size + 1)) hnone
  refine .inr (.inr ⟨wantedF_ok f hw, hl, o1.out s, ?_⟩)
  unfold Oper.wp
  have he : (execOp a.eval ⟨dst, .convert S D x, ty, pos, af, gd⟩).run P w = .ok (.value (.slice (some ⟨w.heap.size, 0, none⟩) (bstr l).size cap)) (w.drew.alloc (.cells (bytesRow (bstr l) cap) e ((bytesRow (bstr l) cap).size, (bytesRow (bstr l) cap).size + 1))) := by
    simp only [execOp, f.ev hx, Sem.run_bind, hrun]
    rfl
  rw [he]
  refine ⟨(o2 _ hle).out s2, hn _ _ hle ?_ _ _ (f.put hd _) s2⟩
  refine ⟨by rw [bcs_len]; simp, some ⟨w.heap.size, 0, none⟩, cap, by rw [bstr_size], by rwa [bstr_size] at hge, .inr ⟨w.heap.size, 0, _, _, _, rfl, addV_same, fun j u hj => ?_⟩⟩
  rw [Nat.zero_add]
  exact bytes_at hb cap j u hj
end
structure Rv (h : View) (s : Sb) : Prop where
  ds : Ds h s.mv s.l
  bs : s.bv = .string (bstr s.b)
  by8 : Bytes s.b
theorem Rv.mono {h h' : View} {s : Sb} (v : Rv h s) (hl : Le h h') : Rv h' s := ⟨v.ds.mono hl, v.bs, v.by8⟩
theorem Rv.one {h : View} {s : Sb} (v : Rv h s) : s.mv.oneCell' = true ∧ s.bv.oneCell' = true := by
  obtain ⟨_, _, _, e1, _⟩ := v.ds
  rw [e1, v.bs]
  exact ⟨rfl, rfl⟩
def Rs (h : View) (v : Value) (l : List Sb) : Prop := Sc h 20 v l.length (l.flatMap sbc) ∧ ∀ s ∈ l, Rv h s
theorem Rs.mono {h h' : View} {v : Value} {l : List Sb} (s : Rs h v l) (hl : Le h h') : Rs h' v l := ⟨s.1.mono hl, fun x hx => (s.2 x hx).mono hl⟩
end Go.Proofs.YtkkjppeaaicgaaaGreatDoor
end
