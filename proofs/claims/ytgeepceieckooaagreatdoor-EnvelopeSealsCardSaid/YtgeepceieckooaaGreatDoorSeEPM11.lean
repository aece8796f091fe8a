/-
  Part 11 of a proof: CkFloat CkFlo CkFlX VrC CiB EvA EvE.
  Conditions: each theorem states its own.
-/
import Derived.Test.YtgeepceieckooaaGreatDoorSeEPM10
set_option maxRecDepth 100000
set_option linter.unusedVariables false
set_option linter.unusedSimpArgs false
section
namespace Go.Ck
open Go
section
variable {P : Program} {ops : Array Oper} {S : World → Prop} {lo bar : Nat → Bool} {fl : Nat → Bool}
def wpG (P : Program) (ops : Array Oper) (S : World → Prop) (lo bar fl : Nat → Bool) (Q : Act → World → Prop) : Nat → List (Nat × Oper) → Act → World → Prop
  | _, [], a, w => Q a w
  | 0, _ :: _, _, _ => False
  | n + 1, (i, o) :: r, a, w => R1 P ops S (lo i) (bar i) o (wpG P ops S lo bar fl Q n r) a w ∧
      (lo i = true → ∀ l1 y oy l2, r = l1 ++ (y, oy) :: l2 → fl y = true → R1 P ops S (lo y) (bar y) oy (wpG P ops S lo bar fl Q n ((i, o) :: (l1 ++ l2))) a w)
theorem R1_all {b : Bool} {o : Oper} {ι : Prop} {κ : Type} {K : Act → World → Prop} {K' : κ → Act → World → Prop} {a : Act} {w : World} (h1 : R1 P ops S false b o K a w) (h2 : ι → ∀ x, R1 P ops S false b o (K' x) a w) :
    R1 P ops S false b o (fun a w => K a w ∧ (ι → ∀ x, K' x a w)) a w := by
  rcases h1 with ⟨h0, hk⟩ | ⟨h0, hS, v, hv, hk⟩ | ⟨_, hl, _⟩
  · refine .inl ⟨h0, hk, fun hi x => ?_⟩
    rcases h2 hi x with ⟨_, k⟩ | ⟨g0, _⟩ | ⟨_, hl, _⟩
    · exact k
    · rw [h0] at g0; cases g0
    · cases hl
  · refine .inr (.inl ⟨h0, hS, v, hv, hk, fun hi x => ?_⟩)
    rcases h2 hi x with ⟨g0, _⟩ | ⟨_, gS, v', hv', k⟩ | ⟨_, hl, _⟩
    · rw [h0] at g0; cases g0
    · have e1 := (hv w hS).symm.trans (hv' w gS)
      have e2 : v = v' := by
        simp only [Result.ok.injEq, and_true] at e1
        cases e1; rfl
      rw [e2]; exact k
    · cases hl
  · cases hl
def Pass (ops : Array Oper) (lo bar : Nat → Bool) (p : Nat × Oper) (i : Nat) (o : Oper) : Prop :=
  p.2.apart ops o = true ∧ (lo i && lo p.1) = false ∧ bar i = false ∧ bar p.1 = false ∧ (∀ cs b, o.op ≠ .select cs b) ∧ (∀ cs b, p.2.op ≠ .select cs b)
theorem Pass.swap {p : Nat × Oper} {i : Nat} {o : Oper} (h : Pass ops lo bar p i o) {K : Act → World → Prop} {a : Act} {w : World}
    (hr : R1 P ops S (lo p.1) (bar p.1) p.2 (fun a w => R1 P ops S (lo i) (bar i) o K a w) a w) : R1 P ops S (lo i) (bar i) o (fun a w => R1 P ops S (lo p.1) (bar p.1) p.2 K a w) a w := by
  obtain ⟨e1, e2, e3, e4, e5, e6⟩ := h
  exact Ck.swap e1 e5 e6 e2 e3 e4 hr
theorem bringX {Q : Act → World → Prop} {i : Nat} {o : Oper} : ∀ (l1 l2 : List (Nat × Oper)) (n : Nat), (l1 ++ (i, o) :: l2).length = n + 1 → (∀ p ∈ l1, (lo p.1 = false ∧ Pass ops lo bar p i o) ∨ (lo p.1 = true ∧ fl i = true)) →
    ∀ a w, wpG P ops S lo bar fl Q (n + 1) (l1 ++ (i, o) :: l2) a w → R1 P ops S (lo i) (bar i) o (wpG P ops S lo bar fl Q n (l1 ++ l2)) a w
  | [], l2, n, hl, _, a, w, h => h.1
  | (j, oj) :: l1, l2, n, hl, hp, a, w, h => by
    rcases hp (j, oj) (List.mem_cons_self ..) with ⟨hq, hps⟩ | ⟨hq, hfl⟩
    · obtain ⟨m, rfl⟩ : ∃ m, n = m + 1 := ⟨n - 1, by simp at hl; omega⟩
      have h1 := R1.mono (fun a w h => bringX l1 l2 m (by simp at hl ⊢; omega) (fun p hm => hp p (List.mem_cons_of_mem _ hm)) a w h) h.1
      refine R1.mono (fun a' w' h' => ?_) (hps.swap h1)
      exact ⟨h', fun hlo => (by rw [hq] at hlo; cases hlo)⟩
    · exact h.2 hq l1 i o l2 rfl hfl
theorem bringQ {Q : Act → World → Prop} {i : Nat} {o : Oper} (hi : lo i = false) (hif : fl i = false) : ∀ (n : Nat) (l1 l2 : List (Nat × Oper)), (l1 ++ (i, o) :: l2).length = n + 1 → (∀ p ∈ l1, Pass ops lo bar p i o) → (∀ p ∈ l1 ++ l2, fl p.1 = true → Pass ops lo bar p i o) →
    ∀ a w, wpG P ops S lo bar fl Q (n + 1) (l1 ++ (i, o) :: l2) a w → R1 P ops S (lo i) (bar i) o (wpG P ops S lo bar fl Q n (l1 ++ l2)) a w := by
  intro n
  induction n with
  | zero =>
    intro l1 l2 hl hp hf a w h
    cases l1 with
    | nil => exact h.1
    | cons p l1 => simp at hl
  | succ m ih =>
    intro l1 l2 hl hp hf a w h
    cases l1 with
    | nil => exact h.1
    | cons p l1 =>
      obtain ⟨j, oj⟩ := p
      have hps := hp (j, oj) (List.mem_cons_self ..)
      have h1 := R1.mono (fun a w h => ih l1 l2 (by simp at hl ⊢; omega) (fun p hm => hp p (List.mem_cons_of_mem _ hm)) (fun p hm => hf p (List.mem_cons_of_mem _ hm)) a w h) h.1
      have h1' := hps.swap h1
      have h2 : lo j = true → ∀ (x : List (Nat × Oper) × Nat × Oper × List (Nat × Oper)), R1 P ops S (lo i) (bar i) o (fun a w => l1 ++ l2 = x.1 ++ (x.2.1, x.2.2.1) :: x.2.2.2 → fl x.2.1 = true → R1 P ops S (lo x.2.1) (bar x.2.1) x.2.2.1 (wpG P ops S lo bar fl Q m ((j, oj) :: (x.1 ++ x.2.2.2))) a w) a w := by
        rintro hlo ⟨k1, y, oy, k2⟩
        dsimp only
        by_cases hc : l1 ++ l2 = k1 ++ (y, oy) :: k2 ∧ fl y = true
        · obtain ⟨he, hy⟩ := hc
          have hym : (y, oy) ∈ l1 ++ l2 := by rw [he]; simp
          have hpy := hf (y, oy) (List.mem_cons_of_mem _ hym) hy
          have key : ∃ m1 m2 n1 n2, l1 ++ (i, o) :: l2 = m1 ++ (y, oy) :: m2 ∧ m1 ++ m2 = n1 ++ (i, o) :: n2 ∧ n1 ++ n2 = k1 ++ k2 ∧ (∀ p ∈ n1, p ∈ l1) := by
            rcases List.append_eq_append_iff.1 he with ⟨t, e1, e2⟩ | ⟨t, e1, e2⟩
            · exact ⟨l1 ++ (i, o) :: t, k2, l1, t ++ k2, by rw [e2]; simp, by simp, by rw [e1]; simp, fun p h => h⟩
            · cases t with
              | nil =>
                simp only [List.append_nil, List.nil_append] at e1 e2
                exact ⟨l1 ++ [(i, o)], k2, l1, k2, by rw [← e2]; simp, by simp, by rw [e1], fun p h => h⟩
              | cons z t =>
                simp only [List.cons_append, List.cons.injEq] at e2
                obtain ⟨rfl, e2⟩ := e2
                exact ⟨k1, t ++ (i, o) :: l2, k1 ++ t, l2, by rw [e1]; simp, by simp, by rw [e2]; simp, fun p h => by
                  rw [e1]
                  rcases List.mem_append.1 h with h | h
                  · exact List.mem_append_left _ h
                  · exact List.mem_append_right _ (List.mem_cons_of_mem _ h)⟩
          obtain ⟨m1, m2, n1, n2, e1, e2, e3, e4⟩ := key
          have hmem : ∀ p ∈ n1 ++ n2, p ∈ l1 ++ l2 := fun p hp' => by
            rw [e3] at hp'
            rw [he]
            rcases List.mem_append.1 hp' with h | h
            · exact List.mem_append_left _ h
            · exact List.mem_append_right _ (List.mem_cons_of_mem _ h)
          have hlen : (m1 ++ m2).length = (l1 ++ l2).length := by
            have := congrArg List.length e1
            simp at this ⊢; omega
          have hlen2 : (n1 ++ n2).length + 1 = (l1 ++ l2).length := by
            have := congrArg List.length e2
            simp at this hlen ⊢; omega
          have h3 := h.2 hlo m1 y oy m2 e1 hy
          rw [e2] at h3
          have h4 := R1.mono (fun a w h => ih ((j, oj) :: n1) n2 (by simp at hl hlen2 ⊢; omega) (fun p hm => by
            rcases List.mem_cons.1 hm with rfl | hm
            · exact hps
            · exact hp p (List.mem_cons_of_mem _ (e4 p hm))) (fun p hm hfp => by
            rcases List.mem_cons.1 hm with rfl | hm
            · exact hps
            · exact hf p (List.mem_cons_of_mem _ (hmem p hm)) hfp) a w h) h3
          have h5 := hpy.swap h4
          refine R1.mono (fun a' w' h' _ _ => ?_) h5
          have e5 : (j, oj) :: n1 ++ n2 = (j, oj) :: (k1 ++ k2) := by rw [← e3]; rfl
          rw [e5] at h'
          exact h'
        · refine R1.mono (fun a' w' _ e1 e2 => absurd ⟨e1, e2⟩ hc) h1'
      rw [hi] at h1' h2 ⊢
      refine R1.mono (fun a' w' h' => ?_) (R1_all h1' h2)
      exact ⟨h'.1, fun hlo k1 y oy k2 he hy => h'.2 hlo (k1, y, oy, k2) he hy⟩
theorem wpG_plain {Q : Act → World → Prop} : ∀ (l : List (Nat × Oper)), (∀ p ∈ l, fl p.1 = false) → ∀ a w, wpX P ops S lo bar Q l a w → wpG P ops S lo bar fl Q l.length l a w
  | [], _, a, w, h => h
  | (i, o) :: l, hf, a, w, h => ⟨R1.mono (fun a w h => wpG_plain l (fun p hp => hf p (List.mem_cons_of_mem _ hp)) a w h) h, fun _ l1 y oy l2 he hy => by
    have := hf (y, oy) (List.mem_cons_of_mem _ (by rw [he]; simp))
    rw [this] at hy; cases hy⟩
section
variable {ms : List Nat} {rk : Nat → Nat}
theorem float_any {Q : Exit → Act → World → Prop} (hB : lexOkR ops ms lo bar rk (fun j i => lo j && fl i) = true)
    (hF : ∀ i o y oy, ops[i]? = some o → ops[y]? = some oy → lo i = false → fl y = true → (∃ j, j < ops.size ∧ lo j = true ∧ rk j < rk i) → Pass ops lo bar (y, oy) i o) :
    ∀ (fuel : Nat) (prs : List (Nat × Oper)) (listed : Array Bool) (a : Act) (w : World), prs.length ≤ fuel → InvR ops rk listed prs →
      wpG P ops S lo bar fl (Q .normal) prs.length prs a w → wpAny P .any ops Q fuel listed a w := by
  intro fuel
  induction fuel with
  | zero =>
    intro prs listed a w hl inv h
    have : prs = [] := List.eq_nil_of_length_eq_zero (by omega)
    subst this
    refine ⟨?_, h⟩
    cases hr : Region.ready .any ops listed with
    | nil => rfl
    | cons i r =>
      have hi : i ∈ Region.ready .any ops listed := by rw [hr]; exact List.mem_cons_self ..
      obtain ⟨hun, o, ho, _⟩ := mem_ready.1 hi
      obtain ⟨_, hm2⟩ := (inv.left i (Array.getElem?_eq_some_iff.1 ho).1).1 hun
      cases hm2
  | succ fuel ih =>
    intro prs listed a w hl inv h
    refine ⟨fun hr => by rw [headR hB prs listed inv hr] at h; exact h, fun i hi => ?_⟩
    obtain ⟨hun, o, ho, hall⟩ := mem_ready.1 hi
    have hlt := (Array.getElem?_eq_some_iff.1 ho).1
    obtain ⟨o', hm2⟩ := (inv.left i hlt).1 hun
    have : o' = o := by have := inv.pr _ hm2; rw [ho] at this; cases this; rfl
    subst this
    obtain ⟨l1, l2, rfl⟩ := List.append_of_mem hm2
    have hs := inv.sorted
    rw [List.pairwise_append] at hs
    have hlen : (l1 ++ (i, o') :: l2).length = (l1 ++ l2).length + 1 := by simp; omega
    rw [hlen] at h
    have hpass : ∀ p ∈ l1, (lo p.1 && fl i) = false → Pass ops lo bar p i o' := fun p hp hx => passR hB inv ho hi (List.mem_append_left _ hp) (hs.2.2 p hp (i, o') (List.mem_cons_self ..)) hx
    have hb : R1 P ops S (lo i) (bar i) o' (wpG P ops S lo bar fl (Q .normal) (l1 ++ l2).length (l1 ++ l2)) a w := by
      by_cases hfi : fl i = true
      · refine bringX l1 l2 _ hlen (fun p hp => ?_) a w h
        cases hlp : lo p.1 with
        | false => exact .inl ⟨rfl, hpass p hp (by rw [hlp]; rfl)⟩
        | true => exact .inr ⟨rfl, hfi⟩
      · have hfi : fl i = false := by simpa using hfi
        have hpass' : ∀ p ∈ l1, Pass ops lo bar p i o' := fun p hp => hpass p hp (by rw [hfi, Bool.and_false])
        cases hli : lo i with
        | true =>
          rw [← hli]
          refine bringX l1 l2 _ hlen (fun p hp => .inl ⟨?_, hpass' p hp⟩) a w h
          have := (hpass' p hp).2.1
          rw [hli, Bool.true_and] at this
          exact this
        | false =>
          rw [← hli]
          by_cases hloud : ∃ p ∈ l1, lo p.1 = true
          rotate_left
          · refine bringX l1 l2 _ hlen (fun p hp => .inl ⟨?_, hpass' p hp⟩) a w h
            cases hlp : lo p.1 with
            | false => rfl
            | true => exact absurd ⟨p, hp, hlp⟩ hloud
          refine bringQ hli hfi _ l1 l2 hlen hpass' (fun p hp hfp => ?_) a w h
          have hpm : p ∈ l1 ++ (i, o') :: l2 := by
            rcases List.mem_append.1 hp with hp | hp
            · exact List.mem_append_left _ hp
            · exact List.mem_append_right _ (List.mem_cons_of_mem _ hp)
          obtain ⟨pl, hpl, hpl2⟩ := hloud
          have hplo := inv.pr pl (List.mem_append_left _ hpl)
          exact hF i o' p.1 p.2 ho (inv.pr p hpm) hli hfp ⟨pl.1, (Array.getElem?_eq_some_iff.1 hplo).1, hpl2, hs.2.2 pl hpl (i, o') (List.mem_cons_self ..)⟩
    exact (R1.mono (fun a' w' h' => ih (l1 ++ l2) (listed.setIfInBounds i true) a' w' (by simp at hl ⊢; omega) (inv.step hi) h') hb).op ho
end
def flOk (ops : Array Oper) (lo bar fl : Nat → Bool) (rk : Nat → Nat) : Bool :=
  (List.range ops.size).all fun y => !fl y || (!bar y && lo y && (List.range ops.size).all fun i => lo i || ((List.range ops.size).all fun j => !lo j || !decide (rk j < rk i)) || (!bar i && match ops[y]?, ops[i]? with
    | some oy, some oi => oy.apart ops oi
    | _, _ => true))
def floatOk (ops : Array Oper) (ord : List Nat) (fl : Nat → Bool) : Bool :=
  lexOkR ops (masks ops) (loOf ops) (barOf ops) (rkOf ord) (fun j i => loOf ops j && fl i) && flOk ops (loOf ops) (barOf ops) fl (rkOf ord) &&
  ((List.range ops.size).all fun i => ord.contains i) && ord.length == ops.size && (ord.all fun i => decide (i < ops.size)) && decide (ord.Pairwise fun i j => rkOf ord i < rkOf ord j)
theorem wp_region_float {id : Nat} {Q : Exit → Act → World → Prop} {a : Act} {w : World} (ord : List Nat) (fl : Nat → Bool) (hm : P.follows .mixedOrders = true) (hB : floatOk ops ord fl = true)
    (h : wpG P ops S (loOf ops) (barOf ops) fl (Q .normal) (pickL ops.toList ord).length (pickL ops.toList ord) a w.drew) : (Code.region id ops true).wp P Q a w := by
  simp only [floatOk, Bool.and_eq_true] at hB
  obtain ⟨⟨⟨⟨⟨b1, b2⟩, b3⟩, b4⟩, b5⟩, b6⟩ := hB
  have b4 : ord.length = ops.size := by simpa using b4
  have b6 := oet_ b6
  refine wp_region_any hm (float_any (rk := rkOf ord) b1 (fun i o y oy hi hy hli hfy hlj => ?_) _ (pickL ops.toList ord) _ a _ ?_ ⟨?_, ?_, ?_, ?_, ?_⟩ h)
  · have hil := (Array.getElem?_eq_some_iff.1 hi).1
    have hyl := (Array.getElem?_eq_some_iff.1 hy).1
    have h1 := List.all_eq_true.1 b2 y (List.mem_range.2 hyl)
    simp only [hfy, Bool.not_true, Bool.false_or, Bool.and_eq_true] at h1
    have h2 := List.all_eq_true.1 h1.2 i (List.mem_range.2 hil)
    obtain ⟨j, hj1, hj2, hj3⟩ := hlj
    have hnot : ((List.range ops.size).all fun j => !loOf ops j || !decide (rkOf ord j < rkOf ord i)) = false := by
      rw [List.all_eq_false]
      exact ⟨j, List.mem_range.2 hj1, by simp [hj2, hj3]⟩
    simp only [hli, hnot, Bool.false_or, hi, hy, Bool.and_eq_true] at h2
    have hsel := lexOkR_sel b1
    exact ⟨h2.2, by rw [hli]; rfl, by simpa using h2.1, by simpa using h1.1.1, fun cs b => Region.noSelect_spec hsel i o cs b hi, fun cs b => Region.noSelect_spec hsel y oy cs b hy⟩
  · rw [pickL_length]; omega
  · intro p hp
    obtain ⟨h1, h2⟩ := pickL_mem.1 hp
    have hlt : p.1 < ops.size := by simpa using List.all_eq_true.1 b5 _ h1
    have := nthO_ok ops.toList p.1 (by simpa using hlt)
    rw [h2]; simpa using this
  · exact pickL_pair b6
  · intro i hi
    simp only [Array.getD_eq_getD_getElem?, Array.getElem?_replicate, hi, if_true, Option.getD_some, true_iff]
    have := List.all_eq_true.1 b3 i (List.mem_range.2 hi)
    exact ⟨nthO ops.toList i, (pickL_mem (p := (i, nthO ops.toList i))).2 ⟨by simpa using this, rfl⟩⟩
  · intro i o ho hl
    simp only [Array.getD_eq_getD_getElem?, Array.getElem?_replicate] at hl
    split at hl <;> simp at hl
  · simp
end
structure Flo where
  i : Nat
  o : Oper
  s : Nat
  f : Nat → Value
  ob : Obj
def FDy (D : List (Flo × Nat)) : List (Nat × Value) := D.map fun p => (p.1.s, p.1.f p.2)
def LDy (D : List (Flo × Nat)) : List Res := D.map fun p => Res.blk p.2 p.1.ob
def prY (ys : List Flo) : List (Nat × Oper) := ys.map fun y => (y.i, y.o)
def flY (Y : List Flo) (i : Nat) : Bool := Y.any fun y => Nat.beq y.i i
section
variable {P : Program} {n : Nat} {K : Bs} {g : Rg} {Y : List Flo} {F : List (Nat × Value)} {h : View} {L : List Res} {Q : Exit → Act → World → Prop}
structure FloOk (P : Program) (n : Nat) (g : Rg) (y : Flo) : Prop where
  dst : y.o.dst = some y.s
  okd : okd n (some y.s) = true
  gd : y.o.guard = none
  lo : g.lo y.i = true
  ma : ∀ F h L, MA P n F h L y.o y.f y.ob
def Fl (Y : List Flo) (D : List (Flo × Nat)) (ys : List Flo) : Prop := (D.map (·.1) ++ ys).Perm Y
theorem lk_mem : ∀ {G : List (Nat × Value)} {s : Nat} {v : Value}, lk G s = some v → (s, v) ∈ G
  | (k, u) :: G, s, v, hh => by
    unfold lk at hh
    cases hk : Nat.beq k s with
    | true =>
      rw [hk] at hh
      have := Nat.eq_of_beq_eq_true hk
      simp only [cond_true, Option.some.injEq] at hh
      rw [this, hh]; exact List.mem_cons_self ..
    | false =>
      rw [hk] at hh
      exact List.mem_cons_of_mem _ (lk_mem hh)
theorem lk_none : ∀ {G : List (Nat × Value)} {s : Nat}, (∀ v, (s, v) ∉ G) → lk G s = none := fun {G s} hn => by
  cases hl : lk G s with
  | none => rfl
  | some v => exact absurd (lk_mem hl) (hn v)
theorem lk_app : ∀ {F G : List (Nat × Value)} {s : Nat}, lk (F ++ G) s = (lk F s).or (lk G s)
  | [], G, s => rfl
  | (k, u) :: F, G, s => by
    show (bif Nat.beq k s then some u else lk (F ++ G) s) = (bif Nat.beq k s then some u else lk F s).or (lk G s)
    cases Nat.beq k s with
    | true => rfl
    | false => exact lk_app
theorem fr_app {F G : List (Nat × Value)} {a : Act} : Fr n (F ++ G) a ↔ Fr n F a ∧ ∀ s v, lk F s = none → lk G s = some v → a.tmps[s]? = some v := by
  constructor
  · intro f
    refine ⟨⟨f.size, f.dfs, fun s v hs => f.get s v (by rw [lk_app, hs]; rfl)⟩, fun s v hn hs => f.get s v (by rw [lk_app, hn, hs]; rfl)⟩
  · rintro ⟨f, hg⟩
    refine ⟨f.size, f.dfs, fun s v hs => ?_⟩
    rw [lk_app] at hs
    cases hl : lk F s with
    | none => rw [hl] at hs; exact hg s v hl hs
    | some u => rw [hl] at hs; exact f.get s v (by rw [hl]; exact hs)
theorem floStep {D : List (Flo × Nat)} {y : Flo} (hy : FloOk P n g y) (fresh : lk (F ++ FDy D) y.s = none) (hO : ∀ D w, Hd h (L ++ LDy D) w → g.S w) {a : Act} {w : World} (f : Fr n (F ++ FDy D) a) (s : St K h (L ++ LDy D) w) {K' : Act → World → Prop}
    (hk : ∀ b a' w', Fr n (F ++ FDy (D ++ [(y, b)])) a' → St K h (L ++ LDy (D ++ [(y, b)])) w' → K' a' w') : R1 P g.ops g.S (g.lo y.i) (g.bar y.i) y.o K' a w := by
  have hw : Region.wanted y.o (yielded g.ops a.tmps) = true := by simp [Region.wanted, hy.gd]
  have hma := hy.ma (F ++ FDy D) h (L ++ LDy D)
  unfold MA at hma
  refine .inr (.inr ⟨hw, hy.lo, .inl (hO D w s.hd), ?_⟩)
  unfold Oper.wp
  rw [hma a w f s.hd]
  have s' := s.alloc y.ob
  have eL : L ++ LDy (D ++ [(y, w.heap.size)]) = (L ++ LDy D) ++ [Res.blk w.heap.size y.ob] := by simp [LDy]
  have s2 : St K h (L ++ LDy (D ++ [(y, w.heap.size)])) (w.alloc y.ob) := by
    rw [eL]
    exact s'.perm (List.perm_append_singleton _ _).symm
  refine ⟨.inl (hO _ _ s2.hd), hk w.heap.size _ _ ?_ s2⟩
  have f' := f.put (dst := some y.s) hy.okd (y.f w.heap.size)
  rw [hy.dst]
  have eF : F ++ FDy (D ++ [(y, w.heap.size)]) = (F ++ FDy D) ++ [(y.s, y.f w.heap.size)] := by simp [FDy]
  rw [eF]
  refine fr_app.2 ⟨⟨f'.size, f'.dfs, fun t v ht => f'.get t v ?_⟩, fun t v hn ht => f'.get t v ?_⟩
  · show (bif Nat.beq y.s t then some _ else lk (F ++ FDy D) t) = some v
    cases hb : Nat.beq y.s t with
    | true =>
      have := Nat.eq_of_beq_eq_true hb
      rw [← this, fresh] at ht; cases ht
    | false => exact ht
  · show (bif Nat.beq y.s t then some _ else lk (F ++ FDy D) t) = some v
    unfold lk at ht
    cases hb : Nat.beq y.s t with
    | true => rw [hb] at ht; exact ht
    | false => rw [hb] at ht; cases ht
theorem fresh_of {D : List (Flo × Nat)} {ys : List Flo} {y : Flo} (hD : Fl Y D ys) (hn : (Y.map (·.s)).Nodup) (hfree : ∀ y ∈ Y, lk F y.s = none) (hy : y ∈ ys) : lk (F ++ FDy D) y.s = none := by
  have hyY : y ∈ Y := hD.mem_iff.1 (List.mem_append_right _ hy)
  rw [lk_app, hfree y hyY, Option.none_or]
  refine lk_none fun v hm => ?_
  obtain ⟨p, hp, he⟩ := List.mem_map.1 hm
  have hn' : ((D.map (·.1) ++ ys).map (·.s)).Nodup := (hD.map _).nodup_iff.2 hn
  rw [List.map_append] at hn'
  have := (List.nodup_append.1 hn').2.2 p.1.s (List.mem_map_of_mem (List.mem_map_of_mem hp)) y.s (List.mem_map_of_mem hy)
  exact this (congrArg Prod.fst he)
theorem split3 {α : Type} {cs m rest l1 l2 : List α} {x : α} (h1 : x ∉ cs) (h2 : x ∉ rest) (he : cs ++ (m ++ rest) = l1 ++ x :: l2) : ∃ m1 m2, m = m1 ++ x :: m2 ∧ l1 = cs ++ m1 ∧ l2 = m2 ++ rest := by
  have inner : ∀ l1', m ++ rest = l1' ++ x :: l2 → ∃ m2, m = l1' ++ x :: m2 ∧ l2 = m2 ++ rest := fun l1' he => by
    rcases List.append_eq_append_iff.1 he with ⟨t, e1, e2⟩ | ⟨t, e1, e2⟩
    · exact absurd (by rw [e2]; simp : x ∈ rest) h2
    · cases t with
      | nil => exact absurd (by simp only [List.nil_append] at e2; rw [← e2]; simp : x ∈ rest) h2
      | cons z t =>
        simp only [List.cons_append, List.cons.injEq] at e2
        obtain ⟨rfl, e2⟩ := e2
        exact ⟨t, e1, e2⟩
  rcases List.append_eq_append_iff.1 he with ⟨t, e1, e2⟩ | ⟨t, e1, e2⟩
  · obtain ⟨m2, q1, q2⟩ := inner t e2
    exact ⟨t, m2, q1, e1, q2⟩
  · cases t with
    | nil =>
      simp only [List.append_nil, List.nil_append] at e1 e2
      obtain ⟨m2, q1, q2⟩ := inner [] (by simpa using e2.symm)
      exact ⟨[], m2, q1, by rw [e1]; simp, q2⟩
    | cons z t =>
      simp only [List.cons_append, List.cons.injEq] at e2
      exact absurd (by rw [e1, e2.1]; simp : x ∈ cs) h1
theorem prY_split {ys : List Flo} {m1 m2 : List (Nat × Oper)} {x : Nat × Oper} (h : prY ys = m1 ++ x :: m2) : ∃ y1 y y2, ys = y1 ++ y :: y2 ∧ prY y1 = m1 ∧ (y.i, y.o) = x ∧ prY y2 = m2 := by
  unfold prY at h
  obtain ⟨y1, y', rfl, h1, h2⟩ := List.map_eq_append_iff.1 h
  obtain ⟨y, y2, rfl, h3, h4⟩ := List.map_eq_cons_iff.1 h2
  exact ⟨y1, y, y2, rfl, h1, h3, h4⟩
def GX (P : Program) (n : Nat) (K : Bs) (g : Rg) (Y : List Flo) (prs : List (Nat × Oper)) (F : List (Nat × Value)) (h : View) (L : List Res) (Q : Exit → Act → World → Prop) : Prop :=
  ∀ a w, Fr n F a → St K h L w → wpG P g.ops g.S g.lo g.bar (flY Y) (Q .normal) prs.length prs a w
def GQ (P : Program) (g : Rg) (Y : List Flo) (prs : List (Nat × Oper)) (Q : Exit → Act → World → Prop) : Exit → Act → World → Prop := fun _ a w =>
  wpG P g.ops g.S g.lo g.bar (flY Y) (Q .normal) prs.length prs a w
theorem gx_step {c : Nat × Oper} {cs rest : List (Nat × Oper)} (hok : ∀ y ∈ Y, FloOk P n g y) (hn : (Y.map (·.s)).Nodup) (hcs' : ((c :: cs ++ rest).all fun p => !flY Y p.1) = true) (hfree' : (Y.all fun y => (lk F y.s).isNone) = true) (hO : ∀ D w, Hd h (L ++ LDy D) w → g.S w)
    (hx : ∀ D ys, Fl Y D ys → RX P n K g [c] (F ++ FDy D) h (L ++ LDy D) (GQ P g Y (cs ++ (prY ys ++ rest)) Q)) :
    ∀ D ys, Fl Y D ys → GX P n K g Y (c :: cs ++ (prY ys ++ rest)) (F ++ FDy D) h (L ++ LDy D) Q := by
  have hcs : ∀ p ∈ c :: cs ++ rest, flY Y p.1 = false := fun p hp => by simpa using List.all_eq_true.1 hcs' p hp
  have hfree : ∀ y ∈ Y, lk F y.s = none := fun y hy => by simpa using List.all_eq_true.1 hfree' y hy
  have key : ∀ m D ys, ys.length = m → Fl Y D ys → GX P n K g Y (c :: cs ++ (prY ys ++ rest)) (F ++ FDy D) h (L ++ LDy D) Q := by
    intro m
    induction m with
    | zero =>
      intro D ys hm hD a w f s
      have h1 := hx D ys hD
      unfold RX at h1
      refine ⟨h1 a w f s, fun _ l1 y oy l2 he hy => ?_⟩
      have : ys = [] := List.eq_nil_of_length_eq_zero hm
      subst this
      exfalso
      have hmem : (y, oy) ∈ cs ++ ([] ++ rest) := by
        have he' : cs ++ (prY [] ++ rest) = l1 ++ (y, oy) :: l2 := he
        show (y, oy) ∈ cs ++ (prY [] ++ rest)
        rw [he']; simp
      have := hcs (y, oy) (by
        simp only [List.nil_append] at hmem
        exact List.mem_cons_of_mem _ hmem)
      rw [this] at hy; cases hy
    | succ m ih =>
      intro D ys hm hD a w f s
      have h1 := hx D ys hD
      unfold RX at h1
      refine ⟨h1 a w f s, fun _ l1 y oy l2 he hy => ?_⟩
      have n1 : (y, oy) ∉ cs := fun hm => by
        have := hcs (y, oy) (List.mem_cons_of_mem _ (List.mem_append_left _ hm))
        rw [this] at hy; cases hy
      have n2 : (y, oy) ∉ rest := fun hm => by
        have := hcs (y, oy) (List.mem_append_right _ hm)
        rw [this] at hy; cases hy
      obtain ⟨m1, m2, e1, rfl, rfl⟩ := split3 n1 n2 he
      obtain ⟨y1, y0, y2, rfl, rfl, e3, rfl⟩ := prY_split e1
      cases e3
      have hyY : y0 ∈ Y := hD.mem_iff.1 (by simp)
      refine floStep (hok y0 hyY) (fresh_of hD hn hfree (by simp)) hO f s fun b a' w' f' s' => ?_
      have hD' : Fl Y (D ++ [(y0, b)]) (y1 ++ y2) := by
        unfold Fl at hD ⊢
        refine List.Perm.trans ?_ hD
        simp only [List.map_append, List.map_cons, List.map_nil, List.append_assoc, List.cons_append, List.nil_append]
        exact List.Perm.append_left _ List.perm_middle.symm
      have := ih (D ++ [(y0, b)]) (y1 ++ y2) (by simp at hm ⊢; omega) hD' a' w' f' s'
      have el : c :: cs ++ (prY (y1 ++ y2) ++ rest) = c :: (cs ++ prY y1 ++ (prY y2 ++ rest)) := by simp [prY]
      rw [el] at this
      have en : (c :: (cs ++ prY y1 ++ (prY y2 ++ rest))).length = (cs ++ (prY (y1 ++ y0 :: y2) ++ rest)).length := by simp [prY]; omega
      rw [en] at this
      exact this
  exact fun D ys hD => key _ D ys rfl hD
theorem MA.cast {o : Oper} {v : Nat → Value} {ob ob' : Obj} (hm : MA P n F h L o v ob) (e : ob = ob') : MA P n F h L o v ob' := by rw [← e]; exact hm
theorem rx_to {g' : Rg} {prs : List (Nat × Oper)} {F' : List (Nat × Value)} {L' : List Res} (hF : Sub F' F) (hL : L = L') (hx : RX P n K g' prs F' h L' Q) : RX P n K g' prs F h L Q := by
  unfold RX at *
  subst hL
  exact fun a w f s => hx a w (f.sub hF) s
theorem gx_with {prs : List (Nat × Oper)} (hok : ∀ y ∈ Y, FloOk P n g y) (hn : (Y.map (·.s)).Nodup) (hx : (∀ y ∈ Y, FloOk P n g y) → (Y.map (·.s)).Nodup → GX P n K g Y prs F h L Q) : GX P n K g Y prs F h L Q := hx hok hn
theorem gx_putn {prs : List (Nat × Oper)} {dst : Option Nat} {v : Value} {D : List (Flo × Nat)} (hx : GX P n K g Y prs (putF dst v F ++ FDy D) h L Q) : NX n K .normal (putF dst v (F ++ FDy D)) h L (GQ P g Y prs Q) := by
  unfold NX
  cases dst <;> exact hx
theorem gx_q {c : Nat × Oper} {r : List (Nat × Oper)} (hlo : g.lo c.1 = false) (hx : RX P n K g [c] F h L (GQ P g Y r Q)) : GX P n K g Y (c :: r) F h L Q := by
  unfold RX at hx
  exact fun a w f s => ⟨hx a w f s, fun hl => (by rw [hlo] at hl; cases hl)⟩
theorem perm_lift {α β : Type} {f : α → β} : ∀ {l m : List β}, l.Perm m → ∀ D : List α, D.map f = l → ∃ D0 : List α, List.Perm D0 D ∧ List.map f D0 = m := by
  intro l m hp
  induction hp with
  | nil => exact fun D hD => ⟨D, List.Perm.refl _, hD⟩
  | cons x _ ih =>
    intro D hD
    obtain ⟨d, D', rfl, rfl, h2⟩ := List.map_eq_cons_iff.1 hD
    obtain ⟨D0, h3, h4⟩ := ih D' h2
    exact ⟨d :: D0, h3.cons d, by simp [h4]⟩
  | swap x y l =>
    intro D hD
    obtain ⟨d, D', rfl, rfl, h2⟩ := List.map_eq_cons_iff.1 hD
    obtain ⟨e, D'', rfl, rfl, rfl⟩ := List.map_eq_cons_iff.1 h2
    exact ⟨e :: d :: D'', List.Perm.swap _ _ _, rfl⟩
  | trans _ _ ih1 ih2 =>
    intro D hD
    obtain ⟨D1, h1, h2⟩ := ih1 D hD
    obtain ⟨D2, h3, h4⟩ := ih2 D1 h2
    exact ⟨D2, h3.trans h1, h4⟩
theorem gx_end {rest : List (Nat × Oper)} (hok : ∀ y ∈ Y, FloOk P n g y) (hn : (Y.map (·.s)).Nodup) (hcs' : (rest.all fun p => !flY Y p.1) = true) (hfree' : (Y.all fun y => (lk F y.s).isNone) = true) (hO : ∀ D w, Hd h (L ++ LDy D) w → g.S w)
    (hx : ∀ D, D.map (·.1) = Y → RX P n K g rest (F ++ FDy D) h (L ++ LDy D) Q) :
    ∀ D ys, Fl Y D ys → GX P n K g Y ([] ++ (prY ys ++ rest)) (F ++ FDy D) h (L ++ LDy D) Q := by
  have hcs : ∀ p ∈ rest, flY Y p.1 = false := fun p hp => by simpa using List.all_eq_true.1 hcs' p hp
  have hfree : ∀ y ∈ Y, lk F y.s = none := fun y hy => by simpa using List.all_eq_true.1 hfree' y hy
  have key : ∀ m D ys, ys.length = m → Fl Y D ys → GX P n K g Y (prY ys ++ rest) (F ++ FDy D) h (L ++ LDy D) Q := by
    intro m
    induction m with
    | zero =>
      intro D ys hm hD a w f s
      have : ys = [] := List.eq_nil_of_length_eq_zero hm
      subst this
      unfold Fl at hD
      rw [List.append_nil] at hD
      obtain ⟨D0, p1, p2⟩ := perm_lift hD D rfl
      have h1 := hx D0 p2
      unfold RX at h1
      have hnd : (D.map fun p => p.1.s).Nodup := by
        have := (hD.map (·.s)).nodup_iff.2 hn
        rwa [List.map_map] at this
      refine wpG_plain rest hcs a w (h1 a w ?_ (s.perm (List.Perm.append_left _ (p1.map _).symm)))
      obtain ⟨f1, f2⟩ := fr_app.1 f
      refine fr_app.2 ⟨f1, fun t v hl hv => f2 t v hl ?_⟩
      have hm1 : (t, v) ∈ FDy D := (p1.map _).mem_iff.1 (lk_mem hv)
      clear f2 f1 hx h1 p1 p2 hD
      have : ∀ G : List (Nat × Value), (G.map (·.1)).Nodup → (t, v) ∈ G → lk G t = some v := by
        intro G
        induction G with
        | nil => intro _ hm; cases hm
        | cons q G ihG =>
          obtain ⟨k, u⟩ := q
          intro hG hm
          have hG' := List.nodup_cons.1 hG
          show (bif Nat.beq k t then some u else lk G t) = some v
          rcases List.mem_cons.1 hm with e | hm
          · cases e; simp
          · have : Nat.beq k t = false := by
              cases hb : Nat.beq k t with
              | false => rfl
              | true =>
                have := Nat.eq_of_beq_eq_true hb
                exact absurd (List.mem_map.2 ⟨(t, v), hm, this.symm⟩) hG'.1
            rw [this]
            exact ihG hG'.2 hm
      refine this _ ?_ hm1
      unfold FDy
      rw [List.map_map]
      exact hnd
    | succ m ih =>
      intro D ys hm hD a w f s
      have adv : ∀ y1 y0 y2, ys = y1 ++ y0 :: y2 → R1 P g.ops g.S (g.lo y0.i) (g.bar y0.i) y0.o (wpG P g.ops g.S g.lo g.bar (flY Y) (Q .normal) (prY (y1 ++ y2) ++ rest).length (prY (y1 ++ y2) ++ rest)) a w := by
        rintro y1 y0 y2 rfl
        have hyY : y0 ∈ Y := hD.mem_iff.1 (by simp)
        refine floStep (hok y0 hyY) (fresh_of hD hn hfree (by simp)) hO f s fun b a' w' f' s' => ?_
        have hD' : Fl Y (D ++ [(y0, b)]) (y1 ++ y2) := by
          unfold Fl at hD ⊢
          refine List.Perm.trans ?_ hD
          simp only [List.map_append, List.map_cons, List.map_nil, List.append_assoc, List.cons_append, List.nil_append]
          exact List.Perm.append_left _ List.perm_middle.symm
        exact ih (D ++ [(y0, b)]) (y1 ++ y2) (by simp at hm ⊢; omega) hD' a' w' f' s'
      cases ys with
      | nil => cases hm
      | cons y ys =>
        refine ⟨adv [] y ys rfl, fun _ l1 y' oy' l2 he hy => ?_⟩
        have n2 : (y', oy') ∉ rest := fun hm => by
          have := hcs (y', oy') hm
          rw [this] at hy; cases hy
        obtain ⟨m1, m2, e1, rfl, rfl⟩ := split3 (cs := []) (by simp) n2 (by simpa using he)
        obtain ⟨y1, y0, y2, rfl, rfl, e3, rfl⟩ := prY_split e1
        cases e3
        have := adv (y :: y1) y0 y2 rfl
        have el : prY (y :: y1 ++ y2) ++ rest = (y.i, y.o) :: (([] ++ prY y1) ++ (prY y2 ++ rest)) := by simp [prY]
        rw [el] at this
        have en : ((y.i, y.o) :: (([] ++ prY y1) ++ (prY y2 ++ rest))).length = (prY (y1 ++ y0 :: y2) ++ rest).length := by simp [prY]; omega
        rw [en] at this
        exact this
  exact fun D ys hD => key _ D ys rfl hD
def mkY (ops : Array Oper) (fy : List (Nat × Nat × (Nat → Value) × Obj)) : List Flo := fy.map fun x => ⟨x.1, nthO ops.toList x.1, x.2.1, x.2.2.1, x.2.2.2⟩
theorem cx_region_float {id : Nat} {ops : Array Oper} (pre : List Nat) (fy : List (Nat × Nat × (Nat → Value) × Obj)) (post : List Nat) (hm : P.follows .mixedOrders = true) (hB : floatOk ops (pre ++ (fy.map (·.1) ++ post)) (flY (mkY ops fy)) = true)
    (hx : ∀ D ys, Fl (mkY ops fy) D ys → GX P n K ⟨ops, Hd h L, loOf ops, barOf ops⟩ (mkY ops fy) (pickL ops.toList pre ++ (prY ys ++ pickL ops.toList post)) (F ++ FDy D) h (L ++ LDy D) Q) : CX P n K (.region id ops true) F h L Q := by
  unfold CX
  intro a w f s
  have h1 := hx [] (mkY ops fy) (List.Perm.refl _)
  have e1 : F ++ FDy [] = F := List.append_nil _
  have e2 : L ++ LDy [] = L := List.append_nil _
  rw [e1, e2] at h1
  refine wp_region_float (S := Hd h L) (pre ++ (fy.map (·.1) ++ post)) (flY (mkY ops fy)) hm hB ?_
  have he : pickL ops.toList (pre ++ (fy.map (·.1) ++ post)) = pickL ops.toList pre ++ (prY (mkY ops fy) ++ pickL ops.toList post) := by
    rw [pickL_append, pickL_append]
    congr 2
    clear hx h1 hB
    induction fy with
    | nil => rfl
    | cons x fy ih => simp only [List.map_cons, pickL, mkY, prY] at ih ⊢; rw [ih]
  rw [he]
  exact h1 a w.drew ⟨f.size, f.dfs, f.get⟩ s.drew
end
end Go.Ck
end

section
namespace Go.Ck
open Go
section
variable {P : Program} {ops : Array Oper} {S : World → Prop} {lo bar : Nat → Bool}
def wpF (P : Program) (ops : Array Oper) (S : World → Prop) (lo bar : Nat → Bool) (Q : Act → World → Prop) (y : Nat × Oper) (r : List (Nat × Oper)) : List (Nat × Oper) → Act → World → Prop
  | [], a, w => wpX P ops S lo bar Q (y :: r) a w
  | (i, o) :: l, a, w => R1 P ops S (lo i) (bar i) o (wpF P ops S lo bar Q y r l) a w ∧ (lo i = true → wpX P ops S lo bar Q (y :: (i, o) :: (l ++ r)) a w)
theorem wpF_G {Q : Act → World → Prop} {y : Nat × Oper} {r : List (Nat × Oper)} (fl : Nat → Bool) (hr : ∀ p ∈ r, fl p.1 = false) : ∀ (l : List (Nat × Oper)), (∀ p ∈ l, fl p.1 = false) → ∀ a w, wpF P ops S lo bar Q y r l a w → wpG P ops S lo bar fl Q (l ++ y :: r).length (l ++ y :: r) a w
  | [], _, a, w, h => by
    obtain ⟨yi, yo⟩ := y
    refine ⟨R1.mono (fun a w h => wpG_plain r hr a w h) h, fun _ l1 z oz l2 he hz => ?_⟩
    have := hr (z, oz) (by rw [he]; simp)
    rw [this] at hz; cases hz
  | (i, o) :: l, hl, a, w, h => by
    have hl' : ∀ p ∈ l, fl p.1 = false := fun p hp => hl p (List.mem_cons_of_mem _ hp)
    refine ⟨R1.mono (fun a w h => wpF_G fl hr l hl' a w h) h.1, fun hlo l1 z oz l2 he hz => ?_⟩
    replace he : l ++ y :: r = l1 ++ (z, oz) :: l2 := he
    have key : l1 = l ∧ (z, oz) = y ∧ l2 = r := by
      clear h hl
      induction l generalizing l1 with
      | nil =>
        cases l1 with
        | nil =>
          simp only [List.nil_append, List.cons.injEq] at he
          exact ⟨rfl, he.1.symm, he.2.symm⟩
        | cons p l1 =>
          simp only [List.nil_append, List.cons_append, List.cons.injEq] at he
          have := hr (z, oz) (by rw [he.2]; simp)
          rw [this] at hz; cases hz
      | cons q l ih =>
        cases l1 with
        | nil =>
          simp only [List.cons_append, List.nil_append, List.cons.injEq] at he
          have := hl' q (List.mem_cons_self ..)
          rw [he.1] at this
          rw [this] at hz; cases hz
        | cons p l1 =>
          simp only [List.cons_append, List.cons.injEq] at he
          obtain ⟨e1, e2, e3⟩ := ih (fun p hp => hl' p (List.mem_cons_of_mem _ hp)) l1 he.2
          exact ⟨by rw [e1, he.1], e2, e3⟩
    obtain ⟨rfl, rfl, rfl⟩ := key
    have h2 := h.2 hlo
    have e : (l1 ++ (z, oz) :: l2).length = ((i, o) :: (l1 ++ l2)).length := by simp; omega
    show R1 P ops S (lo z) (bar z) oz (wpG P ops S lo bar fl Q (l1 ++ (z, oz) :: l2).length ((i, o) :: (l1 ++ l2))) a w
    rw [e]
    refine R1.mono (fun a w h => wpG_plain _ (fun p hp => ?_) a w h) h2
    rcases List.mem_cons.1 hp with rfl | hp
    · exact hl _ (List.mem_cons_self ..)
    · rcases List.mem_append.1 hp with hp | hp
      · exact hl' p hp
      · exact hr p hp
theorem wpF_app {Q : Act → World → Prop} {y : Nat × Oper} {r l : List (Nat × Oper)} : ∀ (pre : List (Nat × Oper)), (∀ p ∈ pre, lo p.1 = false) → ∀ a w, wpX P ops S lo bar (wpF P ops S lo bar Q y r l) pre a w → wpF P ops S lo bar Q y r (pre ++ l) a w
  | [], _, a, w, h => h
  | (i, o) :: pre, hq, a, w, h => ⟨R1.mono (fun a w h => wpF_app pre (fun p hp => hq p (List.mem_cons_of_mem _ hp)) a w h) h, fun hlo => by
    have := hq (i, o) (List.mem_cons_self ..)
    rw [this] at hlo; cases hlo⟩
end
section
variable {P : Program} {n : Nat} {K : Bs} {F : List (Nat × Value)} {h : View} {L : List Res} {Q : Exit → Act → World → Prop}
def FlQ (P : Program) (g : Rg) (Q : Exit → Act → World → Prop) (l : List Nat) (y : Nat) (r : List Nat) : Exit → Act → World → Prop := fun e a w =>
  e = .normal ∧ wpF P g.ops g.S g.lo g.bar (Q .normal) (y, nthO g.ops.toList y) (pickL g.ops.toList r) (pickL g.ops.toList l) a w
theorem nx_flo {g : Rg} {y : Nat} {r : List Nat} (x : Nat) (sg l : List Nat) (hq : (sg.all fun i => !g.lo i) = true) (h1 : RX P n K g (pickL g.ops.toList (x :: sg)) F h L (FlQ P g Q l y r)) (h2 : RX P n K g (pickL g.ops.toList (y :: x :: (sg ++ l ++ r))) F h L Q) :
    NX n K .normal F h L (FlQ P g Q (x :: (sg ++ l)) y r) := by
  unfold NX
  unfold RX at h1 h2
  refine fun a w f s => ⟨rfl, ?_, fun _ => ?_⟩
  · have h3 := h1 a w f s
    refine R1.mono (fun a w hh => ?_) h3
    have h4 := wpF_app (P := P) (ops := g.ops) (S := g.S) (lo := g.lo) (bar := g.bar) (Q := Q .normal) (y := (y, nthO g.ops.toList y)) (r := pickL g.ops.toList r) (l := pickL g.ops.toList l) (pickL g.ops.toList sg) (fun p hp => by
      have := List.all_eq_true.1 hq _ (pickL_mem.1 hp).1
      simpa using this) a w (wpX_mono (fun a w h => h.2) _ _ _ hh)
    rw [← pickL_append] at h4
    exact h4
  · have h3 := h2 a w f s
    have e : pickL g.ops.toList (y :: x :: (sg ++ l ++ r)) = (y, nthO g.ops.toList y) :: (x, nthO g.ops.toList x) :: (pickL g.ops.toList (sg ++ l) ++ pickL g.ops.toList r) := by
      rw [← pickL_append]; rfl
    rw [e] at h3
    exact h3
theorem nx_flo_end {g : Rg} {y : Nat} {r : List Nat} (h1 : RX P n K g (pickL g.ops.toList (y :: r)) F h L Q) : NX n K .normal F h L (FlQ P g Q [] y r) := by
  unfold NX
  unfold RX at h1
  exact fun a w f s => ⟨rfl, h1 a w f s⟩
end
end Go.Ck
end

section
namespace Go.Ck
open Go
section
variable {P : Program} {ops : Array Oper} {S : World → Prop} {lo bar : Nat → Bool}
def flo1OkX (ops : Array Oper) (ex : List Nat) (pre l : List Nat) (y : Nat) (r : List Nat) : Bool :=
  lexOkR ops (masks ops) (fun i => ex.contains i) (barOf ops) (rkOf (pre ++ l ++ y :: r)) (fun j i => ex.contains j && Nat.beq i y) && flOk ops (fun i => ex.contains i) (barOf ops) (fun i => Nat.beq i y) (rkOf (pre ++ l ++ y :: r)) &&
  ((List.range ops.size).all fun i => (pre ++ l ++ y :: r).contains i) && (pre ++ l ++ y :: r).length == ops.size && ((pre ++ l ++ y :: r).all fun i => decide (i < ops.size)) && decide ((pre ++ l ++ y :: r).Pairwise fun i j => rkOf (pre ++ l ++ y :: r) i < rkOf (pre ++ l ++ y :: r) j) &&
  (pre.all fun i => !ex.contains i) && ((pre ++ l ++ r).all fun i => !Nat.beq i y)
theorem wp_region_floX {id : Nat} {Q : Exit → Act → World → Prop} {a : Act} {w : World} (ex pre l : List Nat) (y : Nat) (r : List Nat) (hm : P.follows .mixedOrders = true) (hB : flo1OkX ops ex pre l y r = true)
    (h : wpX P ops S (fun i => ex.contains i) (barOf ops) (wpF P ops S (fun i => ex.contains i) (barOf ops) (Q .normal) (y, nthO ops.toList y) (pickL ops.toList r) (pickL ops.toList l)) (pickL ops.toList pre) a w.drew) : (Code.region id ops true).wp P Q a w := by
  simp only [flo1OkX, Bool.and_eq_true] at hB
  obtain ⟨⟨⟨⟨⟨⟨⟨b1, b2⟩, b3⟩, b4⟩, b5⟩, b6⟩, b7⟩, b8⟩ := hB
  have b4 : (pre ++ l ++ y :: r).length = ops.size := by simpa using b4
  have b6 := oet_ b6
  have hpq : ∀ p ∈ pickL ops.toList pre, (fun i => ex.contains i) p.1 = false := fun p hp => by
    have := List.all_eq_true.1 b7 _ (pickL_mem.1 hp).1
    simpa using this
  have hfl : ∀ m : List Nat, (∀ i ∈ m, i ∈ pre ++ l ++ r) → ∀ p ∈ pickL ops.toList m, (fun i => Nat.beq i y) p.1 = false := fun m hmm p hp => by
    have := List.all_eq_true.1 b8 _ (hmm _ (pickL_mem.1 hp).1)
    simpa using this
  have hF := wpF_app (P := P) (ops := ops) (S := S) (Q := Q .normal) (y := (y, nthO ops.toList y)) (r := pickL ops.toList r) (l := pickL ops.toList l) (pickL ops.toList pre) hpq a w.drew h
  rw [← pickL_append] at hF
  have hG := wpF_G (fun i => Nat.beq i y) (hfl r (fun i hi => by simp [hi])) (pickL ops.toList (pre ++ l)) (hfl (pre ++ l) (fun i hi => List.mem_append_left _ hi)) a w.drew hF
  have hpk : pickL ops.toList (pre ++ l) ++ (y, nthO ops.toList y) :: pickL ops.toList r = pickL ops.toList (pre ++ l ++ y :: r) := by
    rw [pickL_append (pre ++ l)]; rfl
  rw [hpk] at hG
  refine wp_region_any hm (float_any (rk := rkOf (pre ++ l ++ y :: r)) b1 (fun i o y' oy hi hy hli hfy hlj => ?_) _ (pickL ops.toList (pre ++ l ++ y :: r)) _ a _ ?_ ⟨?_, ?_, ?_, ?_, ?_⟩ hG)
  · have hil := (Array.getElem?_eq_some_iff.1 hi).1
    have hyl := (Array.getElem?_eq_some_iff.1 hy).1
    have h1 := List.all_eq_true.1 b2 y' (List.mem_range.2 hyl)
    simp only [hfy, Bool.not_true, Bool.false_or, Bool.and_eq_true] at h1
    have h2 := List.all_eq_true.1 h1.2 i (List.mem_range.2 hil)
    obtain ⟨j, hj1, hj2, hj3⟩ := hlj
    have hnot : ((List.range ops.size).all fun j => !ex.contains j || !decide (rkOf (pre ++ l ++ y :: r) j < rkOf (pre ++ l ++ y :: r) i)) = false := by
      rw [List.all_eq_false]
      exact ⟨j, List.mem_range.2 hj1, by simp only [hj2, hj3]; decide⟩
    simp only [hli, hnot, Bool.false_or, hi, hy, Bool.and_eq_true] at h2
    have hsel := lexOkR_sel b1
    exact ⟨h2.2, (by show (ex.contains i && _) = false; rw [hli]; rfl), by simpa using h2.1, by simpa using h1.1.1, fun cs b => Region.noSelect_spec hsel i o cs b hi, fun cs b => Region.noSelect_spec hsel y' oy cs b hy⟩
  · rw [pickL_length]; omega
  · intro p hp
    obtain ⟨h1, h2⟩ := pickL_mem.1 hp
    have hlt : p.1 < ops.size := by simpa using List.all_eq_true.1 b5 _ h1
    have := nthO_ok ops.toList p.1 (by simpa using hlt)
    rw [h2]; simpa using this
  · exact pickL_pair b6
  · intro i hi
    simp only [Array.getD_eq_getD_getElem?, Array.getElem?_replicate, hi, if_true, Option.getD_some, true_iff]
    have := List.all_eq_true.1 b3 i (List.mem_range.2 hi)
    exact ⟨nthO ops.toList i, (pickL_mem (p := (i, nthO ops.toList i))).2 ⟨by simpa using this, rfl⟩⟩
  · intro i o ho hl
    simp only [Array.getD_eq_getD_getElem?, Array.getElem?_replicate] at hl
    split at hl <;> simp at hl
  · simp
end
section
variable {P : Program} {n : Nat} {K : Bs} {F : List (Nat × Value)} {h : View} {L : List Res} {Q : Exit → Act → World → Prop}
theorem cx_region_floX {id : Nat} {ops : Array Oper} (LS : List Res) (ex pre l : List Nat) (y : Nat) (r : List Nat) (hm : P.follows .mixedOrders = true) (hB : flo1OkX ops ex pre l y r = true)
    (hx : RX P n K ⟨ops, Hd h LS, fun i => ex.contains i, barOf ops⟩ (pickL ops.toList pre) F h L (FlQ P ⟨ops, Hd h LS, fun i => ex.contains i, barOf ops⟩ Q l y r)) : CX P n K (.region id ops true) F h L Q := by
  unfold CX
  unfold RX at hx
  exact fun a w f s => wp_region_floX ex pre l y r hm hB (wpX_mono (fun a w h => h.2) _ _ _ (hx a w.drew ⟨f.size, f.dfs, f.get⟩ s.drew))
end
end Go.Ck
end

section
namespace Go.Proofs.YtgeepceieckooaaGreatDoor
open Go Go.Ck
set_option maxHeartbeats 400000
theorem Real_sp (key : List Int) (hk32 : key.length = 32) (h : View) (w : World) (s : St ⟨w, h, []⟩ h [] w) :
    Calls Tryz.prog 21 [.agg (bcs key).toArray].toArray w fun e w' => ∃ x : View × Nat × Nat × Nat × Nat, e = .returned (.pointer (some ⟨x.2.1, 0, none⟩)) ∧
      St ⟨w, h, []⟩ x.1 [nmR x.2.2.1 [], usR x.2.2.2.1 [], tbR x.2.2.2.2 []] w' ∧ Vb x.1 x.2.1 false key x.2.2.1 x.2.2.2.1 x.2.2.2.2 := by
  have hol : (bcs key).length = 32 := by rw [bcs_len, hk32]
  refine calls_enter Tryz.func21 rfl Tryz.ntmps21 rfl s ?_
  repeat' (first|refine zw150 ?_|(refine ta_ ?_;intro _)|(refine zk0 ?_ ?_<;>intro ht)|fail)
  (refine yco (ycp Tryz.func53 rfl (by kernel_rfl) rfl) (vault_sp false key hk32 h) rfl rfl rfl ?_ ?_ ?_; (· (exact to_)); (·exact zc148); intro x px hle)
  repeat' (first|refine zw150 ?_|(refine ta_ ?_;intro _)|(refine zk0 ?_ ?_<;>intro ht)|fail)
  refine nx_ret1 rfl (rv_tmp rfl) (fun w' s' => ⟨x, rfl, ?_, px⟩)
  exact (St.drop (L := [_]) (s'.perm (perm_at (k := 3) rfl)))
theorem cut_sp (v : Value) (l : List Int) (n : Nat) (hn : n ≤ 100000) (hl : l.length ≤ 9223372036854775807) (h : View) (hs : Bs8 h v l) (w : World) (s : St ⟨w, h, []⟩ h [] w) :
    Calls Tryz.prog 7 [v, .int .i64 n].toArray w fun e w' => ∃ v, e = .returned v ∧ St ⟨w, h, []⟩ h [rowB v (l.take n)] w' ∧ True := by
  obtain ⟨_, ad, cap, rfl, hcap, _⟩ := id hs
  have hj : (if ((n : Nat) : Int) < (l.length : Int) then ((n : Nat) : Int) else (l.length : Int)) = ((min l.length n : Nat) : Int) := by split<;>omega
  have hst := bs_pre hs (j := min l.length n) (by omega)
  have etk : l.take (min l.length n) = l.take n := by
    by_cases h : n ≤ l.length
    · rw [Nat.min_eq_right h]
    · rw [Nat.min_eq_left (by omega), List.take_length, List.take_of_length_le (by omega)]
  rw [etk] at hst
  have htl : (l.take n).length = min l.length n := by simp; omega
  refine calls_enter Tryz.func7 rfl Tryz.ntmps7 rfl s ?_
  repeat' (first|refine zw166 ?_|(refine ta_ ?_;intro _)|(refine zk0 ?_ ?_<;>intro ht)|fail)
  refine yba ma_buildSlice0 rfl rfl rfl ybf (fun _ => ybf) ?_
  intro b0
  refine rx_rowOf 1 0 0 (by omega) (by unfold maxLen; omega) rfl ?_
  repeat' (first|refine zw227 ?_|(refine ta_ ?_;intro _)|(refine zk0 ?_ ?_<;>intro ht)|fail)
  have hst : Bs8 h (.slice ad (min l.length n) cap) (l.take n) := hst
  unfold Bs8 at hst
  rw [htl] at hst
  refine rx_append_sc (sz := 1) 0 rfl rfl rfl hst (bcs_one _) rfl (by omega) (by unfold maxLen; omega) (by omega) rfl rfl rfl ybf (fun _ => ybf) ?_
  intro v1 _
  repeat' (first|refine zw166 ?_|(refine ta_ ?_;intro _)|(refine zk0 ?_ ?_<;>intro ht)|fail)
  refine nx_ret1 rfl (rv_tmp rfl) (fun w' s' => ⟨v1, rfl, ?_, trivial⟩)
  unfold rowB
  rw [htl]
  simpa using s'
theorem cx_bview {P : Program} {n : Nat} {K : Bs} {F : List (Nat × Value)} {h : View} {L : List Res} {Q : Exit → Act → World → Prop} {c : Code} {b : Nat} {e : TypeId} {cs : Array Value} (k : Nat) (hA : K.A = []) (hk : L[k]? = some (Res.blk b (.cells cs e (0, 0)))) (hx : ∀ h', Le h h' → h' b = some (.cells cs e (0, 0)) → CX P n K c F h' (L.eraseIdx k) Q) :
    CX P n K c F h L Q := by
  refine cx_perm (perm_at hk) ?_
  refine cx_bpersist hA fun hn => hx _ (fun z o hz => ?_) ?_
  · unfold addV
    by_cases hzb : z = b
    · subst hzb; rw [hn] at hz; cases hz
    · rw [if_neg hzb]; exact hz
  · unfold addV; rw [if_pos rfl]
theorem vaults_sp (idl : Bool) (key : List Int) (hk : Bytes key) (hk32 : key.length = 32) (h : View) (w : World) (s : St ⟨w, h, []⟩ h [] w) :
    Calls Tryz.prog 6 [.bool idl, .agg (bcs key).toArray].toArray w fun e w' => ∃ x : View × Nat × Nat × Nat × Nat × Nat, e = .returned (.tuple #[.pointer (some ⟨x.2.1, 0, none⟩), .pointer (some ⟨x.2.2.2.2.2, 0, none⟩)]) ∧
      St ⟨w, h, []⟩ x.1 [Res.blk x.2.2.2.2.2 (.cells #[.bool idl, .string (bstr key), .slice none 0 0, .slice none 0 0] 67 (0, 0)), nmR x.2.2.1 [], usR x.2.2.2.1 [], tbR x.2.2.2.2.1 []] w' ∧ Vb x.1 x.2.1 idl key x.2.2.1 x.2.2.2.1 x.2.2.2.2.1 := by
  have hol : (bcs key).length = 32 := by rw [bcs_len, hk32]
  refine calls_enter Tryz.func6 rfl Tryz.ntmps6 rfl s ?_
  cases idl
  · repeat' (first|refine zw166 ?_|(refine ta_ ?_;intro _)|(refine zk0 ?_ ?_<;>intro ht)|fail)
    rename_i bk
    refine cx_bview 0 rfl rfl fun h1 hle1 hK => ?_
    have hK : h1 bk = some (.cells (bcs key).toArray 33 (0, 0)) := hK
    have hKb : Bs8 h1 (.slice (some ⟨bk, 0, none⟩) 32 32) key := by
      have := bs_blk (o := 0) (m := 32) (c := 32) hK (i := 0) (j := 32) (by omega) (by omega) rfl rfl (by omega)
      rw [List.drop_zero, List.take_of_length_le (by omega)] at this
      exact this
    refine cx_region_floX [] [1, 5, 7] [0, 2, 3, 4] [1] 5 [6, 7] rfl (by kernel_rfl) ?_
    repeat' (first|refine zw228 ?_|(refine ycf ?_;(first|(refine zg0 ?_ ?_<;>intro ht)|(refine tb_ ?_ ?_ ?_;(·exact zc75);(·exact zc156);intro _)))|fail)
    refine nx_flo 1 [] [] (by kernel_rfl) ?_ ?_
    · (refine yco (ycp Tryz.func21 rfl (by kernel_rfl) rfl) (Real_sp key hk32 h1) rfl rfl rfl ?_ ?_ ?_;(·exact zc77);(·exact zc157);intro x px hle)
      repeat' (first|refine zw229 ?_|(refine ycf ?_;(first|(refine zg0 ?_ ?_<;>intro ht)|(refine tb_ ?_ ?_ ?_;(·exact zc77);(·exact zc158);intro _)))|fail)
      refine nx_flo_end ?_
      repeat' (first|refine zw229 ?_|(refine ycf ?_;(first|(refine zg0 ?_ ?_<;>intro ht)|(refine tb_ ?_ ?_ ?_;(·exact zc77);(·exact zc158);intro _)))|fail)
      repeat' (first|refine zw230 ?_|(refine ta_ ?_;intro _)|(refine zk0 ?_ ?_<;>intro ht)|fail)
      rename_i br
      obtain ⟨h2, bv, bn, bu, bt⟩ := x
      refine nx_ret2 rfl (rv_tmp rfl) (rv_tmp rfl) (fun w' s' => ⟨(h2, bv, bn, bu, bt, br), rfl, ?_, px⟩)
      exact s'.picks [0, 0, 0, 0]
    · repeat' (first|refine zw229 ?_|(refine ycf ?_;(first|(refine zg0 ?_ ?_<;>intro ht)|(refine tb_ ?_ ?_ ?_;(·exact zc77);(·exact zc158);intro _)))|fail)
      (refine yco (ycp Tryz.func21 rfl (by kernel_rfl) rfl) (Real_sp key hk32 h1) rfl rfl rfl ?_ ?_ ?_;(·exact zc77);(·exact zc157);intro x px hle)
      repeat' (first|refine zw229 ?_|(refine ycf ?_;(first|(refine zg0 ?_ ?_<;>intro ht)|(refine tb_ ?_ ?_ ?_;(·exact zc77);(·exact zc158);intro _)))|fail)
      repeat' (first|refine zw230 ?_|(refine ta_ ?_;intro _)|(refine zk0 ?_ ?_<;>intro ht)|fail)
      rename_i br
      obtain ⟨h2, bv, bn, bu, bt⟩ := x
      refine nx_ret2 rfl (rv_tmp rfl) (rv_tmp rfl) (fun w' s' => ⟨(h2, bv, bn, bu, bt, br), rfl, ?_, px⟩)
      exact s'.picks [3, 0, 0, 0]
  · repeat' (first|refine zw230 ?_|(refine ta_ ?_;intro _)|(refine zk0 ?_ ?_<;>intro ht)|fail)
    rename_i bk
    refine cx_bview 0 rfl rfl fun h1 hle1 hK => ?_
    have hK : h1 bk = some (.cells (bcs key).toArray 33 (0, 0)) := hK
    have hKb : Bs8 h1 (.slice (some ⟨bk, 0, none⟩) 32 32) key := by
      have := bs_blk (o := 0) (m := 32) (c := 32) hK (i := 0) (j := 32) (by omega) (by omega) rfl rfl (by omega)
      rw [List.drop_zero, List.take_of_length_le (by omega)] at this
      exact this
    refine cx_region_floX [] [1, 5, 7] [0, 2, 3, 4] [1] 5 [6, 7] rfl (by kernel_rfl) ?_
    repeat' (first|refine zw231 ?_|(refine ycf ?_;(first|(refine zg0 ?_ ?_<;>intro ht)|(refine tb_ ?_ ?_ ?_;(·exact zc75);(·exact zc156);intro _)))|fail)
    refine nx_flo 1 [] [] (by kernel_rfl) ?_ ?_
    · (refine yco (ycp Tryz.func20 rfl (by kernel_rfl) rfl) (Ideal_sp key hk32 h1) rfl rfl rfl ?_ ?_ ?_;(·exact zc77);(·exact zc157);intro x px hle)
      repeat' (first|refine zw232 ?_|(refine ycf ?_;(first|(refine zg0 ?_ ?_<;>intro ht)|(refine tb_ ?_ ?_ ?_;(·exact zc77);(·exact zc158);intro _)))|fail)
      refine nx_flo_end ?_
      repeat' (first|refine zw232 ?_|(refine ycf ?_;(first|(refine zg0 ?_ ?_<;>intro ht)|(refine tb_ ?_ ?_ ?_;(·exact zc77);(·exact zc158);intro _)))|fail)
      repeat' (first|refine zw233 ?_|(refine ta_ ?_;intro _)|(refine zk0 ?_ ?_<;>intro ht)|fail)
      rename_i br
      obtain ⟨h2, bv, bn, bu, bt⟩ := x
      refine nx_ret2 rfl (rv_tmp rfl) (rv_tmp rfl) (fun w' s' => ⟨(h2, bv, bn, bu, bt, br), rfl, ?_, px⟩)
      exact s'.picks [0, 0, 0, 0]
    · repeat' (first|refine zw232 ?_|(refine ycf ?_;(first|(refine zg0 ?_ ?_<;>intro ht)|(refine tb_ ?_ ?_ ?_;(·exact zc77);(·exact zc158);intro _)))|fail)
      (refine yco (ycp Tryz.func20 rfl (by kernel_rfl) rfl) (Ideal_sp key hk32 h1) rfl rfl rfl ?_ ?_ ?_;(·exact zc77);(·exact zc157);intro x px hle)
      repeat' (first|refine zw232 ?_|(refine ycf ?_;(first|(refine zg0 ?_ ?_<;>intro ht)|(refine tb_ ?_ ?_ ?_;(·exact zc77);(·exact zc158);intro _)))|fail)
      repeat' (first|refine zw233 ?_|(refine ta_ ?_;intro _)|(refine zk0 ?_ ?_<;>intro ht)|fail)
      rename_i br
      obtain ⟨h2, bv, bn, bu, bt⟩ := x
      refine nx_ret2 rfl (rv_tmp rfl) (rv_tmp rfl) (fun w' s' => ⟨(h2, bv, bn, bu, bt, br), rfl, ?_, px⟩)
      exact s'.picks [3, 0, 0, 0]
end Go.Proofs.YtgeepceieckooaaGreatDoor
end

section
namespace Go.Proofs.YtgeepceieckooaaGreatDoor
open Go Go.Ck
set_option maxHeartbeats 4000000
def zHdr : Hdr := ⟨0, 0, 0, 0, []⟩
end Go.Proofs.YtgeepceieckooaaGreatDoor
end

section
namespace Go.Proofs.YtgeepceieckooaaGreatDoor
open Go Go.Ck
set_option maxHeartbeats 4000000
def fixC (s : RS) (n : Nat) : List Int × RS := if s.2 ≠ 0 then ([], s) else if s.1.length < n then ([], (s.1, 3)) else (s.1.take n, (s.1.drop n, 0))
theorem RsOk.fix {s : RS} (h : RsOk s) (n : Nat) : RsOk (fixC s n).2 ∧ Bytes (fixC s n).1 ∧ (fixC s n).1.length ≤ n := by
  unfold fixC
  split
  · exact ⟨h, (fun x hx => (by cases hx)), by simp⟩
  · split
    · exact ⟨⟨h.1, h.2⟩, (fun x hx => (by cases hx)), by simp⟩
    · refine ⟨⟨bytes_drop h.1 n, ?_⟩, bytes_take h.1 n, by simp; omega⟩
      have := h.2
      show (s.1.drop n).length ≤ 140737488355328
      rw [List.length_drop]
      omega
theorem InFixed_sp (bi : Nat) (v : Value) (l : List Int) (e : Int) (n : Nat) (hb : Bytes l) (hn : n ≤ 1000000) (hl : l.length ≤ 140737488355328) (h : View) (hv : Bs8 h v l) (w : World) (s : St ⟨w, h, doms [inR bi v e]⟩ h [inR bi v e] w) :
    Calls Tryz.prog 43 [.pointer (some ⟨bi, 0, none⟩), .int .i64 n].toArray w fun en w' => ∃ x : View × Value × Value, en = .returned x.2.1 ∧ St ⟨w, h, doms [inR bi v e]⟩ x.1 [inR bi x.2.2 (fixC (l, e) n).2.2] w' ∧ (Bs8 x.1 x.2.1 (fixC (l, e) n).1 ∧ Bs8 x.1 x.2.2 (fixC (l, e) n).2.1) := by
  refine calls_enter Tryz.func43 rfl Tryz.ntmps43 rfl s ?_
  unfold fixC
  dsimp only
  by_cases he : e = 0
  · subst he
    rw [if_neg (by simp)]
    have hdead := dead_sp bi v 0 h
    rw [show decide ((0 : Int) ≠ 0) = false by decide] at hdead
    repeat' (first|refine zw3 ?_|(refine ta_ ?_;intro _)|(refine zk0 ?_ ?_<;>intro ht)|fail)
    (refine rx_call_m (ycp Tryz.func78 rfl (by kernel_rfl) rfl) (perm_at (k := 0) rfl) (hdead) rfl rfl rfl ?_ ?_ ?_; (· (exact to_)); (·exact zc148); intro x px hle)
    obtain ⟨_, ad, cap, rfl, hcap, _⟩ := id hv
    by_cases hN : l.length < n
    · rw [if_pos hN]
      repeat' (first|refine zw234 ?_|(refine ta_ ?_;intro _)|(refine zk0 ?_ ?_<;>intro ht)|fail)
      exact nx_ret1 rfl (rv_tmp rfl) (fun w' s' => ⟨(h, .slice none 0 0, .slice ad l.length cap), rfl, s', Sc.nil h 1 none 0, hv⟩)
    · rw [if_neg hN]
      repeat' (first|refine zw234 ?_|(refine ta_ ?_;intro _)|(refine zk0 ?_ ?_<;>intro ht)|fail)
      (refine rx_call_m (ycp Tryz.func79 rfl (by kernel_rfl) rfl) (perm_at (k := 0) rfl) (skipr_sp bi _ l 0 n (by omega) hl h hv) rfl rfl rfl ?_ ?_ ?_; (· (exact to_)); (·exact zc148); intro x px hle)
      repeat' (first|refine zw234 ?_|(refine ta_ ?_;intro _)|(refine zk0 ?_ ?_<;>intro ht)|fail)
      exact nx_ret1 rfl (rv_tmp rfl) (fun w' s' => ⟨x, rfl, s', px⟩)
  · rw [if_pos he]
    have hdead := dead_sp bi v e h
    rw [decide_eq_true he] at hdead
    repeat' (first|refine zw3 ?_|(refine ta_ ?_;intro _)|(refine zk0 ?_ ?_<;>intro ht)|fail)
    (refine rx_call_m (ycp Tryz.func78 rfl (by kernel_rfl) rfl) (perm_at (k := 0) rfl) (hdead) rfl rfl rfl ?_ ?_ ?_; (· (exact to_)); (·exact zc148); intro x px hle)
    repeat' (first|refine zw3 ?_|(refine ta_ ?_;intro _)|(refine zk0 ?_ ?_<;>intro ht)|fail)
    exact nx_ret1 rfl (rv_tmp rfl) (fun w' s' => ⟨(h, .slice none 0 0, v), rfl, s', Sc.nil h 1 none 0, hv⟩)
end Go.Proofs.YtgeepceieckooaaGreatDoor
end

section
namespace Go.Proofs.YtgeepceieckooaaGreatDoor
open Go Go.Ck
set_option maxHeartbeats 4000000
theorem byC_tookV {s : RS} (hb : Bytes s.1) {most : Int} (h : (byC s most).2.2 = 0) : s.2 = 0 ∧ num4 (byC s most).1.length ++ (byC s most).1 ++ (byC s most).2.1 = s.1 := by
  unfold byC at h ⊢
  by_cases h0 : s.2 ≠ 0
  · rw [if_pos h0] at h; exact absurd h h0
  · rw [if_neg h0] at h ⊢
    refine ⟨Decidable.not_not.1 h0, ?_⟩
    by_cases h1 : (lookC s.1 4 most).2 = 0
    · rw [if_neg (by simpa using h1)] at h ⊢
      have hl := lookC_len h1
      have e : (lookC s.1 4 most).1 = valB (s.1.take 4) := by
        unfold lookC at h1 ⊢
        split
        · rename_i h2; rw [if_pos h2] at h1; cases h1
        · rename_i h2
          rw [if_neg h2] at h1
          split
          · rename_i h3; rw [if_pos h3] at h1; cases h1
          · rfl
      by_cases h2 : s.1.length - 4 < (lookC s.1 4 most).1.toNat
      · rw [if_pos h2] at h; cases h
      · rw [if_neg h2]
        have hp := putLow_val (l := s.1.take 4) (fun x hx => hb x (List.mem_of_mem_take hx))
        rw [List.length_take, Nat.min_eq_left hl, ← e] at hp
        have hn : 0 ≤ (lookC s.1 4 most).1 := by rw [e]; exact (valB_bd hb 4 hl).1
        have hlen : (((s.1.drop 4).take (lookC s.1 4 most).1.toNat).length : Int) = (lookC s.1 4 most).1 := by
          rw [List.length_take, List.length_drop]; omega
        dsimp only
        rw [hlen]
        unfold num4
        rw [hp, List.append_assoc, List.take_append_drop, List.take_append_drop]
    · rw [if_pos h1] at h
      exact absurd h h1
def rdK (l : List Int) : List Int × RS := fixC (l, 0) 32
def rdN (s : RS) : Nat → List Int × RS
  | 0 => ([], s)
  | k + 1 => ((rdN s k).1 ++ [(numC (rdN s k).2 8 4611686018427387904).1], (numC (rdN s k).2 8 4611686018427387904).2)
def rdH (l : List Int) : List Int × RS := rdN (rdK l).2 4
def rdP (l : List Int) : List Int × RS := byC (rdH l).2 4096
def rdZ (l : List Int) : List Int × RS := byC (rdP l).2 8192
def hdOf (hv p : List Int) : Hdr := ⟨hv.getD 0 0, hv.getD 1 0, hv.getD 2 0, hv.getD 3 0, p⟩
def rdQ (l : List Int) : Hdr := hdOf (rdH l).1 (rdP l).1
def rdOk (l : List Int) : Prop := endC (rdZ l).2 = 0 ∧ (rdQ l).ok ∧ 16 ≤ (rdZ l).1.length ∧ (rdZ l).1.length ≤ 8192
instance (l : List Int) : Decidable (rdOk l) := by unfold rdOk; exact inferInstance
theorem rdN_ok {s : RS} (h : RsOk s) : ∀ k, RsOk (rdN s k).2 ∧ (rdN s k).1.length = k
  | 0 => ⟨h, rfl⟩
  | k + 1 => by
    obtain ⟨h1, h2⟩ := rdN_ok h k
    exact ⟨h1.num 8 _, by simp [rdN, h2]⟩
theorem rd_oks {l : List Int} (hb : Bytes l) (hl : l.length ≤ 140737488355328) : RsOk (rdK l).2 ∧ RsOk (rdH l).2 ∧ RsOk (rdP l).2 ∧ RsOk (rdZ l).2 := by
  have h0 : RsOk ((l, 0) : RS) := ⟨hb, Nat.le_trans hl (by decide)⟩
  have h1 : RsOk (rdK l).2 := (h0.fix 32).1
  have h2 : RsOk (rdH l).2 := (rdN_ok h1 4).1
  have h3 : RsOk (rdP l).2 := (h2.by (by omega)).1
  exact ⟨h1, h2, h3, (h3.by (by omega)).1⟩
theorem fix_took {s : RS} {n : Nat} (h : (fixC s n).2.2 = 0) : s.2 = 0 ∧ (fixC s n).1 ++ (fixC s n).2.1 = s.1 ∧ (fixC s n).1.length = n := by
  unfold fixC at h ⊢
  by_cases h0 : s.2 ≠ 0
  · rw [if_pos h0] at h; exact absurd h h0
  · rw [if_neg h0] at h ⊢
    by_cases h1 : s.1.length < n
    · rw [if_pos h1] at h; cases h
    · rw [if_neg h1]
      exact ⟨Decidable.not_not.1 h0, List.take_append_drop .., by simp; omega⟩
theorem rdN_took {s : RS} (hs : RsOk s) : ∀ k, (rdN s k).2.2 = 0 → s.2 = 0 ∧ (rdN s k).1.flatMap num8 ++ (rdN s k).2.1 = s.1
  | 0, h => ⟨h, by simp [rdN]⟩
  | k + 1, h => by
    have hk := (rdN_ok hs k).1
    obtain ⟨h1, h2⟩ := numC_took (s := (rdN s k).2) hk.b h
    obtain ⟨h3, h4⟩ := rdN_took hs k h1
    refine ⟨h3, ?_⟩
    have e : (rdN s (k + 1)).1.flatMap num8 ++ (rdN s (k + 1)).2.1 = (rdN s k).1.flatMap num8 ++ (num8 (numC (rdN s k).2 8 4611686018427387904).1 ++ (numC (rdN s k).2 8 4611686018427387904).2.1) := by
      simp [rdN, List.flatMap_append]
    rw [e]
    have h2 : num8 (numC (rdN s k).2 8 4611686018427387904).1 ++ (numC (rdN s k).2 8 4611686018427387904).2.1 = (rdN s k).2.1 := h2
    rw [h2, h4]
def encE (ek : List Int) (q : Hdr) (se : List Int) : List Int := boundF ek q ++ num4 se.length ++ se
theorem list4 (l : List Int) (h : l.length = 4) : ∃ a b c d, l = [a, b, c, d] := by
  match l, h with
  | [a, b, c, d], _ => exact ⟨a, b, c, d, rfl⟩
theorem rd13_took {l : List Int} (hb : Bytes l) (hl : l.length ≤ 140737488355328) (h : endC (rdZ l).2 = 0) : (rdK l).1.length = 32 ∧ encE (rdK l).1 (rdQ l) (rdZ l).1 = l := by
  obtain ⟨o1, o2, o3, o4⟩ := rd_oks hb hl
  have hz : (rdZ l).2.2 = 0 := by
    unfold endC at h
    split at h
    · cases h
    · exact h
  have hr : (rdZ l).2.1 = [] := by
    unfold endC at h
    split at h
    · cases h
    · rename_i hn
      exact List.eq_nil_of_length_eq_zero (by omega)
  obtain ⟨p1, p2⟩ := byC_tookV (s := (rdP l).2) o3.b hz
  obtain ⟨q1, q2⟩ := byC_tookV (s := (rdH l).2) o2.b p1
  obtain ⟨r1, r2⟩ := rdN_took o1 4 q1
  obtain ⟨k1, k2, k3⟩ := fix_took (s := (l, 0)) r1
  refine ⟨k3, ?_⟩
  have hN := (rdN_ok o1 4).2
  obtain ⟨a, b, c, d, he⟩ := list4 (rdH l).1 hN
  have p2 : num4 (rdZ l).1.length ++ (rdZ l).1 ++ (rdZ l).2.1 = (rdP l).2.1 := p2
  have q2 : num4 (rdP l).1.length ++ (rdP l).1 ++ (rdP l).2.1 = (rdH l).2.1 := q2
  have r2 : (rdH l).1.flatMap num8 ++ (rdH l).2.1 = (rdK l).2.1 := r2
  have k2 : (rdK l).1 ++ (rdK l).2.1 = l := k2
  rw [hr, List.append_nil] at p2
  unfold encE boundF rdQ hdOf
  rw [he] at r2 ⊢
  conv => rhs; rw [← k2, ← r2, ← q2, ← p2]
  simp
theorem rdOk_key {l : List Int} (hb : Bytes l) (hl : l.length ≤ 140737488355328) (h : rdOk l) : (rdK l).1.length = 32 := (rd13_took hb hl h.1).1
end Go.Proofs.YtgeepceieckooaaGreatDoor
end
