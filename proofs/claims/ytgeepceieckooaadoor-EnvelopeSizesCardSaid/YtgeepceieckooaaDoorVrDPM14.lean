/-
  Part 14 of a proof: CkFloat CkFlo CkFlX VrC.
  Conditions: each theorem states its own.
-/
import Derived.Test.YtgeepceieckooaaDoorVrDPM13
section
namespace Go.Ck
open Go
set_option linter.unusedVariables false
section
variable {P : Program} {ops : Array Oper} {S : World → Prop} {lo bar : Nat → Bool} {fl : Nat → Bool}
def wpG (P : Program) (ops : Array Oper) (S : World → Prop) (lo bar fl : Nat → Bool) (Q : Act → World → Prop) : Nat → List (Nat × Oper) → Act → World → Prop
  | _, [], a, w => Q a w
  | 0, _ :: _, _, _ => False
  | n + 1, (i, o) :: r, a, w => R1 P ops S (lo i) (bar i) o (wpG P ops S lo bar fl Q n r) a w ∧
      (lo i = true → ∀ l1 y oy l2, r = l1 ++ (y, oy) :: l2 → fl y = true → R1 P ops S (lo y) (bar y) oy (wpG P ops S lo bar fl Q n ((i, o) :: (l1 ++ l2))) a w)
theorem R1_all {b : Bool} {o : Oper} {ι : Prop} {κ : Type} {K : Act → World → Prop} {K' : κ → Act → World → Prop} {a : Act} {w : World} (h1 : R1 P ops S false b o K a w) (h2 : ι → ∀ x, R1 P ops S false b o (K' x) a w) :
    R1 P ops S false b o (fun a w => K a w ∧ (ι → ∀ x, K' x a w)) a w := by
  rcases h1 with ⟨h0, hk⟩ | ⟨h0, hS, v, hv, hk⟩ | ⟨_, hl, _⟩
  · refine .inl ⟨h0, hk, fun hi x => ?_⟩
    rcases h2 hi x with ⟨_, k⟩ | ⟨g0, _⟩ | ⟨_, hl, _⟩
    · exact k
    · rw [h0] at g0; cases g0
    · cases hl
  · refine .inr (.inl ⟨h0, hS, v, hv, hk, fun hi x => ?_⟩)
    rcases h2 hi x with ⟨g0, _⟩ | ⟨_, gS, v', hv', k⟩ | ⟨_, hl, _⟩
    · rw [h0] at g0; cases g0
    · have e1 := (hv w hS).symm.trans (hv' w gS)
      have e2 : v = v' := by
        simp only [Result.ok.injEq, and_true] at e1
        cases e1; rfl
      rw [e2]; exact k
    · cases hl
  · cases hl
def Pass (ops : Array Oper) (lo bar : Nat → Bool) (p : Nat × Oper) (i : Nat) (o : Oper) : Prop :=
  p.2.apart ops o = true ∧ (lo i && lo p.1) = false ∧ bar i = false ∧ bar p.1 = false ∧ (∀ cs b, o.op ≠ .select cs b) ∧ (∀ cs b, p.2.op ≠ .select cs b)
theorem Pass.swap {p : Nat × Oper} {i : Nat} {o : Oper} (h : Pass ops lo bar p i o) {K : Act → World → Prop} {a : Act} {w : World}
    (hr : R1 P ops S (lo p.1) (bar p.1) p.2 (fun a w => R1 P ops S (lo i) (bar i) o K a w) a w) : R1 P ops S (lo i) (bar i) o (fun a w => R1 P ops S (lo p.1) (bar p.1) p.2 K a w) a w := by
  obtain ⟨e1, e2, e3, e4, e5, e6⟩ := h
  exact Ck.swap e1 e5 e6 e2 e3 e4 hr
theorem bringX {Q : Act → World → Prop} {i : Nat} {o : Oper} : ∀ (l1 l2 : List (Nat × Oper)) (n : Nat), (l1 ++ (i, o) :: l2).length = n + 1 → (∀ p ∈ l1, (lo p.1 = false ∧ Pass ops lo bar p i o) ∨ (lo p.1 = true ∧ fl i = true)) →
    ∀ a w, wpG P ops S lo bar fl Q (n + 1) (l1 ++ (i, o) :: l2) a w → R1 P ops S (lo i) (bar i) o (wpG P ops S lo bar fl Q n (l1 ++ l2)) a w
  | [], l2, n, hl, _, a, w, h => h.1
  | (j, oj) :: l1, l2, n, hl, hp, a, w, h => by
    rcases hp (j, oj) (List.mem_cons_self ..) with ⟨hq, hps⟩ | ⟨hq, hfl⟩
    · obtain ⟨m, rfl⟩ : ∃ m, n = m + 1 := ⟨n - 1, by simp at hl; omega⟩
      have h1 := R1.mono (fun a w h => bringX l1 l2 m (by simp at hl ⊢; omega) (fun p hm => hp p (List.mem_cons_of_mem _ hm)) a w h) h.1
      refine R1.mono (fun a' w' h' => ?_) (hps.swap h1)
      exact ⟨h', fun hlo => (by rw [hq] at hlo; cases hlo)⟩
    · exact h.2 hq l1 i o l2 rfl hfl
theorem bringQ {Q : Act → World → Prop} {i : Nat} {o : Oper} (hi : lo i = false) (hif : fl i = false) : ∀ (n : Nat) (l1 l2 : List (Nat × Oper)), (l1 ++ (i, o) :: l2).length = n + 1 → (∀ p ∈ l1, Pass ops lo bar p i o) → (∀ p ∈ l1 ++ l2, fl p.1 = true → Pass ops lo bar p i o) →
    ∀ a w, wpG P ops S lo bar fl Q (n + 1) (l1 ++ (i, o) :: l2) a w → R1 P ops S (lo i) (bar i) o (wpG P ops S lo bar fl Q n (l1 ++ l2)) a w := by
  intro n
  induction n with
  | zero =>
    intro l1 l2 hl hp hf a w h
    cases l1 with
    | nil => exact h.1
    | cons p l1 => simp at hl
  | succ m ih =>
    intro l1 l2 hl hp hf a w h
    cases l1 with
    | nil => exact h.1
    | cons p l1 =>
      obtain ⟨j, oj⟩ := p
      have hps := hp (j, oj) (List.mem_cons_self ..)
      have h1 := R1.mono (fun a w h => ih l1 l2 (by simp at hl ⊢; omega) (fun p hm => hp p (List.mem_cons_of_mem _ hm)) (fun p hm => hf p (List.mem_cons_of_mem _ hm)) a w h) h.1
      have h1' := hps.swap h1
      have h2 : lo j = true → ∀ (x : List (Nat × Oper) × Nat × Oper × List (Nat × Oper)), R1 P ops S (lo i) (bar i) o (fun a w => l1 ++ l2 = x.1 ++ (x.2.1, x.2.2.1) :: x.2.2.2 → fl x.2.1 = true → R1 P ops S (lo x.2.1) (bar x.2.1) x.2.2.1 (wpG P ops S lo bar fl Q m ((j, oj) :: (x.1 ++ x.2.2.2))) a w) a w := by
        rintro hlo ⟨k1, y, oy, k2⟩
        dsimp only
        by_cases hc : l1 ++ l2 = k1 ++ (y, oy) :: k2 ∧ fl y = true
        · obtain ⟨he, hy⟩ := hc
          have hym : (y, oy) ∈ l1 ++ l2 := by rw [he]; simp
          have hpy := hf (y, oy) (List.mem_cons_of_mem _ hym) hy
          have key : ∃ m1 m2 n1 n2, l1 ++ (i, o) :: l2 = m1 ++ (y, oy) :: m2 ∧ m1 ++ m2 = n1 ++ (i, o) :: n2 ∧ n1 ++ n2 = k1 ++ k2 ∧ (∀ p ∈ n1, p ∈ l1) := by
            rcases List.append_eq_append_iff.1 he with ⟨t, e1, e2⟩ | ⟨t, e1, e2⟩
            · exact ⟨l1 ++ (i, o) :: t, k2, l1, t ++ k2, by rw [e2]; simp, by simp, by rw [e1]; simp, fun p h => h⟩
            · cases t with
              | nil =>
                simp only [List.append_nil, List.nil_append] at e1 e2
                exact ⟨l1 ++ [(i, o)], k2, l1, k2, by rw [← e2]; simp, by simp, by rw [e1], fun p h => h⟩
              | cons z t =>
                simp only [List.cons_append, List.cons.injEq] at e2
                obtain ⟨rfl, e2⟩ := e2
                exact ⟨k1, t ++ (i, o) :: l2, k1 ++ t, l2, by rw [e1]; simp, by simp, by rw [e2]; simp, fun p h => by
                  rw [e1]
                  rcases List.mem_append.1 h with h | h
                  · exact List.mem_append_left _ h
                  · exact List.mem_append_right _ (List.mem_cons_of_mem _ h)⟩
          obtain ⟨m1, m2, n1, n2, e1, e2, e3, e4⟩ := key
          have hmem : ∀ p ∈ n1 ++ n2, p ∈ l1 ++ l2 := fun p hp' => by
            rw [e3] at hp'
            rw [he]
            rcases List.mem_append.1 hp' with h | h
            · exact List.mem_append_left _ h
            · exact List.mem_append_right _ (List.mem_cons_of_mem _ h)
          have hlen : (m1 ++ m2).length = (l1 ++ l2).length := by
            have := congrArg List.length e1
            simp at this ⊢; omega
          have hlen2 : (n1 ++ n2).length + 1 = (l1 ++ l2).length := by
            have := congrArg List.length e2
            simp at this hlen ⊢; omega
          have h3 := h.2 hlo m1 y oy m2 e1 hy
          rw [e2] at h3
          have h4 := R1.mono (fun a w h => ih ((j, oj) :: n1) n2 (by simp at hl hlen2 ⊢; omega) (fun p hm => by
            rcases List.mem_cons.1 hm with rfl | hm
            · exact hps
            · exact hp p (List.mem_cons_of_mem _ (e4 p hm))) (fun p hm hfp => by
            rcases List.mem_cons.1 hm with rfl | hm
            · exact hps
            · exact hf p (List.mem_cons_of_mem _ (hmem p hm)) hfp) a w h) h3
          have h5 := hpy.swap h4
          refine R1.mono (fun a' w' h' _ _ => ?_) h5
          have e5 : (j, oj) :: n1 ++ n2 = (j, oj) :: (k1 ++ k2) := by rw [← e3]; rfl
          rw [e5] at h'
          exact h'
        · refine R1.mono (fun a' w' _ e1 e2 => absurd ⟨e1, e2⟩ hc) h1'
      rw [hi] at h1' h2 ⊢
      refine R1.mono (fun a' w' h' => ?_) (R1_all h1' h2)
      exact ⟨h'.1, fun hlo k1 y oy k2 he hy => h'.2 hlo (k1, y, oy, k2) he hy⟩
theorem wpG_plain {Q : Act → World → Prop} : ∀ (l : List (Nat × Oper)), (∀ p ∈ l, fl p.1 = false) → ∀ a w, wpX P ops S lo bar Q l a w → wpG P ops S lo bar fl Q l.length l a w
  | [], _, a, w, h => h
  | (i, o) :: l, hf, a, w, h => ⟨R1.mono (fun a w h => wpG_plain l (fun p hp => hf p (List.mem_cons_of_mem _ hp)) a w h) h, fun _ l1 y oy l2 he hy => by
    have := hf (y, oy) (List.mem_cons_of_mem _ (by rw [he]; simp))
    rw [this] at hy; cases hy⟩
section
variable {ms : List Nat} {rk : Nat → Nat}
theorem float_any {Q : Exit → Act → World → Prop} (hB : lexOkR ops ms lo bar rk (fun j i => lo j && fl i) = true)
    (hF : ∀ i o y oy, ops[i]? = some o → ops[y]? = some oy → lo i = false → fl y = true → (∃ j, j < ops.size ∧ lo j = true ∧ rk j < rk i) → Pass ops lo bar (y, oy) i o) :
    ∀ (fuel : Nat) (prs : List (Nat × Oper)) (listed : Array Bool) (a : Act) (w : World), prs.length ≤ fuel → InvR ops rk listed prs →
      wpG P ops S lo bar fl (Q .normal) prs.length prs a w → wpAny P .any ops Q fuel listed a w := by
  intro fuel
  induction fuel with
  | zero =>
    intro prs listed a w hl inv h
    have : prs = [] := List.eq_nil_of_length_eq_zero (by omega)
    subst this
    refine ⟨?_, h⟩
    cases hr : Region.ready .any ops listed with
    | nil => rfl
    | cons i r =>
      have hi : i ∈ Region.ready .any ops listed := by rw [hr]; exact List.mem_cons_self ..
      obtain ⟨hun, o, ho, _⟩ := mem_ready.1 hi
      obtain ⟨_, hm2⟩ := (inv.left i (Array.getElem?_eq_some_iff.1 ho).1).1 hun
      cases hm2
  | succ fuel ih =>
    intro prs listed a w hl inv h
    refine ⟨fun hr => by rw [headR hB prs listed inv hr] at h; exact h, fun i hi => ?_⟩
    obtain ⟨hun, o, ho, hall⟩ := mem_ready.1 hi
    have hlt := (Array.getElem?_eq_some_iff.1 ho).1
    obtain ⟨o', hm2⟩ := (inv.left i hlt).1 hun
    have : o' = o := by have := inv.pr _ hm2; rw [ho] at this; cases this; rfl
    subst this
    obtain ⟨l1, l2, rfl⟩ := List.append_of_mem hm2
    have hs := inv.sorted
    rw [List.pairwise_append] at hs
    have hlen : (l1 ++ (i, o') :: l2).length = (l1 ++ l2).length + 1 := by simp; omega
    rw [hlen] at h
    have hpass : ∀ p ∈ l1, (lo p.1 && fl i) = false → Pass ops lo bar p i o' := fun p hp hx => passR hB inv ho hi (List.mem_append_left _ hp) (hs.2.2 p hp (i, o') (List.mem_cons_self ..)) hx
    have hb : R1 P ops S (lo i) (bar i) o' (wpG P ops S lo bar fl (Q .normal) (l1 ++ l2).length (l1 ++ l2)) a w := by
      by_cases hfi : fl i = true
      · refine bringX l1 l2 _ hlen (fun p hp => ?_) a w h
        cases hlp : lo p.1 with
        | false => exact .inl ⟨rfl, hpass p hp (by rw [hlp]; rfl)⟩
        | true => exact .inr ⟨rfl, hfi⟩
      · have hfi : fl i = false := by simpa using hfi
        have hpass' : ∀ p ∈ l1, Pass ops lo bar p i o' := fun p hp => hpass p hp (by rw [hfi, Bool.and_false])
        cases hli : lo i with
        | true =>
          rw [← hli]
          refine bringX l1 l2 _ hlen (fun p hp => .inl ⟨?_, hpass' p hp⟩) a w h
          have := (hpass' p hp).2.1
          rw [hli, Bool.true_and] at this
          exact this
        | false =>
          rw [← hli]
          by_cases hloud : ∃ p ∈ l1, lo p.1 = true
          rotate_left
          · refine bringX l1 l2 _ hlen (fun p hp => .inl ⟨?_, hpass' p hp⟩) a w h
            cases hlp : lo p.1 with
            | false => rfl
            | true => exact absurd ⟨p, hp, hlp⟩ hloud
          refine bringQ hli hfi _ l1 l2 hlen hpass' (fun p hp hfp => ?_) a w h
          have hpm : p ∈ l1 ++ (i, o') :: l2 := by
            rcases List.mem_append.1 hp with hp | hp
            · exact List.mem_append_left _ hp
            · exact List.mem_append_right _ (List.mem_cons_of_mem _ hp)
          obtain ⟨pl, hpl, hpl2⟩ := hloud
          have hplo := inv.pr pl (List.mem_append_left _ hpl)
          exact hF i o' p.1 p.2 ho (inv.pr p hpm) hli hfp ⟨pl.1, (Array.getElem?_eq_some_iff.1 hplo).1, hpl2, hs.2.2 pl hpl (i, o') (List.mem_cons_self ..)⟩
    exact (R1.mono (fun a' w' h' => ih (l1 ++ l2) (listed.setIfInBounds i true) a' w' (by simp at hl ⊢; omega) (inv.step hi) h') hb).op ho
end
def flOk (ops : Array Oper) (lo bar fl : Nat → Bool) (rk : Nat → Nat) : Bool :=
  (List.range ops.size).all fun y => !fl y || (!bar y && lo y && (List.range ops.size).all fun i => lo i || ((List.range ops.size).all fun j => !lo j || !decide (rk j < rk i)) || (!bar i && match ops[y]?, ops[i]? with
    | some oy, some oi => oy.apart ops oi
    | _, _ => true))
end
structure Flo where
  i : Nat
  o : Oper
  s : Nat
  f : Nat → Value
  ob : Obj
section
variable {P : Program} {n : Nat} {K : Bs} {g : Rg} {Y : List Flo} {F : List (Nat × Value)} {h : View} {L : List Res} {Q : Exit → Act → World → Prop}
structure FloOk (P : Program) (n : Nat) (g : Rg) (y : Flo) : Prop where
  dst : y.o.dst = some y.s
  okd : okd n (some y.s) = true
  gd : y.o.guard = none
  lo : g.lo y.i = true
  ma : ∀ F h L, MA P n F h L y.o y.f y.ob
end
end Go.Ck
end

section
namespace Go.Ck
open Go
set_option linter.unusedVariables false
section
variable {P : Program} {ops : Array Oper} {S : World → Prop} {lo bar : Nat → Bool}
def wpF (P : Program) (ops : Array Oper) (S : World → Prop) (lo bar : Nat → Bool) (Q : Act → World → Prop) (y : Nat × Oper) (r : List (Nat × Oper)) : List (Nat × Oper) → Act → World → Prop
  | [], a, w => wpX P ops S lo bar Q (y :: r) a w
  | (i, o) :: l, a, w => R1 P ops S (lo i) (bar i) o (wpF P ops S lo bar Q y r l) a w ∧ (lo i = true → wpX P ops S lo bar Q (y :: (i, o) :: (l ++ r)) a w)
theorem wpF_G {Q : Act → World → Prop} {y : Nat × Oper} {r : List (Nat × Oper)} (fl : Nat → Bool) (hr : ∀ p ∈ r, fl p.1 = false) : ∀ (l : List (Nat × Oper)), (∀ p ∈ l, fl p.1 = false) → ∀ a w, wpF P ops S lo bar Q y r l a w → wpG P ops S lo bar fl Q (l ++ y :: r).length (l ++ y :: r) a w
  | [], _, a, w, h => by
    obtain ⟨yi, yo⟩ := y
    refine ⟨R1.mono (fun a w h => wpG_plain r hr a w h) h, fun _ l1 z oz l2 he hz => ?_⟩
    have := hr (z, oz) (by rw [he]; simp)
    rw [this] at hz; cases hz
  | (i, o) :: l, hl, a, w, h => by
    have hl' : ∀ p ∈ l, fl p.1 = false := fun p hp => hl p (List.mem_cons_of_mem _ hp)
    refine ⟨R1.mono (fun a w h => wpF_G fl hr l hl' a w h) h.1, fun hlo l1 z oz l2 he hz => ?_⟩
    replace he : l ++ y :: r = l1 ++ (z, oz) :: l2 := he
    have key : l1 = l ∧ (z, oz) = y ∧ l2 = r := by
      clear h hl
      induction l generalizing l1 with
      | nil =>
        cases l1 with
        | nil =>
          simp only [List.nil_append, List.cons.injEq] at he
          exact ⟨rfl, he.1.symm, he.2.symm⟩
        | cons p l1 =>
          simp only [List.nil_append, List.cons_append, List.cons.injEq] at he
          have := hr (z, oz) (by rw [he.2]; simp)
          rw [this] at hz; cases hz
      | cons q l ih =>
        cases l1 with
        | nil =>
          simp only [List.cons_append, List.nil_append, List.cons.injEq] at he
          have := hl' q (List.mem_cons_self ..)
          rw [he.1] at this
          rw [this] at hz; cases hz
        | cons p l1 =>
          simp only [List.cons_append, List.cons.injEq] at he
          obtain ⟨e1, e2, e3⟩ := ih (fun p hp => hl' p (List.mem_cons_of_mem _ hp)) l1 he.2
          exact ⟨by rw [e1, he.1], e2, e3⟩
    obtain ⟨rfl, rfl, rfl⟩ := key
    have h2 := h.2 hlo
    have e : (l1 ++ (z, oz) :: l2).length = ((i, o) :: (l1 ++ l2)).length := by simp; omega
    show R1 P ops S (lo z) (bar z) oz (wpG P ops S lo bar fl Q (l1 ++ (z, oz) :: l2).length ((i, o) :: (l1 ++ l2))) a w
    rw [e]
    refine R1.mono (fun a w h => wpG_plain _ (fun p hp => ?_) a w h) h2
    rcases List.mem_cons.1 hp with rfl | hp
    · exact hl _ (List.mem_cons_self ..)
    · rcases List.mem_append.1 hp with hp | hp
      · exact hl' p hp
      · exact hr p hp
theorem wpF_app {Q : Act → World → Prop} {y : Nat × Oper} {r l : List (Nat × Oper)} : ∀ (pre : List (Nat × Oper)), (∀ p ∈ pre, lo p.1 = false) → ∀ a w, wpX P ops S lo bar (wpF P ops S lo bar Q y r l) pre a w → wpF P ops S lo bar Q y r (pre ++ l) a w
  | [], _, a, w, h => h
  | (i, o) :: pre, hq, a, w, h => ⟨R1.mono (fun a w h => wpF_app pre (fun p hp => hq p (List.mem_cons_of_mem _ hp)) a w h) h, fun hlo => by
    have := hq (i, o) (List.mem_cons_self ..)
    rw [this] at hlo; cases hlo⟩
end
section
variable {P : Program} {n : Nat} {K : Bs} {F : List (Nat × Value)} {h : View} {L : List Res} {Q : Exit → Act → World → Prop}
def FlQ (P : Program) (g : Rg) (Q : Exit → Act → World → Prop) (l : List Nat) (y : Nat) (r : List Nat) : Exit → Act → World → Prop := fun e a w =>
  e = .normal ∧ wpF P g.ops g.S g.lo g.bar (Q .normal) (y, nthO g.ops.toList y) (pickL g.ops.toList r) (pickL g.ops.toList l) a w
theorem nx_flo {g : Rg} {y : Nat} {r : List Nat} (x : Nat) (sg l : List Nat) (hq : (sg.all fun i => !g.lo i) = true) (h1 : RX P n K g (pickL g.ops.toList (x :: sg)) F h L (FlQ P g Q l y r)) (h2 : RX P n K g (pickL g.ops.toList (y :: x :: (sg ++ l ++ r))) F h L Q) :
    NX n K .normal F h L (FlQ P g Q (x :: (sg ++ l)) y r) := by
  unfold NX
  unfold RX at h1 h2
  refine fun a w f s => ⟨rfl, ?_, fun _ => ?_⟩
  · have h3 := h1 a w f s
    refine R1.mono (fun a w hh => ?_) h3
    have h4 := wpF_app (P := P) (ops := g.ops) (S := g.S) (lo := g.lo) (bar := g.bar) (Q := Q .normal) (y := (y, nthO g.ops.toList y)) (r := pickL g.ops.toList r) (l := pickL g.ops.toList l) (pickL g.ops.toList sg) (fun p hp => by
      have := List.all_eq_true.1 hq _ (pickL_mem.1 hp).1
      simpa using this) a w (wpX_mono (fun a w h => h.2) _ _ _ hh)
    rw [← pickL_append] at h4
    exact h4
  · have h3 := h2 a w f s
    have e : pickL g.ops.toList (y :: x :: (sg ++ l ++ r)) = (y, nthO g.ops.toList y) :: (x, nthO g.ops.toList x) :: (pickL g.ops.toList (sg ++ l) ++ pickL g.ops.toList r) := by
      rw [← pickL_append]; rfl
    rw [e] at h3
    exact h3
theorem nx_flo_end {g : Rg} {y : Nat} {r : List Nat} (h1 : RX P n K g (pickL g.ops.toList (y :: r)) F h L Q) : NX n K .normal F h L (FlQ P g Q [] y r) := by
  unfold NX
  unfold RX at h1
  exact fun a w f s => ⟨rfl, h1 a w f s⟩
end
end Go.Ck
end

section
namespace Go.Ck
open Go
set_option linter.unusedVariables false
section
variable {P : Program} {ops : Array Oper} {S : World → Prop} {lo bar : Nat → Bool}
def flo1OkX (ops : Array Oper) (ex : List Nat) (pre l : List Nat) (y : Nat) (r : List Nat) : Bool :=
  lexOkR ops (masks ops) (fun i => ex.contains i) (barOf ops) (rkOf (pre ++ l ++ y :: r)) (fun j i => ex.contains j && Nat.beq i y) && flOk ops (fun i => ex.contains i) (barOf ops) (fun i => Nat.beq i y) (rkOf (pre ++ l ++ y :: r)) &&
  ((List.range ops.size).all fun i => (pre ++ l ++ y :: r).contains i) && (pre ++ l ++ y :: r).length == ops.size && ((pre ++ l ++ y :: r).all fun i => decide (i < ops.size)) && decide ((pre ++ l ++ y :: r).Pairwise fun i j => rkOf (pre ++ l ++ y :: r) i < rkOf (pre ++ l ++ y :: r) j) &&
  (pre.all fun i => !ex.contains i) && ((pre ++ l ++ r).all fun i => !Nat.beq i y)
theorem wp_region_floX {id : Nat} {Q : Exit → Act → World → Prop} {a : Act} {w : World} (ex pre l : List Nat) (y : Nat) (r : List Nat) (hm : P.follows .mixedOrders = true) (hB : flo1OkX ops ex pre l y r = true)
    (h : wpX P ops S (fun i => ex.contains i) (barOf ops) (wpF P ops S (fun i => ex.contains i) (barOf ops) (Q .normal) (y, nthO ops.toList y) (pickL ops.toList r) (pickL ops.toList l)) (pickL ops.toList pre) a w.drew) : (Code.region id ops true).wp P Q a w := by
  simp only [flo1OkX, Bool.and_eq_true] at hB
  obtain ⟨⟨⟨⟨⟨⟨⟨b1, b2⟩, b3⟩, b4⟩, b5⟩, b6⟩, b7⟩, b8⟩ := hB
  have b4 : (pre ++ l ++ y :: r).length = ops.size := by simpa using b4
  have b6 := oet_ b6
  have hpq : ∀ p ∈ pickL ops.toList pre, (fun i => ex.contains i) p.1 = false := fun p hp => by
    have := List.all_eq_true.1 b7 _ (pickL_mem.1 hp).1
    simpa using this
  have hfl : ∀ m : List Nat, (∀ i ∈ m, i ∈ pre ++ l ++ r) → ∀ p ∈ pickL ops.toList m, (fun i => Nat.beq i y) p.1 = false := fun m hmm p hp => by
    have := List.all_eq_true.1 b8 _ (hmm _ (pickL_mem.1 hp).1)
    simpa using this
  have hF := wpF_app (P := P) (ops := ops) (S := S) (Q := Q .normal) (y := (y, nthO ops.toList y)) (r := pickL ops.toList r) (l := pickL ops.toList l) (pickL ops.toList pre) hpq a w.drew h
  rw [← pickL_append] at hF
  have hG := wpF_G (fun i => Nat.beq i y) (hfl r (fun i hi => by simp [hi])) (pickL ops.toList (pre ++ l)) (hfl (pre ++ l) (fun i hi => List.mem_append_left _ hi)) a w.drew hF
  have hpk : pickL ops.toList (pre ++ l) ++ (y, nthO ops.toList y) :: pickL ops.toList r = pickL ops.toList (pre ++ l ++ y :: r) := by
    rw [pickL_append (pre ++ l)]; rfl
  rw [hpk] at hG
  refine wp_region_any hm (float_any (rk := rkOf (pre ++ l ++ y :: r)) b1 (fun i o y' oy hi hy hli hfy hlj => ?_) _ (pickL ops.toList (pre ++ l ++ y :: r)) _ a _ ?_ ⟨?_, ?_, ?_, ?_, ?_⟩ hG)
  · have hil := (Array.getElem?_eq_some_iff.1 hi).1
    have hyl := (Array.getElem?_eq_some_iff.1 hy).1
    have h1 := List.all_eq_true.1 b2 y' (List.mem_range.2 hyl)
    simp only [hfy, Bool.not_true, Bool.false_or, Bool.and_eq_true] at h1
    have h2 := List.all_eq_true.1 h1.2 i (List.mem_range.2 hil)
    obtain ⟨j, hj1, hj2, hj3⟩ := hlj
    have hnot : ((List.range ops.size).all fun j => !ex.contains j || !decide (rkOf (pre ++ l ++ y :: r) j < rkOf (pre ++ l ++ y :: r) i)) = false := by
      rw [List.all_eq_false]
      exact ⟨j, List.mem_range.2 hj1, by simp only [hj2, hj3]; decide⟩
    simp only [hli, hnot, Bool.false_or, hi, hy, Bool.and_eq_true] at h2
    have hsel := lexOkR_sel b1
    exact ⟨h2.2, (by show (ex.contains i && _) = false; rw [hli]; rfl), by simpa using h2.1, by simpa using h1.1.1, fun cs b => Region.noSelect_spec hsel i o cs b hi, fun cs b => Region.noSelect_spec hsel y' oy cs b hy⟩
  · rw [pickL_length]; omega
  · intro p hp
    obtain ⟨h1, h2⟩ := pickL_mem.1 hp
    have hlt : p.1 < ops.size := by simpa using List.all_eq_true.1 b5 _ h1
    have := nthO_ok ops.toList p.1 (by simpa using hlt)
    rw [h2]; simpa using this
  · exact pickL_pair b6
  · intro i hi
    simp only [Array.getD_eq_getD_getElem?, Array.getElem?_replicate, hi, if_true, Option.getD_some, true_iff]
    have := List.all_eq_true.1 b3 i (List.mem_range.2 hi)
    exact ⟨nthO ops.toList i, (pickL_mem (p := (i, nthO ops.toList i))).2 ⟨by simpa using this, rfl⟩⟩
  · intro i o ho hl
    simp only [Array.getD_eq_getD_getElem?, Array.getElem?_replicate] at hl
    split at hl <;> simp at hl
  · simp
end
section
variable {P : Program} {n : Nat} {K : Bs} {F : List (Nat × Value)} {h : View} {L : List Res} {Q : Exit → Act → World → Prop}
theorem cx_region_floX {id : Nat} {ops : Array Oper} (LS : List Res) (ex pre l : List Nat) (y : Nat) (r : List Nat) (hm : P.follows .mixedOrders = true) (hB : flo1OkX ops ex pre l y r = true)
    (hx : RX P n K ⟨ops, Hd h LS, fun i => ex.contains i, barOf ops⟩ (pickL ops.toList pre) F h L (FlQ P ⟨ops, Hd h LS, fun i => ex.contains i, barOf ops⟩ Q l y r)) : CX P n K (.region id ops true) F h L Q := by
  unfold CX
  unfold RX at hx
  exact fun a w f s => wp_region_floX ex pre l y r hm hB (wpX_mono (fun a w h => h.2) _ _ _ (hx a w.drew ⟨f.size, f.dfs, f.get⟩ s.drew))
end
end Go.Ck
end

section
namespace Go.Proofs.YtgeepceieckooaaDoor
open Go Go.Ck
set_option maxRecDepth 100000
set_option maxHeartbeats 400000
set_option linter.unusedVariables false
theorem Real_sp (key : List Int) (hk32 : key.length = 32) (h : View) (w : World) (s : St ⟨w, h, []⟩ h [] w) :
    Calls Tryd.prog 23 [.agg (bcs key).toArray].toArray w fun e w' => ∃ x : View × Nat × Nat × Nat × Nat, e = .returned (.pointer (some ⟨x.2.1, 0, none⟩)) ∧
      St ⟨w, h, []⟩ x.1 [nmR x.2.2.1 [], usR x.2.2.2.1 [], tbR x.2.2.2.2 []] w' ∧ Vb x.1 x.2.1 false key x.2.2.1 x.2.2.2.1 x.2.2.2.2 := by
  have hol : (bcs key).length = 32 := by rw [bcs_len, hk32]
  refine calls_enter Tryd.func23 rfl Tryd.ntmps23 rfl s ?_
  repeat' (first|(refine ycf ?_;apply ybk;(·first|(apply yad;(·rfl);(·exact yaz 0 rfl);(·exact hol)));(·rfl);(·rfl))|(refine ybg 0 rfl rfl rfl (by show (bcs key).toArray.size = 32;simpa using hol) (by show 0 + (bcs key).toArray.size ≤ _;rw [List.size_toArray, hol];exact nble rfl) (List.all_eq_true.2 (bcs_one key)) (ybh (by show (bcs key).length = _;rw [hol];rfl)) rfl rfl ?_ ?_ ?_;(·(exact to_));(·(exact to_)))|refine t1_ ?_|(refine ta_ ?_;intro _)|((fail_if_success (refine ybi rfl ?_));refine ybj rfl ?_ ?_<;>(intro ht;rw [ht];first|replace ht := oet_ ht|replace ht := oef_ ht|skip))|(refine ych ?_;first|(refine ybw rfl ?_ ?_<;>intro ht)|(refine ybx rfl ?_ ?_<;>intro ht)))
  (refine yco (ycp Tryd.func11 rfl (by kernel_rfl) rfl) (vault_sp false key hk32 h) rfl rfl rfl ?_ ?_ ?_; (· (exact to_)); (· intro _ _ hle; (exact to_)); intro x px hle)
  repeat' (first|(refine ycf ?_;apply ybk;(·first|(apply yad;(·rfl);(·exact yaz 0 rfl);(·exact hol)));(·rfl);(·rfl))|(refine ybg 0 rfl rfl rfl (by show (bcs key).toArray.size = 32;simpa using hol) (by show 0 + (bcs key).toArray.size ≤ _;rw [List.size_toArray, hol];exact nble rfl) (List.all_eq_true.2 (bcs_one key)) (ybh (by show (bcs key).length = _;rw [hol];rfl)) rfl rfl ?_ ?_ ?_;(·(exact to_));(·(exact to_)))|refine t1_ ?_|(refine ta_ ?_;intro _)|((fail_if_success (refine ybi rfl ?_));refine ybj rfl ?_ ?_<;>(intro ht;rw [ht];first|replace ht := oet_ ht|replace ht := oef_ ht|skip))|(refine ych ?_;first|(refine ybw rfl ?_ ?_<;>intro ht)|(refine ybx rfl ?_ ?_<;>intro ht)))
  refine nx_ret1 rfl (rv_tmp rfl) (fun w' s' => ⟨x, rfl, ?_, px⟩)
  exact (St.drop (L := [_]) (s'.perm (perm_at (k := 3) rfl)))
theorem cut_sp (v : Value) (l : List Int) (n : Nat) (hn : n ≤ 100000) (hl : l.length ≤ 9223372036854775807) (h : View) (hs : Bs8 h v l) (w : World) (s : St ⟨w, h, []⟩ h [] w) :
    Calls Tryd.prog 10 [v, .int .i64 n].toArray w fun e w' => ∃ v, e = .returned v ∧ St ⟨w, h, []⟩ h [rowB v (l.take n)] w' ∧ True := by
  obtain ⟨_, ad, cap, rfl, hcap, _⟩ := id hs
  have hj : (if ((n : Nat) : Int) < (l.length : Int) then ((n : Nat) : Int) else (l.length : Int)) = ((min l.length n : Nat) : Int) := by split<;>omega
  have hst := bs_pre hs (j := min l.length n) (by omega)
  have etk : l.take (min l.length n) = l.take n := by
    by_cases h : n ≤ l.length
    · rw [Nat.min_eq_right h]
    · rw [Nat.min_eq_left (by omega), List.take_length, List.take_of_length_le (by omega)]
  rw [etk] at hst
  have htl : (l.take n).length = min l.length n := by simp; omega
  refine calls_enter Tryd.func10 rfl Tryd.ntmps10 rfl s ?_
  repeat' (first|(refine ycf ?_;apply ybk;(·first|(exact tk_));(·rfl);(·rfl))|(refine ybg 0 rfl rfl rfl (by show (bcs key).toArray.size = 32;simpa using hol) (by show 0 + (bcs key).toArray.size ≤ _;rw [List.size_toArray, hol];exact nble rfl) (List.all_eq_true.2 (bcs_one key)) (ybh (by show (bcs key).length = _;rw [hol];rfl)) rfl rfl ?_ ?_ ?_;(·(exact to_));(·(exact to_)))|refine t1_ ?_|(refine ta_ ?_;intro _)|((fail_if_success (refine ybi rfl ?_));refine ybj rfl ?_ ?_<;>(intro ht;rw [ht];first|replace ht := oet_ ht|replace ht := oef_ ht|skip))|(refine ych ?_;first|(refine ybw rfl ?_ ?_<;>intro ht)|(refine ybx rfl ?_ ?_<;>intro ht)))
  refine yba ma_buildSlice0 rfl rfl rfl ybf (fun _ => ybf) ?_
  intro b0
  refine rx_rowOf 1 0 0 (by omega) (by unfold maxLen; omega) rfl ?_
  repeat' (first|(refine ycf ?_;apply ybk;(·first|(first|exact tk_|(refine qv_min' rfl rfl hj)|(apply qv_slice_to;(·rfl);(·rfl);(·omega);(·omega))));(·rfl);(·rfl))|(refine ybg 0 rfl rfl rfl (by show (bcs key).toArray.size = 32;simpa using hol) (by show 0 + (bcs key).toArray.size ≤ _;rw [List.size_toArray, hol];exact nble rfl) (List.all_eq_true.2 (bcs_one key)) (ybh (by show (bcs key).length = _;rw [hol];rfl)) rfl rfl ?_ ?_ ?_;(·(exact to_));(·(exact to_)))|refine t1_ ?_|(refine ta_ ?_;intro _)|((fail_if_success (refine ybi rfl ?_));refine ybj rfl ?_ ?_<;>(intro ht;rw [ht];first|replace ht := oet_ ht|replace ht := oef_ ht|skip))|(refine ych ?_;first|(refine ybw rfl ?_ ?_<;>intro ht)|(refine ybx rfl ?_ ?_<;>intro ht)))
  have hst : Bs8 h (.slice ad (min l.length n) cap) (l.take n) := hst
  unfold Bs8 at hst
  rw [htl] at hst
  refine rx_append_sc (sz := 1) 0 rfl rfl rfl hst (bcs_one _) rfl (by omega) (by unfold maxLen; omega) (by omega) rfl rfl rfl ybf (fun _ => ybf) ?_
  intro v1 _
  repeat' (first|(refine ycf ?_;apply ybk;(·first|(exact tk_));(·rfl);(·rfl))|(refine ybg 0 rfl rfl rfl (by show (bcs key).toArray.size = 32;simpa using hol) (by show 0 + (bcs key).toArray.size ≤ _;rw [List.size_toArray, hol];exact nble rfl) (List.all_eq_true.2 (bcs_one key)) (ybh (by show (bcs key).length = _;rw [hol];rfl)) rfl rfl ?_ ?_ ?_;(·(exact to_));(·(exact to_)))|refine t1_ ?_|(refine ta_ ?_;intro _)|((fail_if_success (refine ybi rfl ?_));refine ybj rfl ?_ ?_<;>(intro ht;rw [ht];first|replace ht := oet_ ht|replace ht := oef_ ht|skip))|(refine ych ?_;first|(refine ybw rfl ?_ ?_<;>intro ht)|(refine ybx rfl ?_ ?_<;>intro ht)))
  refine nx_ret1 rfl (rv_tmp rfl) (fun w' s' => ⟨v1, rfl, ?_, trivial⟩)
  unfold rowB
  rw [htl]
  simpa using s'
theorem cx_bview {P : Program} {n : Nat} {K : Bs} {F : List (Nat × Value)} {h : View} {L : List Res} {Q : Exit → Act → World → Prop} {c : Code} {b : Nat} {e : TypeId} {cs : Array Value} (k : Nat) (hA : K.A = []) (hk : L[k]? = some (Res.blk b (.cells cs e (0, 0)))) (hx : ∀ h', Le h h' → h' b = some (.cells cs e (0, 0)) → CX P n K c F h' (L.eraseIdx k) Q) :
    CX P n K c F h L Q := by
  refine cx_perm (perm_at hk) ?_
  refine cx_bpersist hA fun hn => hx _ (fun z o hz => ?_) ?_
  · unfold addV
    by_cases hzb : z = b
    · subst hzb; rw [hn] at hz; cases hz
    · rw [if_neg hzb]; exact hz
  · unfold addV; rw [if_pos rfl]
theorem vaults_sp (idl : Bool) (key : List Int) (hk : Bytes key) (hk32 : key.length = 32) (h : View) (w : World) (s : St ⟨w, h, []⟩ h [] w) :
    Calls Tryd.prog 9 [.bool idl, .agg (bcs key).toArray].toArray w fun e w' => ∃ x : View × Nat × Nat × Nat × Nat × Nat, e = .returned (.tuple #[.pointer (some ⟨x.2.1, 0, none⟩), .pointer (some ⟨x.2.2.2.2.2, 0, none⟩)]) ∧
      St ⟨w, h, []⟩ x.1 [Res.blk x.2.2.2.2.2 (.cells #[.bool idl, .string (bstr key), .slice none 0 0, .slice none 0 0] 63 (0, 0)), nmR x.2.2.1 [], usR x.2.2.2.1 [], tbR x.2.2.2.2.1 []] w' ∧ Vb x.1 x.2.1 idl key x.2.2.1 x.2.2.2.1 x.2.2.2.2.1 := by
  have hol : (bcs key).length = 32 := by rw [bcs_len, hk32]
  refine calls_enter Tryd.func9 rfl Tryd.ntmps9 rfl s ?_
  cases idl
  · repeat' (first|(refine ycf ?_;apply ybk;(·first|(exact tk_));(·rfl);(·rfl))|(refine ybg 0 rfl rfl rfl (by show (bcs key).toArray.size = 32;simpa using hol) (by show 0 + (bcs key).toArray.size ≤ _;rw [List.size_toArray, hol];exact nble rfl) (List.all_eq_true.2 (bcs_one key)) (ybh (by show (bcs key).length = _;rw [hol];rfl)) rfl rfl ?_ ?_ ?_;(·(exact to_));(·(exact to_)))|refine t1_ ?_|(refine ta_ ?_;intro _)|((fail_if_success (refine ybi rfl ?_));refine ybj rfl ?_ ?_<;>(intro ht;rw [ht];first|replace ht := oet_ ht|replace ht := oef_ ht|skip))|(refine ych ?_;first|(refine ybw rfl ?_ ?_<;>intro ht)|(refine ybx rfl ?_ ?_<;>intro ht)))
    rename_i bk
    refine cx_bview 0 rfl rfl fun h1 hle1 hK => ?_
    have hK : h1 bk = some (.cells (bcs key).toArray 25 (0, 0)) := hK
    have hKb : Bs8 h1 (.slice (some ⟨bk, 0, none⟩) 32 32) key := by
      have := bs_blk (o := 0) (m := 32) (c := 32) hK (i := 0) (j := 32) (by omega) (by omega) rfl rfl (by omega)
      rw [List.drop_zero, List.take_of_length_le (by omega)] at this
      exact this
    refine cx_region_floX [] [1, 5, 7] [0, 2, 3, 4] [1] 5 [6, 7] rfl (by kernel_rfl) ?_
    repeat' (refine ycf ?_;(first|(first|(apply ybm;(·(first|(first|(apply yad;(·rfl);(·exact cells_view hK);(·exact hol))|exact qv_slice_arr rfl|(refine qv_str_bs rfl hKb)|(apply yax (cs := [.bool false, .string (bstr key), .slice none 0 0, .slice none 0 0]);(·rfl);(·rfl)))|exact tq_));(·rfl);(·rfl);(·(exact fun _ s => Hd.sub s (Le.refl _) (fun r hr => by cases hr))))|refine ybl rfl rfl ?_|((fail_if_success (refine ybi rfl ?_));refine ybj rfl ?_ ?_<;>(intro ht;rw [ht];first|replace ht := oet_ ht|replace ht := oef_ ht|skip))|(refine tb_ ?_ ?_ ?_;(·(first|exact ybf|(refine .inl ?_;(exact fun _ s => Hd.sub s (Le.refl _) (fun r hr => by cases hr)))|exact to_));(·intro _;(first|exact ybf|(refine .inl ?_;(exact fun _ s => Hd.sub s (Le.refl _) (fun r hr => by cases hr)))|exact to_));intro _)|(first|(refine ybg 0 rfl rfl rfl (by show (bcs key).toArray.size = 32;simpa using hol) (by show 0 + (bcs key).toArray.size ≤ _;rw [List.size_toArray, hol];exact nble rfl) (List.all_eq_true.2 (bcs_one key)) (ybh (by show (bcs key).length = _;rw [hol];rfl)) rfl rfl ?_ ?_ ?_;(·(first|exact ybf|(refine .inl ?_;(exact fun _ s => Hd.sub s (Le.refl _) (fun r hr => by cases hr)))|exact to_));(·(first|exact ybf|(refine .inl ?_;(exact fun _ s => Hd.sub s (Le.refl _) (fun r hr => by cases hr)))|exact to_)))|(refine tqs_ ?_ ?_ ?_;(·(first|exact ybf|(refine .inl ?_;(exact fun _ s => Hd.sub s (Le.refl _) (fun r hr => by cases hr)))|exact to_));(·(first|exact ybf|(refine .inl ?_;(exact fun _ s => Hd.sub s (Le.refl _) (fun r hr => by cases hr)))|exact to_))))|(apply ybn;(·(first|(first|(apply yad;(·rfl);(·exact cells_view hK);(·exact hol))|exact qv_slice_arr rfl|(refine qv_str_bs rfl hKb)|(apply yax (cs := [.bool false, .string (bstr key), .slice none 0 0, .slice none 0 0]);(·rfl);(·rfl)))|exact tq_));(·rfl);(·rfl);(·rfl);(·(first|exact ybf|(refine .inl ?_;(exact fun _ s => Hd.sub s (Le.refl _) (fun r hr => by cases hr)))|exact to_))))|refine ycg ?_))
    refine nx_flo 1 [] [] (by kernel_rfl) ?_ ?_
    · (refine yco (ycp Tryd.func23 rfl (by kernel_rfl) rfl) (Real_sp key hk32 h1) rfl rfl rfl ?_ ?_ ?_;(·(first|exact ybf|(refine .inl ?_;(exact fun _ s => Hd.sub s (by first|exact Le.refl _|exact hle) (fun r hr => by cases hr)))|exact to_));(·intro _ _ hle;(first|exact ybf|(refine .inl ?_;(exact fun _ s => Hd.sub s (by first|exact Le.refl _|exact hle) (fun r hr => by cases hr)))|exact to_));intro x px hle)
      repeat' (refine ycf ?_;(first|(first|(apply ybm;(·(first|(first|(apply yad;(·rfl);(·exact cells_view hK);(·exact hol))|exact qv_slice_arr rfl|(refine qv_str_bs rfl hKb)|(apply yax (cs := [.bool false, .string (bstr key), .slice none 0 0, .slice none 0 0]);(·rfl);(·rfl)))|exact tq_));(·rfl);(·rfl);(·(exact fun _ s => Hd.sub s (by first|exact Le.refl _|exact hle) (fun r hr => by cases hr))))|refine ybl rfl rfl ?_|((fail_if_success (refine ybi rfl ?_));refine ybj rfl ?_ ?_<;>(intro ht;rw [ht];first|replace ht := oet_ ht|replace ht := oef_ ht|skip))|(refine tb_ ?_ ?_ ?_;(·(first|exact ybf|(refine .inl ?_;(exact fun _ s => Hd.sub s (by first|exact Le.refl _|exact hle) (fun r hr => by cases hr)))|exact to_));(·intro _;(first|exact ybf|(refine .inl ?_;(exact fun _ s => Hd.sub s (by first|exact Le.refl _|exact hle) (fun r hr => by cases hr)))|exact to_));intro _)|(first|(refine ybg 0 rfl rfl rfl (by show (bcs key).toArray.size = 32;simpa using hol) (by show 0 + (bcs key).toArray.size ≤ _;rw [List.size_toArray, hol];exact nble rfl) (List.all_eq_true.2 (bcs_one key)) (ybh (by show (bcs key).length = _;rw [hol];rfl)) rfl rfl ?_ ?_ ?_;(·(first|exact ybf|(refine .inl ?_;(exact fun _ s => Hd.sub s (by first|exact Le.refl _|exact hle) (fun r hr => by cases hr)))|exact to_));(·(first|exact ybf|(refine .inl ?_;(exact fun _ s => Hd.sub s (by first|exact Le.refl _|exact hle) (fun r hr => by cases hr)))|exact to_)))|(refine tqs_ ?_ ?_ ?_;(·(first|exact ybf|(refine .inl ?_;(exact fun _ s => Hd.sub s (by first|exact Le.refl _|exact hle) (fun r hr => by cases hr)))|exact to_));(·(first|exact ybf|(refine .inl ?_;(exact fun _ s => Hd.sub s (by first|exact Le.refl _|exact hle) (fun r hr => by cases hr)))|exact to_))))|(apply ybn;(·(first|(first|(apply yad;(·rfl);(·exact cells_view hK);(·exact hol))|exact qv_slice_arr rfl|(refine qv_str_bs rfl hKb)|(apply yax (cs := [.bool false, .string (bstr key), .slice none 0 0, .slice none 0 0]);(·rfl);(·rfl)))|exact tq_));(·rfl);(·rfl);(·rfl);(·(first|exact ybf|(refine .inl ?_;(exact fun _ s => Hd.sub s (by first|exact Le.refl _|exact hle) (fun r hr => by cases hr)))|exact to_))))|refine ycg ?_))
      refine nx_flo_end ?_
      repeat' (refine ycf ?_;(first|(first|(apply ybm;(·(first|(first|(apply yad;(·rfl);(·exact cells_view hK);(·exact hol))|exact qv_slice_arr rfl|(refine qv_str_bs rfl hKb)|(apply yax (cs := [.bool false, .string (bstr key), .slice none 0 0, .slice none 0 0]);(·rfl);(·rfl)))|exact tq_));(·rfl);(·rfl);(·(exact fun _ s => Hd.sub s (by first|exact Le.refl _|exact hle) (fun r hr => by cases hr))))|refine ybl rfl rfl ?_|((fail_if_success (refine ybi rfl ?_));refine ybj rfl ?_ ?_<;>(intro ht;rw [ht];first|replace ht := oet_ ht|replace ht := oef_ ht|skip))|(refine tb_ ?_ ?_ ?_;(·(first|exact ybf|(refine .inl ?_;(exact fun _ s => Hd.sub s (by first|exact Le.refl _|exact hle) (fun r hr => by cases hr)))|exact to_));(·intro _;(first|exact ybf|(refine .inl ?_;(exact fun _ s => Hd.sub s (by first|exact Le.refl _|exact hle) (fun r hr => by cases hr)))|exact to_));intro _)|(first|(refine ybg 0 rfl rfl rfl (by show (bcs key).toArray.size = 32;simpa using hol) (by show 0 + (bcs key).toArray.size ≤ _;rw [List.size_toArray, hol];exact nble rfl) (List.all_eq_true.2 (bcs_one key)) (ybh (by show (bcs key).length = _;rw [hol];rfl)) rfl rfl ?_ ?_ ?_;(·(first|exact ybf|(refine .inl ?_;(exact fun _ s => Hd.sub s (by first|exact Le.refl _|exact hle) (fun r hr => by cases hr)))|exact to_));(·(first|exact ybf|(refine .inl ?_;(exact fun _ s => Hd.sub s (by first|exact Le.refl _|exact hle) (fun r hr => by cases hr)))|exact to_)))|(refine tqs_ ?_ ?_ ?_;(·(first|exact ybf|(refine .inl ?_;(exact fun _ s => Hd.sub s (by first|exact Le.refl _|exact hle) (fun r hr => by cases hr)))|exact to_));(·(first|exact ybf|(refine .inl ?_;(exact fun _ s => Hd.sub s (by first|exact Le.refl _|exact hle) (fun r hr => by cases hr)))|exact to_))))|(apply ybn;(·(first|(first|(apply yad;(·rfl);(·exact cells_view hK);(·exact hol))|exact qv_slice_arr rfl|(refine qv_str_bs rfl hKb)|(apply yax (cs := [.bool false, .string (bstr key), .slice none 0 0, .slice none 0 0]);(·rfl);(·rfl)))|exact tq_));(·rfl);(·rfl);(·rfl);(·(first|exact ybf|(refine .inl ?_;(exact fun _ s => Hd.sub s (by first|exact Le.refl _|exact hle) (fun r hr => by cases hr)))|exact to_))))|refine ycg ?_))
      repeat' (first|(refine ycf ?_;apply ybk;(·first|(first|(apply yad;(·rfl);(·exact cells_view hK);(·exact hol))|exact qv_slice_arr rfl|(refine qv_str_bs rfl hKb)|(apply yax (cs := [.bool false, .string (bstr key), .slice none 0 0, .slice none 0 0]);(·rfl);(·rfl))));(·rfl);(·rfl))|(refine ybg 0 rfl rfl rfl (by show (bcs key).toArray.size = 32;simpa using hol) (by show 0 + (bcs key).toArray.size ≤ _;rw [List.size_toArray, hol];exact nble rfl) (List.all_eq_true.2 (bcs_one key)) (ybh (by show (bcs key).length = _;rw [hol];rfl)) rfl rfl ?_ ?_ ?_;(·(first|exact ybf|(refine .inl ?_;(exact fun _ s => Hd.sub s (by first|exact Le.refl _|exact hle) (fun r hr => by cases hr)))|exact to_));(·(first|exact ybf|(refine .inl ?_;(exact fun _ s => Hd.sub s (by first|exact Le.refl _|exact hle) (fun r hr => by cases hr)))|exact to_)))|refine t1_ ?_|(refine ta_ ?_;intro _)|((fail_if_success (refine ybi rfl ?_));refine ybj rfl ?_ ?_<;>(intro ht;rw [ht];first|replace ht := oet_ ht|replace ht := oef_ ht|skip))|(refine ych ?_;first|(refine ybw rfl ?_ ?_<;>intro ht)|(refine ybx rfl ?_ ?_<;>intro ht)))
      rename_i br
      obtain ⟨h2, bv, bn, bu, bt⟩ := x
      refine nx_ret2 rfl (rv_tmp rfl) (rv_tmp rfl) (fun w' s' => ⟨(h2, bv, bn, bu, bt, br), rfl, ?_, px⟩)
      exact s'.picks [0, 0, 0, 0]
    · repeat' (refine ycf ?_;(first|(first|(apply ybm;(·(first|(first|(apply yad;(·rfl);(·exact cells_view hK);(·exact hol))|exact qv_slice_arr rfl|(refine qv_str_bs rfl hKb)|(apply yax (cs := [.bool false, .string (bstr key), .slice none 0 0, .slice none 0 0]);(·rfl);(·rfl)))|exact tq_));(·rfl);(·rfl);(·(exact fun _ s => Hd.sub s (by first|exact Le.refl _|exact hle) (fun r hr => by cases hr))))|refine ybl rfl rfl ?_|((fail_if_success (refine ybi rfl ?_));refine ybj rfl ?_ ?_<;>(intro ht;rw [ht];first|replace ht := oet_ ht|replace ht := oef_ ht|skip))|(refine tb_ ?_ ?_ ?_;(·(first|exact ybf|(refine .inl ?_;(exact fun _ s => Hd.sub s (by first|exact Le.refl _|exact hle) (fun r hr => by cases hr)))|exact to_));(·intro _;(first|exact ybf|(refine .inl ?_;(exact fun _ s => Hd.sub s (by first|exact Le.refl _|exact hle) (fun r hr => by cases hr)))|exact to_));intro _)|(first|(refine ybg 0 rfl rfl rfl (by show (bcs key).toArray.size = 32;simpa using hol) (by show 0 + (bcs key).toArray.size ≤ _;rw [List.size_toArray, hol];exact nble rfl) (List.all_eq_true.2 (bcs_one key)) (ybh (by show (bcs key).length = _;rw [hol];rfl)) rfl rfl ?_ ?_ ?_;(·(first|exact ybf|(refine .inl ?_;(exact fun _ s => Hd.sub s (by first|exact Le.refl _|exact hle) (fun r hr => by cases hr)))|exact to_));(·(first|exact ybf|(refine .inl ?_;(exact fun _ s => Hd.sub s (by first|exact Le.refl _|exact hle) (fun r hr => by cases hr)))|exact to_)))|(refine tqs_ ?_ ?_ ?_;(·(first|exact ybf|(refine .inl ?_;(exact fun _ s => Hd.sub s (by first|exact Le.refl _|exact hle) (fun r hr => by cases hr)))|exact to_));(·(first|exact ybf|(refine .inl ?_;(exact fun _ s => Hd.sub s (by first|exact Le.refl _|exact hle) (fun r hr => by cases hr)))|exact to_))))|(apply ybn;(·(first|(first|(apply yad;(·rfl);(·exact cells_view hK);(·exact hol))|exact qv_slice_arr rfl|(refine qv_str_bs rfl hKb)|(apply yax (cs := [.bool false, .string (bstr key), .slice none 0 0, .slice none 0 0]);(·rfl);(·rfl)))|exact tq_));(·rfl);(·rfl);(·rfl);(·(first|exact ybf|(refine .inl ?_;(exact fun _ s => Hd.sub s (by first|exact Le.refl _|exact hle) (fun r hr => by cases hr)))|exact to_))))|refine ycg ?_))
      (refine yco (ycp Tryd.func23 rfl (by kernel_rfl) rfl) (Real_sp key hk32 h1) rfl rfl rfl ?_ ?_ ?_;(·(first|exact ybf|(refine .inl ?_;(exact fun _ s => Hd.sub s (by first|exact Le.refl _|exact hle) (fun r hr => by cases hr)))|exact to_));(·intro _ _ hle;(first|exact ybf|(refine .inl ?_;(exact fun _ s => Hd.sub s (by first|exact Le.refl _|exact hle) (fun r hr => by cases hr)))|exact to_));intro x px hle)
      repeat' (refine ycf ?_;(first|(first|(apply ybm;(·(first|(first|(apply yad;(·rfl);(·exact cells_view hK);(·exact hol))|exact qv_slice_arr rfl|(refine qv_str_bs rfl hKb)|(apply yax (cs := [.bool false, .string (bstr key), .slice none 0 0, .slice none 0 0]);(·rfl);(·rfl)))|exact tq_));(·rfl);(·rfl);(·(exact fun _ s => Hd.sub s (by first|exact Le.refl _|exact hle) (fun r hr => by cases hr))))|refine ybl rfl rfl ?_|((fail_if_success (refine ybi rfl ?_));refine ybj rfl ?_ ?_<;>(intro ht;rw [ht];first|replace ht := oet_ ht|replace ht := oef_ ht|skip))|(refine tb_ ?_ ?_ ?_;(·(first|exact ybf|(refine .inl ?_;(exact fun _ s => Hd.sub s (by first|exact Le.refl _|exact hle) (fun r hr => by cases hr)))|exact to_));(·intro _;(first|exact ybf|(refine .inl ?_;(exact fun _ s => Hd.sub s (by first|exact Le.refl _|exact hle) (fun r hr => by cases hr)))|exact to_));intro _)|(first|(refine ybg 0 rfl rfl rfl (by show (bcs key).toArray.size = 32;simpa using hol) (by show 0 + (bcs key).toArray.size ≤ _;rw [List.size_toArray, hol];exact nble rfl) (List.all_eq_true.2 (bcs_one key)) (ybh (by show (bcs key).length = _;rw [hol];rfl)) rfl rfl ?_ ?_ ?_;(·(first|exact ybf|(refine .inl ?_;(exact fun _ s => Hd.sub s (by first|exact Le.refl _|exact hle) (fun r hr => by cases hr)))|exact to_));(·(first|exact ybf|(refine .inl ?_;(exact fun _ s => Hd.sub s (by first|exact Le.refl _|exact hle) (fun r hr => by cases hr)))|exact to_)))|(refine tqs_ ?_ ?_ ?_;(·(first|exact ybf|(refine .inl ?_;(exact fun _ s => Hd.sub s (by first|exact Le.refl _|exact hle) (fun r hr => by cases hr)))|exact to_));(·(first|exact ybf|(refine .inl ?_;(exact fun _ s => Hd.sub s (by first|exact Le.refl _|exact hle) (fun r hr => by cases hr)))|exact to_))))|(apply ybn;(·(first|(first|(apply yad;(·rfl);(·exact cells_view hK);(·exact hol))|exact qv_slice_arr rfl|(refine qv_str_bs rfl hKb)|(apply yax (cs := [.bool false, .string (bstr key), .slice none 0 0, .slice none 0 0]);(·rfl);(·rfl)))|exact tq_));(·rfl);(·rfl);(·rfl);(·(first|exact ybf|(refine .inl ?_;(exact fun _ s => Hd.sub s (by first|exact Le.refl _|exact hle) (fun r hr => by cases hr)))|exact to_))))|refine ycg ?_))
      repeat' (first|(refine ycf ?_;apply ybk;(·first|(first|(apply yad;(·rfl);(·exact cells_view hK);(·exact hol))|exact qv_slice_arr rfl|(refine qv_str_bs rfl hKb)|(apply yax (cs := [.bool false, .string (bstr key), .slice none 0 0, .slice none 0 0]);(·rfl);(·rfl))));(·rfl);(·rfl))|(refine ybg 0 rfl rfl rfl (by show (bcs key).toArray.size = 32;simpa using hol) (by show 0 + (bcs key).toArray.size ≤ _;rw [List.size_toArray, hol];exact nble rfl) (List.all_eq_true.2 (bcs_one key)) (ybh (by show (bcs key).length = _;rw [hol];rfl)) rfl rfl ?_ ?_ ?_;(·(first|exact ybf|(refine .inl ?_;(exact fun _ s => Hd.sub s (by first|exact Le.refl _|exact hle) (fun r hr => by cases hr)))|exact to_));(·(first|exact ybf|(refine .inl ?_;(exact fun _ s => Hd.sub s (by first|exact Le.refl _|exact hle) (fun r hr => by cases hr)))|exact to_)))|refine t1_ ?_|(refine ta_ ?_;intro _)|((fail_if_success (refine ybi rfl ?_));refine ybj rfl ?_ ?_<;>(intro ht;rw [ht];first|replace ht := oet_ ht|replace ht := oef_ ht|skip))|(refine ych ?_;first|(refine ybw rfl ?_ ?_<;>intro ht)|(refine ybx rfl ?_ ?_<;>intro ht)))
      rename_i br
      obtain ⟨h2, bv, bn, bu, bt⟩ := x
      refine nx_ret2 rfl (rv_tmp rfl) (rv_tmp rfl) (fun w' s' => ⟨(h2, bv, bn, bu, bt, br), rfl, ?_, px⟩)
      exact s'.picks [3, 0, 0, 0]
  · repeat' (first|(refine ycf ?_;apply ybk;(·first|(first|(apply yad;(·rfl);(·exact cells_view hK);(·exact hol))|exact qv_slice_arr rfl|(refine qv_str_bs rfl hKb)|(apply yax (cs := [.bool false, .string (bstr key), .slice none 0 0, .slice none 0 0]);(·rfl);(·rfl))));(·rfl);(·rfl))|(refine ybg 0 rfl rfl rfl (by show (bcs key).toArray.size = 32;simpa using hol) (by show 0 + (bcs key).toArray.size ≤ _;rw [List.size_toArray, hol];exact nble rfl) (List.all_eq_true.2 (bcs_one key)) (ybh (by show (bcs key).length = _;rw [hol];rfl)) rfl rfl ?_ ?_ ?_;(·(first|exact ybf|(refine .inl ?_;(exact fun _ s => Hd.sub s (by first|exact Le.refl _|exact hle) (fun r hr => by cases hr)))|exact to_));(·(first|exact ybf|(refine .inl ?_;(exact fun _ s => Hd.sub s (by first|exact Le.refl _|exact hle) (fun r hr => by cases hr)))|exact to_)))|refine t1_ ?_|(refine ta_ ?_;intro _)|((fail_if_success (refine ybi rfl ?_));refine ybj rfl ?_ ?_<;>(intro ht;rw [ht];first|replace ht := oet_ ht|replace ht := oef_ ht|skip))|(refine ych ?_;first|(refine ybw rfl ?_ ?_<;>intro ht)|(refine ybx rfl ?_ ?_<;>intro ht)))
    rename_i bk
    refine cx_bview 0 rfl rfl fun h1 hle1 hK => ?_
    have hK : h1 bk = some (.cells (bcs key).toArray 25 (0, 0)) := hK
    have hKb : Bs8 h1 (.slice (some ⟨bk, 0, none⟩) 32 32) key := by
      have := bs_blk (o := 0) (m := 32) (c := 32) hK (i := 0) (j := 32) (by omega) (by omega) rfl rfl (by omega)
      rw [List.drop_zero, List.take_of_length_le (by omega)] at this
      exact this
    refine cx_region_floX [] [1, 5, 7] [0, 2, 3, 4] [1] 5 [6, 7] rfl (by kernel_rfl) ?_
    repeat' (refine ycf ?_;(first|(first|(apply ybm;(·(first|(first|(apply yad;(·rfl);(·exact cells_view hK);(·exact hol))|exact qv_slice_arr rfl|(refine qv_str_bs rfl hKb)|(apply yax (cs := [.bool true, .string (bstr key), .slice none 0 0, .slice none 0 0]);(·rfl);(·rfl)))|exact tq_));(·rfl);(·rfl);(·(exact fun _ s => Hd.sub s (Le.refl _) (fun r hr => by cases hr))))|refine ybl rfl rfl ?_|((fail_if_success (refine ybi rfl ?_));refine ybj rfl ?_ ?_<;>(intro ht;rw [ht];first|replace ht := oet_ ht|replace ht := oef_ ht|skip))|(refine tb_ ?_ ?_ ?_;(·(first|exact ybf|(refine .inl ?_;(exact fun _ s => Hd.sub s (Le.refl _) (fun r hr => by cases hr)))|exact to_));(·intro _;(first|exact ybf|(refine .inl ?_;(exact fun _ s => Hd.sub s (Le.refl _) (fun r hr => by cases hr)))|exact to_));intro _)|(first|(refine ybg 0 rfl rfl rfl (by show (bcs key).toArray.size = 32;simpa using hol) (by show 0 + (bcs key).toArray.size ≤ _;rw [List.size_toArray, hol];exact nble rfl) (List.all_eq_true.2 (bcs_one key)) (ybh (by show (bcs key).length = _;rw [hol];rfl)) rfl rfl ?_ ?_ ?_;(·(first|exact ybf|(refine .inl ?_;(exact fun _ s => Hd.sub s (Le.refl _) (fun r hr => by cases hr)))|exact to_));(·(first|exact ybf|(refine .inl ?_;(exact fun _ s => Hd.sub s (Le.refl _) (fun r hr => by cases hr)))|exact to_)))|(refine tqs_ ?_ ?_ ?_;(·(first|exact ybf|(refine .inl ?_;(exact fun _ s => Hd.sub s (Le.refl _) (fun r hr => by cases hr)))|exact to_));(·(first|exact ybf|(refine .inl ?_;(exact fun _ s => Hd.sub s (Le.refl _) (fun r hr => by cases hr)))|exact to_))))|(apply ybn;(·(first|(first|(apply yad;(·rfl);(·exact cells_view hK);(·exact hol))|exact qv_slice_arr rfl|(refine qv_str_bs rfl hKb)|(apply yax (cs := [.bool true, .string (bstr key), .slice none 0 0, .slice none 0 0]);(·rfl);(·rfl)))|exact tq_));(·rfl);(·rfl);(·rfl);(·(first|exact ybf|(refine .inl ?_;(exact fun _ s => Hd.sub s (Le.refl _) (fun r hr => by cases hr)))|exact to_))))|refine ycg ?_))
    refine nx_flo 1 [] [] (by kernel_rfl) ?_ ?_
    · (refine yco (ycp Tryd.func5 rfl (by kernel_rfl) rfl) (Ideal_sp key hk32 h1) rfl rfl rfl ?_ ?_ ?_;(·(first|exact ybf|(refine .inl ?_;(exact fun _ s => Hd.sub s (by first|exact Le.refl _|exact hle) (fun r hr => by cases hr)))|exact to_));(·intro _ _ hle;(first|exact ybf|(refine .inl ?_;(exact fun _ s => Hd.sub s (by first|exact Le.refl _|exact hle) (fun r hr => by cases hr)))|exact to_));intro x px hle)
      repeat' (refine ycf ?_;(first|(first|(apply ybm;(·(first|(first|(apply yad;(·rfl);(·exact cells_view hK);(·exact hol))|exact qv_slice_arr rfl|(refine qv_str_bs rfl hKb)|(apply yax (cs := [.bool true, .string (bstr key), .slice none 0 0, .slice none 0 0]);(·rfl);(·rfl)))|exact tq_));(·rfl);(·rfl);(·(exact fun _ s => Hd.sub s (by first|exact Le.refl _|exact hle) (fun r hr => by cases hr))))|refine ybl rfl rfl ?_|((fail_if_success (refine ybi rfl ?_));refine ybj rfl ?_ ?_<;>(intro ht;rw [ht];first|replace ht := oet_ ht|replace ht := oef_ ht|skip))|(refine tb_ ?_ ?_ ?_;(·(first|exact ybf|(refine .inl ?_;(exact fun _ s => Hd.sub s (by first|exact Le.refl _|exact hle) (fun r hr => by cases hr)))|exact to_));(·intro _;(first|exact ybf|(refine .inl ?_;(exact fun _ s => Hd.sub s (by first|exact Le.refl _|exact hle) (fun r hr => by cases hr)))|exact to_));intro _)|(first|(refine ybg 0 rfl rfl rfl (by show (bcs key).toArray.size = 32;simpa using hol) (by show 0 + (bcs key).toArray.size ≤ _;rw [List.size_toArray, hol];exact nble rfl) (List.all_eq_true.2 (bcs_one key)) (ybh (by show (bcs key).length = _;rw [hol];rfl)) rfl rfl ?_ ?_ ?_;(·(first|exact ybf|(refine .inl ?_;(exact fun _ s => Hd.sub s (by first|exact Le.refl _|exact hle) (fun r hr => by cases hr)))|exact to_));(·(first|exact ybf|(refine .inl ?_;(exact fun _ s => Hd.sub s (by first|exact Le.refl _|exact hle) (fun r hr => by cases hr)))|exact to_)))|(refine tqs_ ?_ ?_ ?_;(·(first|exact ybf|(refine .inl ?_;(exact fun _ s => Hd.sub s (by first|exact Le.refl _|exact hle) (fun r hr => by cases hr)))|exact to_));(·(first|exact ybf|(refine .inl ?_;(exact fun _ s => Hd.sub s (by first|exact Le.refl _|exact hle) (fun r hr => by cases hr)))|exact to_))))|(apply ybn;(·(first|(first|(apply yad;(·rfl);(·exact cells_view hK);(·exact hol))|exact qv_slice_arr rfl|(refine qv_str_bs rfl hKb)|(apply yax (cs := [.bool true, .string (bstr key), .slice none 0 0, .slice none 0 0]);(·rfl);(·rfl)))|exact tq_));(·rfl);(·rfl);(·rfl);(·(first|exact ybf|(refine .inl ?_;(exact fun _ s => Hd.sub s (by first|exact Le.refl _|exact hle) (fun r hr => by cases hr)))|exact to_))))|refine ycg ?_))
      refine nx_flo_end ?_
      repeat' (refine ycf ?_;(first|(first|(apply ybm;(·(first|(first|(apply yad;(·rfl);(·exact cells_view hK);(·exact hol))|exact qv_slice_arr rfl|(refine qv_str_bs rfl hKb)|(apply yax (cs := [.bool true, .string (bstr key), .slice none 0 0, .slice none 0 0]);(·rfl);(·rfl)))|exact tq_));(·rfl);(·rfl);(·(exact fun _ s => Hd.sub s (by first|exact Le.refl _|exact hle) (fun r hr => by cases hr))))|refine ybl rfl rfl ?_|((fail_if_success (refine ybi rfl ?_));refine ybj rfl ?_ ?_<;>(intro ht;rw [ht];first|replace ht := oet_ ht|replace ht := oef_ ht|skip))|(refine tb_ ?_ ?_ ?_;(·(first|exact ybf|(refine .inl ?_;(exact fun _ s => Hd.sub s (by first|exact Le.refl _|exact hle) (fun r hr => by cases hr)))|exact to_));(·intro _;(first|exact ybf|(refine .inl ?_;(exact fun _ s => Hd.sub s (by first|exact Le.refl _|exact hle) (fun r hr => by cases hr)))|exact to_));intro _)|(first|(refine ybg 0 rfl rfl rfl (by show (bcs key).toArray.size = 32;simpa using hol) (by show 0 + (bcs key).toArray.size ≤ _;rw [List.size_toArray, hol];exact nble rfl) (List.all_eq_true.2 (bcs_one key)) (ybh (by show (bcs key).length = _;rw [hol];rfl)) rfl rfl ?_ ?_ ?_;(·(first|exact ybf|(refine .inl ?_;(exact fun _ s => Hd.sub s (by first|exact Le.refl _|exact hle) (fun r hr => by cases hr)))|exact to_));(·(first|exact ybf|(refine .inl ?_;(exact fun _ s => Hd.sub s (by first|exact Le.refl _|exact hle) (fun r hr => by cases hr)))|exact to_)))|(refine tqs_ ?_ ?_ ?_;(·(first|exact ybf|(refine .inl ?_;(exact fun _ s => Hd.sub s (by first|exact Le.refl _|exact hle) (fun r hr => by cases hr)))|exact to_));(·(first|exact ybf|(refine .inl ?_;(exact fun _ s => Hd.sub s (by first|exact Le.refl _|exact hle) (fun r hr => by cases hr)))|exact to_))))|(apply ybn;(·(first|(first|(apply yad;(·rfl);(·exact cells_view hK);(·exact hol))|exact qv_slice_arr rfl|(refine qv_str_bs rfl hKb)|(apply yax (cs := [.bool true, .string (bstr key), .slice none 0 0, .slice none 0 0]);(·rfl);(·rfl)))|exact tq_));(·rfl);(·rfl);(·rfl);(·(first|exact ybf|(refine .inl ?_;(exact fun _ s => Hd.sub s (by first|exact Le.refl _|exact hle) (fun r hr => by cases hr)))|exact to_))))|refine ycg ?_))
      repeat' (first|(refine ycf ?_;apply ybk;(·first|(first|(apply yad;(·rfl);(·exact cells_view hK);(·exact hol))|exact qv_slice_arr rfl|(refine qv_str_bs rfl hKb)|(apply yax (cs := [.bool true, .string (bstr key), .slice none 0 0, .slice none 0 0]);(·rfl);(·rfl))));(·rfl);(·rfl))|(refine ybg 0 rfl rfl rfl (by show (bcs key).toArray.size = 32;simpa using hol) (by show 0 + (bcs key).toArray.size ≤ _;rw [List.size_toArray, hol];exact nble rfl) (List.all_eq_true.2 (bcs_one key)) (ybh (by show (bcs key).length = _;rw [hol];rfl)) rfl rfl ?_ ?_ ?_;(·(first|exact ybf|(refine .inl ?_;(exact fun _ s => Hd.sub s (by first|exact Le.refl _|exact hle) (fun r hr => by cases hr)))|exact to_));(·(first|exact ybf|(refine .inl ?_;(exact fun _ s => Hd.sub s (by first|exact Le.refl _|exact hle) (fun r hr => by cases hr)))|exact to_)))|refine t1_ ?_|(refine ta_ ?_;intro _)|((fail_if_success (refine ybi rfl ?_));refine ybj rfl ?_ ?_<;>(intro ht;rw [ht];first|replace ht := oet_ ht|replace ht := oef_ ht|skip))|(refine ych ?_;first|(refine ybw rfl ?_ ?_<;>intro ht)|(refine ybx rfl ?_ ?_<;>intro ht)))
      rename_i br
      obtain ⟨h2, bv, bn, bu, bt⟩ := x
      refine nx_ret2 rfl (rv_tmp rfl) (rv_tmp rfl) (fun w' s' => ⟨(h2, bv, bn, bu, bt, br), rfl, ?_, px⟩)
      exact s'.picks [0, 0, 0, 0]
    · repeat' (refine ycf ?_;(first|(first|(apply ybm;(·(first|(first|(apply yad;(·rfl);(·exact cells_view hK);(·exact hol))|exact qv_slice_arr rfl|(refine qv_str_bs rfl hKb)|(apply yax (cs := [.bool true, .string (bstr key), .slice none 0 0, .slice none 0 0]);(·rfl);(·rfl)))|exact tq_));(·rfl);(·rfl);(·(exact fun _ s => Hd.sub s (by first|exact Le.refl _|exact hle) (fun r hr => by cases hr))))|refine ybl rfl rfl ?_|((fail_if_success (refine ybi rfl ?_));refine ybj rfl ?_ ?_<;>(intro ht;rw [ht];first|replace ht := oet_ ht|replace ht := oef_ ht|skip))|(refine tb_ ?_ ?_ ?_;(·(first|exact ybf|(refine .inl ?_;(exact fun _ s => Hd.sub s (by first|exact Le.refl _|exact hle) (fun r hr => by cases hr)))|exact to_));(·intro _;(first|exact ybf|(refine .inl ?_;(exact fun _ s => Hd.sub s (by first|exact Le.refl _|exact hle) (fun r hr => by cases hr)))|exact to_));intro _)|(first|(refine ybg 0 rfl rfl rfl (by show (bcs key).toArray.size = 32;simpa using hol) (by show 0 + (bcs key).toArray.size ≤ _;rw [List.size_toArray, hol];exact nble rfl) (List.all_eq_true.2 (bcs_one key)) (ybh (by show (bcs key).length = _;rw [hol];rfl)) rfl rfl ?_ ?_ ?_;(·(first|exact ybf|(refine .inl ?_;(exact fun _ s => Hd.sub s (by first|exact Le.refl _|exact hle) (fun r hr => by cases hr)))|exact to_));(·(first|exact ybf|(refine .inl ?_;(exact fun _ s => Hd.sub s (by first|exact Le.refl _|exact hle) (fun r hr => by cases hr)))|exact to_)))|(refine tqs_ ?_ ?_ ?_;(·(first|exact ybf|(refine .inl ?_;(exact fun _ s => Hd.sub s (by first|exact Le.refl _|exact hle) (fun r hr => by cases hr)))|exact to_));(·(first|exact ybf|(refine .inl ?_;(exact fun _ s => Hd.sub s (by first|exact Le.refl _|exact hle) (fun r hr => by cases hr)))|exact to_))))|(apply ybn;(·(first|(first|(apply yad;(·rfl);(·exact cells_view hK);(·exact hol))|exact qv_slice_arr rfl|(refine qv_str_bs rfl hKb)|(apply yax (cs := [.bool true, .string (bstr key), .slice none 0 0, .slice none 0 0]);(·rfl);(·rfl)))|exact tq_));(·rfl);(·rfl);(·rfl);(·(first|exact ybf|(refine .inl ?_;(exact fun _ s => Hd.sub s (by first|exact Le.refl _|exact hle) (fun r hr => by cases hr)))|exact to_))))|refine ycg ?_))
      (refine yco (ycp Tryd.func5 rfl (by kernel_rfl) rfl) (Ideal_sp key hk32 h1) rfl rfl rfl ?_ ?_ ?_;(·(first|exact ybf|(refine .inl ?_;(exact fun _ s => Hd.sub s (by first|exact Le.refl _|exact hle) (fun r hr => by cases hr)))|exact to_));(·intro _ _ hle;(first|exact ybf|(refine .inl ?_;(exact fun _ s => Hd.sub s (by first|exact Le.refl _|exact hle) (fun r hr => by cases hr)))|exact to_));intro x px hle)
      repeat' (refine ycf ?_;(first|(first|(apply ybm;(·(first|(first|(apply yad;(·rfl);(·exact cells_view hK);(·exact hol))|exact qv_slice_arr rfl|(refine qv_str_bs rfl hKb)|(apply yax (cs := [.bool true, .string (bstr key), .slice none 0 0, .slice none 0 0]);(·rfl);(·rfl)))|exact tq_));(·rfl);(·rfl);(·(exact fun _ s => Hd.sub s (by first|exact Le.refl _|exact hle) (fun r hr => by cases hr))))|refine ybl rfl rfl ?_|((fail_if_success (refine ybi rfl ?_));refine ybj rfl ?_ ?_<;>(intro ht;rw [ht];first|replace ht := oet_ ht|replace ht := oef_ ht|skip))|(refine tb_ ?_ ?_ ?_;(·(first|exact ybf|(refine .inl ?_;(exact fun _ s => Hd.sub s (by first|exact Le.refl _|exact hle) (fun r hr => by cases hr)))|exact to_));(·intro _;(first|exact ybf|(refine .inl ?_;(exact fun _ s => Hd.sub s (by first|exact Le.refl _|exact hle) (fun r hr => by cases hr)))|exact to_));intro _)|(first|(refine ybg 0 rfl rfl rfl (by show (bcs key).toArray.size = 32;simpa using hol) (by show 0 + (bcs key).toArray.size ≤ _;rw [List.size_toArray, hol];exact nble rfl) (List.all_eq_true.2 (bcs_one key)) (ybh (by show (bcs key).length = _;rw [hol];rfl)) rfl rfl ?_ ?_ ?_;(·(first|exact ybf|(refine .inl ?_;(exact fun _ s => Hd.sub s (by first|exact Le.refl _|exact hle) (fun r hr => by cases hr)))|exact to_));(·(first|exact ybf|(refine .inl ?_;(exact fun _ s => Hd.sub s (by first|exact Le.refl _|exact hle) (fun r hr => by cases hr)))|exact to_)))|(refine tqs_ ?_ ?_ ?_;(·(first|exact ybf|(refine .inl ?_;(exact fun _ s => Hd.sub s (by first|exact Le.refl _|exact hle) (fun r hr => by cases hr)))|exact to_));(·(first|exact ybf|(refine .inl ?_;(exact fun _ s => Hd.sub s (by first|exact Le.refl _|exact hle) (fun r hr => by cases hr)))|exact to_))))|(apply ybn;(·(first|(first|(apply yad;(·rfl);(·exact cells_view hK);(·exact hol))|exact qv_slice_arr rfl|(refine qv_str_bs rfl hKb)|(apply yax (cs := [.bool true, .string (bstr key), .slice none 0 0, .slice none 0 0]);(·rfl);(·rfl)))|exact tq_));(·rfl);(·rfl);(·rfl);(·(first|exact ybf|(refine .inl ?_;(exact fun _ s => Hd.sub s (by first|exact Le.refl _|exact hle) (fun r hr => by cases hr)))|exact to_))))|refine ycg ?_))
      repeat' (first|(refine ycf ?_;apply ybk;(·first|(first|(apply yad;(·rfl);(·exact cells_view hK);(·exact hol))|exact qv_slice_arr rfl|(refine qv_str_bs rfl hKb)|(apply yax (cs := [.bool true, .string (bstr key), .slice none 0 0, .slice none 0 0]);(·rfl);(·rfl))));(·rfl);(·rfl))|(refine ybg 0 rfl rfl rfl (by show (bcs key).toArray.size = 32;simpa using hol) (by show 0 + (bcs key).toArray.size ≤ _;rw [List.size_toArray, hol];exact nble rfl) (List.all_eq_true.2 (bcs_one key)) (ybh (by show (bcs key).length = _;rw [hol];rfl)) rfl rfl ?_ ?_ ?_;(·(first|exact ybf|(refine .inl ?_;(exact fun _ s => Hd.sub s (by first|exact Le.refl _|exact hle) (fun r hr => by cases hr)))|exact to_));(·(first|exact ybf|(refine .inl ?_;(exact fun _ s => Hd.sub s (by first|exact Le.refl _|exact hle) (fun r hr => by cases hr)))|exact to_)))|refine t1_ ?_|(refine ta_ ?_;intro _)|((fail_if_success (refine ybi rfl ?_));refine ybj rfl ?_ ?_<;>(intro ht;rw [ht];first|replace ht := oet_ ht|replace ht := oef_ ht|skip))|(refine ych ?_;first|(refine ybw rfl ?_ ?_<;>intro ht)|(refine ybx rfl ?_ ?_<;>intro ht)))
      rename_i br
      obtain ⟨h2, bv, bn, bu, bt⟩ := x
      refine nx_ret2 rfl (rv_tmp rfl) (rv_tmp rfl) (fun w' s' => ⟨(h2, bv, bn, bu, bt, br), rfl, ?_, px⟩)
      exact s'.picks [3, 0, 0, 0]
end Go.Proofs.YtgeepceieckooaaDoor
end
