/-
  CkFork: a region that draws its order, in which two loud operations may come either way about: both orders are walked from these two on.
  Conditions: the Bool 'forkOk' holds of the region and of the order given; the program follows mixed orders.
-/
import Derived.Test.YtbpahaciegfpfaaCkBase
namespace Go.Ck
open Go
set_option linter.unusedVariables false
section
variable {P : Program} {ops : Array Oper} {S : World → Prop}

structure InvR (ops : Array Oper) (rk : Nat → Nat) (listed : Array Bool) (prs : List (Nat × Oper)) : Prop where
  pr : ∀ p ∈ prs, ops[p.1]? = some p.2
  sorted : prs.Pairwise (fun p q => rk p.1 < rk q.1)
  left : ∀ i, i < ops.size → (listed.getD i true = false ↔ ∃ o, (i, o) ∈ prs)
  closed : ∀ i o, ops[i]? = some o → listed.getD i false = true → ∀ e ∈ o.after, Region.binds .any e = true → listed.getD e.on false = true
  size : listed.size = ops.size

theorem InvR.step {rk : Nat → Nat} {listed : Array Bool} {l1 l2 : List (Nat × Oper)} {i : Nat} {o : Oper} (inv : InvR ops rk listed (l1 ++ (i, o) :: l2)) (hr : i ∈ Region.ready .any ops listed) :
    InvR ops rk (listed.setIfInBounds i true) (l1 ++ l2) := by
  have hio : ops[i]? = some o := inv.pr (i, o) (by simp)
  have hlt : i < ops.size := (Array.getElem?_eq_some_iff.1 hio).1
  obtain ⟨hun, o', ho', hall⟩ := mem_ready.1 hr
  have hoo : o' = o := by rw [hio] at ho'; cases ho'; rfl
  subst hoo
  refine ⟨fun p hp => inv.pr p ?_, ?_, fun k hk => ?_, fun k ok hok hl e he hb => ?_, by simp [inv.size]⟩
  · rcases List.mem_append.1 hp with hp | hp
    · exact List.mem_append_left _ hp
    · exact List.mem_append_right _ (List.mem_cons_of_mem _ hp)
  · exact inv.sorted.sublist (List.Sublist.append_left (List.sublist_cons_self _ _) _)
  · by_cases hki : i = k
    · subst hki
      have : (listed.setIfInBounds i true).getD i true = true := by simp [inv.size, hlt]
      rw [this]
      simp only [Bool.true_eq_false, false_iff, not_exists]
      intro o2 hm
      have hs := inv.sorted
      rw [List.pairwise_append] at hs
      obtain ⟨_, s2, s3⟩ := hs
      rcases List.mem_append.1 hm with hm | hm
      · have := s3 _ hm (i, o') (List.mem_cons_self ..)
        simp at this
      · have := (List.pairwise_cons.1 s2).1 _ hm
        simp at this
    · rw [getD_set_ne true hki, inv.left k hk]
      constructor
      · rintro ⟨o2, hm⟩
        refine ⟨o2, ?_⟩
        rcases List.mem_append.1 hm with hm | hm
        · exact List.mem_append_left _ hm
        · rcases List.mem_cons.1 hm with hm | hm
          · cases hm; exact absurd rfl hki
          · exact List.mem_append_right _ hm
      · rintro ⟨o2, hm⟩
        refine ⟨o2, ?_⟩
        rcases List.mem_append.1 hm with hm | hm
        · exact List.mem_append_left _ hm
        · exact List.mem_append_right _ (List.mem_cons_of_mem _ hm)
  · by_cases hki : i = k
    · subst hki
      have : ok = o' := by rw [hio] at hok; cases hok; rfl
      subst this
      exact getD_set_true (hall e he hb)
    · rw [getD_set_ne false hki] at hl
      exact getD_set_true (inv.closed k ok hok hl e he hb)

def lexOkR (ops : Array Oper) (ms : List Nat) (lo bar : Nat → Bool) (rk : Nat → Nat) (exc : Nat → Nat → Bool) : Bool :=
  maskOk ops ms && Region.noSelect ops && (List.range ops.size).all fun i =>
    (match ops[i]? with | some o => o.after.toList.all fun e => !Region.binds .any e || decide (rk e.on < rk i) | none => true) &&
    (List.range ops.size).all fun j => !decide (rk j < rk i) || exc j i || pairOk ops ms lo bar j i

section
variable {lo bar : Nat → Bool} {ms : List Nat} {rk : Nat → Nat} {exc : Nat → Nat → Bool}
theorem lexOkR_mask (hB : lexOkR ops ms lo bar rk exc = true) : maskOk ops ms = true := by
  simp only [lexOkR, Bool.and_eq_true] at hB; exact hB.1.1
theorem lexOkR_sel (hB : lexOkR ops ms lo bar rk exc = true) : Region.noSelect ops = true := by
  simp only [lexOkR, Bool.and_eq_true] at hB; exact hB.1.2
theorem lexOkR_edge (hB : lexOkR ops ms lo bar rk exc = true) {i : Nat} {o : Oper} (hi : ops[i]? = some o) {e : Edge} (he : e ∈ o.after) (hb : Region.binds .any e = true) : rk e.on < rk i := by
  simp only [lexOkR, Bool.and_eq_true] at hB
  have hlt : i < ops.size := (Array.getElem?_eq_some_iff.1 hi).1
  have h1 := List.all_eq_true.1 hB.2 i (List.mem_range.2 hlt)
  simp only [hi, Bool.and_eq_true] at h1
  have h2 := List.all_eq_true.1 h1.1 e (Array.mem_toList_iff.2 he)
  simpa [hb] using h2
theorem lexOkR_pair (hB : lexOkR ops ms lo bar rk exc = true) {i j : Nat} (hi : i < ops.size) (hj : j < ops.size) (hr : rk j < rk i) (hx : exc j i = false) : pairOk ops ms lo bar j i = true := by
  simp only [lexOkR, Bool.and_eq_true] at hB
  have h1 := List.all_eq_true.1 hB.2 i (List.mem_range.2 hi)
  simp only [Bool.and_eq_true] at h1
  have h2 := List.all_eq_true.1 h1.2 j (List.mem_range.2 hj)
  simpa [hr, hx] using h2

theorem headR (hB : lexOkR ops ms lo bar rk exc = true) : ∀ (prs : List (Nat × Oper)) (listed : Array Bool), InvR ops rk listed prs → Region.ready .any ops listed = [] → prs = [] := by
  intro prs listed inv hr
  cases prs with
  | nil => rfl
  | cons p r =>
    obtain ⟨i, o⟩ := p
    have hio : ops[i]? = some o := inv.pr (i, o) (List.mem_cons_self ..)
    have hlt : i < ops.size := (Array.getElem?_eq_some_iff.1 hio).1
    have : i ∈ Region.ready .any ops listed := by
      refine mem_ready.2 ⟨(inv.left i hlt).2 ⟨o, List.mem_cons_self ..⟩, o, hio, fun e he hb => ?_⟩
      have hei := (maskOk_spec (lexOkR_mask hB) hio).2 e he hb
      have hrk := lexOkR_edge hB hio he hb
      have hel : e.on < ops.size := by omega
      rw [← getD_tf (by rw [inv.size]; exact hel)]
      cases hg : listed.getD e.on true with
      | true => rfl
      | false =>
        obtain ⟨o2, hm2⟩ := (inv.left _ hel).1 hg
        rcases List.mem_cons.1 hm2 with hm2 | hm2
        · cases hm2; omega
        · have h9 : rk i < rk e.on := (List.pairwise_cons.1 inv.sorted).1 _ hm2
          omega
    rw [hr] at this
    cases this

/-- what stands ahead of a ready operation may be passed -/
theorem passR (hB : lexOkR ops ms lo bar rk exc = true) {listed : Array Bool} {prs : List (Nat × Oper)} (inv : InvR ops rk listed prs) {i : Nat} {o : Oper} (hio : ops[i]? = some o) (hi : i ∈ Region.ready .any ops listed) {p : Nat × Oper} (hp : p ∈ prs) (hr : rk p.1 < rk i) (hx : exc p.1 i = false) :
    p.2.apart ops o = true ∧ (lo i && lo p.1) = false ∧ bar i = false ∧ bar p.1 = false ∧ (∀ cs b, o.op ≠ .select cs b) ∧ (∀ cs b, p.2.op ≠ .select cs b) := by
  obtain ⟨hun, o', ho', hall⟩ := mem_ready.1 hi
  have : o' = o := by rw [hio] at ho'; cases ho'; rfl
  subst this
  have hlt := (Array.getElem?_eq_some_iff.1 hio).1
  have hpo : ops[p.1]? = some p.2 := inv.pr p hp
  have hpl := (Array.getElem?_eq_some_iff.1 hpo).1
  have hpair' := lexOkR_pair hB hlt hpl hr hx
  unfold pairOk at hpair'
  simp only [hpo, hio, Bool.or_eq_true, Bool.and_eq_true, Bool.not_eq_true'] at hpair'
  rcases hpair' with hp1 | ⟨⟨⟨q1, q2⟩, q3⟩, q4⟩
  · exfalso
    have hlj := mask_listed (lexOkR_mask hB) inv.closed i o' hio hall p.1 hp1
    have := (inv.left p.1 hpl).2 ⟨p.2, hp⟩
    rw [getD_tf (by rw [inv.size]; exact hpl)] at this
    rw [this] at hlj
    cases hlj
  · exact ⟨q1, q2, q3, q4, fun cs b => Region.noSelect_spec (lexOkR_sel hB) i o' cs b hio, fun cs b => Region.noSelect_spec (lexOkR_sel hB) p.1 p.2 cs b hpo⟩

theorem lexR_any {Q : Exit → Act → World → Prop} (hB : lexOkR ops ms lo bar rk exc = true) :
    ∀ (fuel : Nat) (prs : List (Nat × Oper)) (listed : Array Bool) (a : Act) (w : World), prs.length ≤ fuel → InvR ops rk listed prs → (∀ p ∈ prs, ∀ q ∈ prs, exc p.1 q.1 = false) →
      wpX P ops S lo bar (Q .normal) prs a w → wpAny P .any ops Q fuel listed a w := by
  intro fuel
  induction fuel with
  | zero =>
    intro prs listed a w hl inv hx h
    have : prs = [] := List.eq_nil_of_length_eq_zero (by omega)
    subst this
    refine ⟨?_, h⟩
    cases hr : Region.ready .any ops listed with
    | nil => rfl
    | cons i r =>
      have hi : i ∈ Region.ready .any ops listed := by rw [hr]; exact List.mem_cons_self ..
      obtain ⟨hun, o, ho, _⟩ := mem_ready.1 hi
      obtain ⟨_, hm2⟩ := (inv.left i (Array.getElem?_eq_some_iff.1 ho).1).1 hun
      cases hm2
  | succ fuel ih =>
    intro prs listed a w hl inv hx h
    refine ⟨fun hr => by rw [headR hB prs listed inv hr] at h; exact h, fun i hi => ?_⟩
    obtain ⟨hun, o, ho, hall⟩ := mem_ready.1 hi
    have hlt := (Array.getElem?_eq_some_iff.1 ho).1
    obtain ⟨o', hm2⟩ := (inv.left i hlt).1 hun
    have : o' = o := by have := inv.pr _ hm2; rw [ho] at this; cases this; rfl
    subst this
    obtain ⟨l1, l2, rfl⟩ := List.append_of_mem hm2
    have hb := bring (P := P) (S := S) (lo := lo) (bar := bar) (Q := Q .normal) (i := i) (o := o') l2 l1 (fun p hp => ?_) a w h
    · refine (R1.mono (fun a' w' h' => ih (l1 ++ l2) (listed.setIfInBounds i true) a' w' (by simp at hl ⊢; omega) (inv.step hi) (fun p hp q hq => hx p ?_ q ?_) h') hb).op ho
      · rcases List.mem_append.1 hp with hp | hp
        · exact List.mem_append_left _ hp
        · exact List.mem_append_right _ (List.mem_cons_of_mem _ hp)
      · rcases List.mem_append.1 hq with hq | hq
        · exact List.mem_append_left _ hq
        · exact List.mem_append_right _ (List.mem_cons_of_mem _ hq)
    · have hs := inv.sorted
      rw [List.pairwise_append] at hs
      exact passR hB inv ho hi (List.mem_append_left _ hp) (hs.2.2 p hp (i, o') (List.mem_cons_self ..)) (hx p (List.mem_append_left _ hp) (i, o') (by simp))

theorem wpX_append {Q : Act → World → Prop} : ∀ (l1 l2 : List (Nat × Oper)) (a : Act) (w : World), wpX P ops S lo bar Q (l1 ++ l2) a w ↔ wpX P ops S lo bar (wpX P ops S lo bar Q l2) l1 a w
  | [], l2, a, w => Iff.rfl
  | (i, o) :: l1, l2, a, w => by
    have : (fun a w => wpX P ops S lo bar Q (l1 ++ l2) a w) = (fun a w => wpX P ops S lo bar (wpX P ops S lo bar Q l2) l1 a w) := by
      funext a w; exact propext (wpX_append l1 l2 a w)
    show R1 P ops S (lo i) (bar i) o (fun a w => wpX P ops S lo bar Q (l1 ++ l2) a w) a w ↔ R1 P ops S (lo i) (bar i) o (fun a w => wpX P ops S lo bar (wpX P ops S lo bar Q l2) l1 a w) a w
    rw [this]
theorem wpX_mono {Q Q' : Act → World → Prop} (hq : ∀ a w, Q a w → Q' a w) : ∀ (l : List (Nat × Oper)) (a : Act) (w : World), wpX P ops S lo bar Q l a w → wpX P ops S lo bar Q' l a w
  | [], a, w, h => hq a w h
  | (i, o) :: l, a, w, h => R1.mono (fun a w h => wpX_mono hq l a w h) h

theorem fork_any {Q : Exit → Act → World → Prop} {x y : Nat} {ox oy : Oper} {rest : List (Nat × Oper)} (hB : lexOkR ops ms lo bar rk (fun j i => j == x && i == y) = true)
    (hrest : ∀ p ∈ rest, (ms.getD p.1 0).testBit x = true) :
    ∀ (fuel : Nat) (pre : List (Nat × Oper)) (listed : Array Bool) (a : Act) (w : World), (pre ++ (x, ox) :: (y, oy) :: rest).length ≤ fuel → InvR ops rk listed (pre ++ (x, ox) :: (y, oy) :: rest) →
      wpX P ops S lo bar (fun a w => wpX P ops S lo bar (Q .normal) ((x, ox) :: (y, oy) :: rest) a w ∧ wpX P ops S lo bar (Q .normal) ((y, oy) :: (x, ox) :: rest) a w) pre a w → wpAny P .any ops Q fuel listed a w := by
  intro fuel
  induction fuel with
  | zero => intro pre listed a w hl; simp at hl
  | succ fuel ih =>
    intro pre listed a w hl inv h
    refine ⟨fun hr => ?_, fun i hi => ?_⟩
    · have := headR hB _ listed inv hr
      simp at this
    have hs := inv.sorted
    rw [List.pairwise_append] at hs
    obtain ⟨s1, s2, s3⟩ := hs
    have s2x := List.pairwise_cons.1 s2
    have s2y := List.pairwise_cons.1 s2x.2
    have hxy : rk x < rk y := s2x.1 (y, oy) (by simp)
    have nxy : x ≠ y := fun e => by rw [e] at hxy; omega
    obtain ⟨hun, o, ho, hall⟩ := mem_ready.1 hi
    have hlt := (Array.getElem?_eq_some_iff.1 ho).1
    obtain ⟨o', hm2⟩ := (inv.left i hlt).1 hun
    have : o' = o := by have := inv.pr _ hm2; rw [ho] at this; cases this; rfl
    subst this
    rcases List.mem_append.1 hm2 with hm2 | hm2
    · obtain ⟨l1, l2, rfl⟩ := List.append_of_mem hm2
      have hiy : i ≠ y := fun e => by
        have := s3 (i, o') hm2 (y, oy) (by simp)
        simp only [e] at this
        omega
      have inv' : InvR ops rk listed (l1 ++ (i, o') :: (l2 ++ (x, ox) :: (y, oy) :: rest)) := by simpa using inv
      have hss := inv'.sorted
      rw [List.pairwise_append] at hss
      have hb := bring (P := P) (S := S) (lo := lo) (bar := bar) (i := i) (o := o') l2 l1 (fun p hp => passR hB inv ho hi (by simp [hp]) (hss.2.2 p hp (i, o') (List.mem_cons_self ..)) (by simp [hiy])) a w h
      refine (R1.mono (fun a' w' h' => ih (l1 ++ l2) (listed.setIfInBounds i true) a' w' (by simp at hl ⊢; omega) ?_ h') hb).op ho
      have := inv'.step hi
      simpa using this
    · rcases List.mem_cons.1 hm2 with e | hm2
      · obtain ⟨rfl, rfl⟩ : i = x ∧ o' = ox := by cases e; exact ⟨rfl, rfl⟩
        have h1 := (wpX_append (P := P) (S := S) (lo := lo) (bar := bar) (Q := Q .normal) pre ((i, o') :: (y, oy) :: rest) a w).2 (wpX_mono (fun _ _ h => h.1) pre a w h)
        have hb := bring (P := P) (S := S) (lo := lo) (bar := bar) (i := i) (o := o') ((y, oy) :: rest) pre (fun p hp => passR hB inv ho hi (by simp [hp]) (s3 p hp (i, o') (by simp)) (by simp [nxy])) a w h1
        refine (R1.mono (fun a' w' h' => lexR_any hB fuel _ (listed.setIfInBounds i true) a' w' (by simp at hl ⊢; omega) (inv.step hi) (fun p hp q hq => ?_) h') hb).op ho
        have hpi : p.1 ≠ i := fun e => by
          rcases List.mem_append.1 hp with hp | hp
          · have := s3 p hp (i, o') (by simp); simp only [e] at this; omega
          · have := s2x.1 p hp; simp only [e] at this; omega
        simp [hpi]
      · rcases List.mem_cons.1 hm2 with e | hm2
        · obtain ⟨rfl, rfl⟩ : i = y ∧ o' = oy := by cases e; exact ⟨rfl, rfl⟩
          have h1 := (wpX_append (P := P) (S := S) (lo := lo) (bar := bar) (Q := Q .normal) pre ((i, o') :: (x, ox) :: rest) a w).2 (wpX_mono (fun _ _ h => h.2) pre a w h)
          have hb := bring (P := P) (S := S) (lo := lo) (bar := bar) (i := i) (o := o') ((x, ox) :: rest) pre (fun p hp => passR hB inv ho hi (by simp [hp]) (s3 p hp (i, o') (by simp)) ?_) a w h1
          · have inv' : InvR ops rk listed ((pre ++ [(x, ox)]) ++ (i, o') :: rest) := by simpa using inv
            have inv2 := inv'.step hi
            have inv3 : InvR ops rk (listed.setIfInBounds i true) (pre ++ (x, ox) :: rest) := by simpa using inv2
            refine (R1.mono (fun a' w' h' => lexR_any hB fuel _ (listed.setIfInBounds i true) a' w' (by simp at hl ⊢; omega) inv3 (fun p hp q hq => ?_) h') hb).op ho
            have hqi : q.1 ≠ i := fun e => by
              rcases List.mem_append.1 hq with hq | hq
              · have := s3 q hq (i, o') (by simp); simp only [e] at this; omega
              · rcases List.mem_cons.1 hq with e2 | hq
                · rw [e2] at e; exact nxy e
                · have := s2y.1 q hq; simp only [e] at this; omega
            simp [hqi]
          · have hpx : p.1 ≠ x := fun e => by
              have := s3 p hp (x, ox) (by simp); simp only [e] at this; omega
            simp [hpx]
        · exfalso
          have hbit := hrest (i, o') hm2
          have hlx := mask_listed (lexOkR_mask hB) inv.closed i o' ho hall x hbit
          have hxo : ops[x]? = some ox := inv.pr (x, ox) (by simp)
          have hxl := (Array.getElem?_eq_some_iff.1 hxo).1
          have := (inv.left x hxl).2 ⟨ox, by simp⟩
          rw [getD_tf (by rw [inv.size]; exact hxl)] at this
          rw [this] at hlx
          cases hlx
end

def nthO : List Oper → Nat → Oper
  | [], _ => default
  | o :: _, 0 => o
  | _ :: l, k + 1 => nthO l k
def pickL (ops : List Oper) : List Nat → List (Nat × Oper)
  | [] => []
  | i :: l => (i, nthO ops i) :: pickL ops l
def rkOf (ord : List Nat) (i : Nat) : Nat := ord.idxOf i
def forkOk (ops : Array Oper) (pre : List Nat) (x y : Nat) (rest : List Nat) : Bool :=
  lexOkR ops (masks ops) (loOf ops) (barOf ops) (rkOf (pre ++ x :: y :: rest)) (fun j i => j == x && i == y) && (rest.all fun i => ((masks ops).getD i 0).testBit x) &&
  ((List.range ops.size).all fun i => (pre ++ x :: y :: rest).contains i) && (pre ++ x :: y :: rest).length == ops.size && ((pre ++ x :: y :: rest).all fun i => decide (i < ops.size)) && decide ((pre ++ x :: y :: rest).Pairwise fun i j => rkOf (pre ++ x :: y :: rest) i < rkOf (pre ++ x :: y :: rest) j)

theorem nthO_ok : ∀ (l : List Oper) (i : Nat), i < l.length → l[i]? = some (nthO l i)
  | o :: l, 0, _ => rfl
  | o :: l, i + 1, h => by simpa [nthO] using nthO_ok l i (by simpa using h)
theorem pickL_mem {ops : List Oper} : ∀ {l : List Nat} {p : Nat × Oper}, p ∈ pickL ops l ↔ p.1 ∈ l ∧ p.2 = nthO ops p.1
  | [], p => by simp [pickL]
  | i :: l, p => by
    simp only [pickL, List.mem_cons, pickL_mem (l := l)]
    constructor
    · rintro (rfl | ⟨h1, h2⟩)
      · exact ⟨.inl rfl, rfl⟩
      · exact ⟨.inr h1, h2⟩
    · rintro ⟨rfl | h1, h2⟩
      · exact .inl (by cases p; simp_all)
      · exact .inr ⟨h1, h2⟩
theorem pickL_append {ops : List Oper} : ∀ (l m : List Nat), pickL ops (l ++ m) = pickL ops l ++ pickL ops m
  | [], m => rfl
  | i :: l, m => by simp [pickL, pickL_append l m]
theorem pickL_length {ops : List Oper} : ∀ (l : List Nat), (pickL ops l).length = l.length
  | [] => rfl
  | i :: l => by simp [pickL, pickL_length l]
theorem pickL_pair {ops : List Oper} {r : Nat → Nat → Prop} : ∀ {l : List Nat}, l.Pairwise r → (pickL ops l).Pairwise (fun p q => r p.1 q.1)
  | [], _ => List.Pairwise.nil
  | i :: l, h => by
    have h := List.pairwise_cons.1 h
    exact List.Pairwise.cons (fun p hp => h.1 _ (pickL_mem.1 hp).1) (pickL_pair h.2)

theorem wp_region_fork {id : Nat} {Q : Exit → Act → World → Prop} {a : Act} {w : World} (pre : List Nat) (x y : Nat) (rest : List Nat) (hm : P.follows .mixedOrders = true) (hB : forkOk ops pre x y rest = true)
    (h : wpX P ops S (loOf ops) (barOf ops) (fun a w => wpX P ops S (loOf ops) (barOf ops) (Q .normal) (pickL ops.toList (x :: y :: rest)) a w ∧ wpX P ops S (loOf ops) (barOf ops) (Q .normal) (pickL ops.toList (y :: x :: rest)) a w) (pickL ops.toList pre) a w.drew) :
    (Code.region id ops true).wp P Q a w := by
  simp only [forkOk, Bool.and_eq_true] at hB
  obtain ⟨⟨⟨⟨⟨b1, b2⟩, b3⟩, b4⟩, b5⟩, b6⟩ := hB
  have b4 : (pre ++ x :: y :: rest).length = ops.size := by simpa using b4
  have b6 := of_decide_eq_true b6
  have hpk : pickL ops.toList pre ++ (x, nthO ops.toList x) :: (y, nthO ops.toList y) :: pickL ops.toList rest = pickL ops.toList (pre ++ x :: y :: rest) := by
    rw [pickL_append]; rfl
  refine wp_region_any hm (fork_any (rk := rkOf (pre ++ x :: y :: rest)) (ox := nthO ops.toList x) (oy := nthO ops.toList y) (rest := pickL ops.toList rest) b1 (fun p hp => ?_) _ (pickL ops.toList pre) _ a _ ?_ ⟨?_, ?_, ?_, ?_, ?_⟩ h)
  · exact List.all_eq_true.1 b2 _ (pickL_mem.1 hp).1
  · rw [hpk, pickL_length]; omega
  · rw [hpk]
    intro p hp
    obtain ⟨h1, h2⟩ := pickL_mem.1 hp
    have hlt : p.1 < ops.size := by simpa using List.all_eq_true.1 b5 _ h1
    have := nthO_ok ops.toList p.1 (by simpa using hlt)
    rw [h2]; simpa using this
  · rw [hpk]; exact pickL_pair b6
  · intro i hi
    rw [hpk]
    simp only [Array.getD_eq_getD_getElem?, Array.getElem?_replicate, hi, if_true, Option.getD_some, true_iff]
    have := List.all_eq_true.1 b3 i (List.mem_range.2 hi)
    exact ⟨nthO ops.toList i, (pickL_mem (p := (i, nthO ops.toList i))).2 ⟨by simpa using this, rfl⟩⟩
  · intro i o ho hl
    simp only [Array.getD_eq_getD_getElem?, Array.getElem?_replicate] at hl
    split at hl <;> simp at hl
  · simp
end
section
variable {P : Program} {n : Nat} {K : Bs} {F : List (Nat × Value)} {h : View} {L : List Res} {Q : Exit → Act → World → Prop}
def ForkQ (P : Program) (g : Rg) (Q : Exit → Act → World → Prop) (l1 l2 : List (Nat × Oper)) : Exit → Act → World → Prop := fun e a w =>
  e = .normal ∧ wpX P g.ops g.S g.lo g.bar (Q .normal) l1 a w ∧ wpX P g.ops g.S g.lo g.bar (Q .normal) l2 a w
theorem cx_region_fork {id : Nat} {ops : Array Oper} (pre : List Nat) (x y : Nat) (rest : List Nat) (hm : P.follows .mixedOrders = true) (hB : forkOk ops pre x y rest = true)
    (hx : RX P n K ⟨ops, Hd h L, loOf ops, barOf ops⟩ (pickL ops.toList pre) F h L (ForkQ P ⟨ops, Hd h L, loOf ops, barOf ops⟩ Q (pickL ops.toList (x :: y :: rest)) (pickL ops.toList (y :: x :: rest)))) : CX P n K (.region id ops true) F h L Q := by
  unfold CX
  unfold RX at hx
  exact fun a w f s => wp_region_fork pre x y rest hm hB (wpX_mono (fun a w h => h.2) _ _ _ (hx a w.drew ⟨f.size, f.dfs, f.get⟩ s.drew))
theorem nx_fork {g : Rg} {l1 l2 : List (Nat × Oper)} (h1 : RX P n K g l1 F h L Q) (h2 : RX P n K g l2 F h L Q) : NX n K .normal F h L (ForkQ P g Q l1 l2) := by
  unfold NX
  unfold RX at h1 h2
  exact fun a w f s => ⟨rfl, h1 a w f s, h2 a w f s⟩
end
end Go.Ck
