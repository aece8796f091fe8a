/-
  Part 2 of a proof: CkFork CkLend DotSo CkRange CkTy.
  Conditions: each theorem states its own.
-/
import Derived.Shelf.SlSortCmp.WholeK
import Derived.Shelf.SlGeneric
import Derived.Ground.SlsfProg
import Derived.Test.YtkkjppeaaicgaaaChecked
import Derived.RangeFuncGives
import Derived.RangeFuncLeaves
import Derived.RangeFuncSeq
import Derived.TacticsIn
import Derived.Test.YtkkjppeaaicgaaaRows
import Derived.Test.YtkkjppeaaicgaaaHsEPM1
section
namespace Go.Ck
open Go
set_option linter.unusedVariables false
section
variable {P : Program} {ops : Array Oper} {S : World → Prop}

structure InvR (ops : Array Oper) (rk : Nat → Nat) (listed : Array Bool) (prs : List (Nat × Oper)) : Prop where
  pr : ∀ p ∈ prs, ops[p.1]? = some p.2
  sorted : prs.Pairwise (fun p q => rk p.1 < rk q.1)
  left : ∀ i, i < ops.size → (listed.getD i true = false ↔ ∃ o, (i, o) ∈ prs)
  closed : ∀ i o, ops[i]? = some o → listed.getD i false = true → ∀ e ∈ o.after, Region.binds .any e = true → listed.getD e.on false = true
  size : listed.size = ops.size

theorem InvR.step {rk : Nat → Nat} {listed : Array Bool} {l1 l2 : List (Nat × Oper)} {i : Nat} {o : Oper} (inv : InvR ops rk listed (l1 ++ (i, o) :: l2)) (hr : i ∈ Region.ready .any ops listed) :
    InvR ops rk (listed.setIfInBounds i true) (l1 ++ l2) := by
  have hio : ops[i]? = some o := inv.pr (i, o) (by simp)
  have hlt : i < ops.size := (Array.getElem?_eq_some_iff.1 hio).1
  obtain ⟨hun, o', ho', hall⟩ := mem_ready.1 hr
  have hoo : o' = o := by rw [hio] at ho'; cases ho'; rfl
  subst hoo
  refine ⟨fun p hp => inv.pr p ?_, ?_, fun k hk => ?_, fun k ok hok hl e he hb => ?_, by simp [inv.size]⟩
  · rcases List.mem_append.1 hp with hp | hp
    · exact List.mem_append_left _ hp
    · exact List.mem_append_right _ (List.mem_cons_of_mem _ hp)
  · exact inv.sorted.sublist (List.Sublist.append_left (List.sublist_cons_self _ _) _)
  · by_cases hki : i = k
    · subst hki
      have : (listed.setIfInBounds i true).getD i true = true := by simp [inv.size, hlt]
      rw [this]
      simp only [Bool.true_eq_false, false_iff, not_exists]
      intro o2 hm
      have hs := inv.sorted
      rw [List.pairwise_append] at hs
      obtain ⟨_, s2, s3⟩ := hs
      rcases List.mem_append.1 hm with hm | hm
      · have := s3 _ hm (i, o') (List.mem_cons_self ..)
        simp at this
      · have := (List.pairwise_cons.1 s2).1 _ hm
        simp at this
    · rw [getD_set_ne true hki, inv.left k hk]
      constructor
      · rintro ⟨o2, hm⟩
        refine ⟨o2, ?_⟩
        rcases List.mem_append.1 hm with hm | hm
        · exact List.mem_append_left _ hm
        · rcases List.mem_cons.1 hm with hm | hm
          · cases hm; exact absurd rfl hki
          · exact List.mem_append_right _ hm
      · rintro ⟨o2, hm⟩
        refine ⟨o2, ?_⟩
        rcases List.mem_append.1 hm with hm | hm
        · exact List.mem_append_left _ hm
        · exact List.mem_append_right _ (List.mem_cons_of_mem _ hm)
  · by_cases hki : i = k
    · subst hki
      have : ok = o' := by rw [hio] at hok; cases hok; rfl
      subst this
      exact getD_set_true (hall e he hb)
    · rw [getD_set_ne false hki] at hl
      exact getD_set_true (inv.closed k ok hok hl e he hb)

def lexOkR (ops : Array Oper) (ms : List Nat) (lo bar : Nat → Bool) (rk : Nat → Nat) (exc : Nat → Nat → Bool) : Bool :=
  maskOk ops ms && Region.noSelect ops && (List.range ops.size).all fun i =>
    (match ops[i]? with | some o => o.after.toList.all fun e => !Region.binds .any e || decide (rk e.on < rk i) | none => true) &&
    (List.range ops.size).all fun j => !decide (rk j < rk i) || exc j i || pairOk ops ms lo bar j i

section
variable {lo bar : Nat → Bool} {ms : List Nat} {rk : Nat → Nat} {exc : Nat → Nat → Bool}
theorem lexOkR_mask (hB : lexOkR ops ms lo bar rk exc = true) : maskOk ops ms = true := by
  simp only [lexOkR, Bool.and_eq_true] at hB; exact hB.1.1
theorem lexOkR_sel (hB : lexOkR ops ms lo bar rk exc = true) : Region.noSelect ops = true := by
  simp only [lexOkR, Bool.and_eq_true] at hB; exact hB.1.2
theorem lexOkR_edge (hB : lexOkR ops ms lo bar rk exc = true) {i : Nat} {o : Oper} (hi : ops[i]? = some o) {e : Edge} (he : e ∈ o.after) (hb : Region.binds .any e = true) : rk e.on < rk i := by
  simp only [lexOkR, Bool.and_eq_true] at hB
  have hlt : i < ops.size := (Array.getElem?_eq_some_iff.1 hi).1
  have h1 := List.all_eq_true.1 hB.2 i (List.mem_range.2 hlt)
  simp only [hi, Bool.and_eq_true] at h1
  have h2 := List.all_eq_true.1 h1.1 e (Array.mem_toList_iff.2 he)
  simpa [hb] using h2
theorem lexOkR_pair (hB : lexOkR ops ms lo bar rk exc = true) {i j : Nat} (hi : i < ops.size) (hj : j < ops.size) (hr : rk j < rk i) (hx : exc j i = false) : pairOk ops ms lo bar j i = true := by
  simp only [lexOkR, Bool.and_eq_true] at hB
  have h1 := List.all_eq_true.1 hB.2 i (List.mem_range.2 hi)
  simp only [Bool.and_eq_true] at h1
  have h2 := List.all_eq_true.1 h1.2 j (List.mem_range.2 hj)
  simpa [hr, hx] using h2

theorem headR (hB : lexOkR ops ms lo bar rk exc = true) : ∀ (prs : List (Nat × Oper)) (listed : Array Bool), InvR ops rk listed prs → Region.ready .any ops listed = [] → prs = [] := by
  intro prs listed inv hr
  cases prs with
  | nil => rfl
  | cons p r =>
    obtain ⟨i, o⟩ := p
    have hio : ops[i]? = some o := inv.pr (i, o) (List.mem_cons_self ..)
    have hlt : i < ops.size := (Array.getElem?_eq_some_iff.1 hio).1
    have : i ∈ Region.ready .any ops listed := by
      refine mem_ready.2 ⟨(inv.left i hlt).2 ⟨o, List.mem_cons_self ..⟩, o, hio, fun e he hb => ?_⟩
      have hei := (maskOk_spec (lexOkR_mask hB) hio).2 e he hb
      have hrk := lexOkR_edge hB hio he hb
      have hel : e.on < ops.size := by omega
      rw [← getD_tf (by rw [inv.size]; exact hel)]
      cases hg : listed.getD e.on true with
      | true => rfl
      | false =>
        obtain ⟨o2, hm2⟩ := (inv.left _ hel).1 hg
        rcases List.mem_cons.1 hm2 with hm2 | hm2
        · cases hm2; omega
        · have h9 : rk i < rk e.on := (List.pairwise_cons.1 inv.sorted).1 _ hm2
          omega
    rw [hr] at this
    cases this

/-- what stands ahead of a ready operation may be passed -/
theorem passR (hB : lexOkR ops ms lo bar rk exc = true) {listed : Array Bool} {prs : List (Nat × Oper)} (inv : InvR ops rk listed prs) {i : Nat} {o : Oper} (hio : ops[i]? = some o) (hi : i ∈ Region.ready .any ops listed) {p : Nat × Oper} (hp : p ∈ prs) (hr : rk p.1 < rk i) (hx : exc p.1 i = false) :
    p.2.apart ops o = true ∧ (lo i && lo p.1) = false ∧ bar i = false ∧ bar p.1 = false ∧ (∀ cs b, o.op ≠ .select cs b) ∧ (∀ cs b, p.2.op ≠ .select cs b) := by
  obtain ⟨hun, o', ho', hall⟩ := mem_ready.1 hi
  have : o' = o := by rw [hio] at ho'; cases ho'; rfl
  subst this
  have hlt := (Array.getElem?_eq_some_iff.1 hio).1
  have hpo : ops[p.1]? = some p.2 := inv.pr p hp
  have hpl := (Array.getElem?_eq_some_iff.1 hpo).1
  have hpair' := lexOkR_pair hB hlt hpl hr hx
  unfold pairOk at hpair'
  simp only [hpo, hio, Bool.or_eq_true, Bool.and_eq_true, Bool.not_eq_true'] at hpair'
  rcases hpair' with hp1 | ⟨⟨⟨q1, q2⟩, q3⟩, q4⟩
  · exfalso
    have hlj := mask_listed (lexOkR_mask hB) inv.closed i o' hio hall p.1 hp1
    have := (inv.left p.1 hpl).2 ⟨p.2, hp⟩
    rw [getD_tf (by rw [inv.size]; exact hpl)] at this
    rw [this] at hlj
    cases hlj
  · exact ⟨q1, q2, q3, q4, fun cs b => Region.noSelect_spec (lexOkR_sel hB) i o' cs b hio, fun cs b => Region.noSelect_spec (lexOkR_sel hB) p.1 p.2 cs b hpo⟩

theorem lexR_any {Q : Exit → Act → World → Prop} (hB : lexOkR ops ms lo bar rk exc = true) :
    ∀ (fuel : Nat) (prs : List (Nat × Oper)) (listed : Array Bool) (a : Act) (w : World), prs.length ≤ fuel → InvR ops rk listed prs → (∀ p ∈ prs, ∀ q ∈ prs, exc p.1 q.1 = false) →
      wpX P ops S lo bar (Q .normal) prs a w → wpAny P .any ops Q fuel listed a w := by
  intro fuel
  induction fuel with
  | zero =>
    intro prs listed a w hl inv hx h
    have : prs = [] := List.eq_nil_of_length_eq_zero (by omega)
    subst this
    refine ⟨?_, h⟩
    cases hr : Region.ready .any ops listed with
    | nil => rfl
    | cons i r =>
      have hi : i ∈ Region.ready .any ops listed := by rw [hr]; exact List.mem_cons_self ..
      obtain ⟨hun, o, ho, _⟩ := mem_ready.1 hi
      obtain ⟨_, hm2⟩ := (inv.left i (Array.getElem?_eq_some_iff.1 ho).1).1 hun
      cases hm2
  | succ fuel ih =>
    intro prs listed a w hl inv hx h
    refine ⟨fun hr => by rw [headR hB prs listed inv hr] at h; exact h, fun i hi => ?_⟩
    obtain ⟨hun, o, ho, hall⟩ := mem_ready.1 hi
    have hlt := (Array.getElem?_eq_some_iff.1 ho).1
    obtain ⟨o', hm2⟩ := (inv.left i hlt).1 hun
    have : o' = o := by have := inv.pr _ hm2; rw [ho] at this; cases this; rfl
    subst this
    obtain ⟨l1, l2, rfl⟩ := List.append_of_mem hm2
    have hb := bring (P := P) (S := S) (lo := lo) (bar := bar) (Q := Q .normal) (i := i) (o := o') l2 l1 (fun p hp => ?_) a w h
    · refine (R1.mono (fun a' w' h' => ih (l1 ++ l2) (listed.setIfInBounds i true) a' w' (by simp at hl ⊢; omega) (inv.step hi) (fun p hp q hq => hx p ?_ q ?_) h') hb).op ho
      · rcases List.mem_append.1 hp with hp | hp
        · exact List.mem_append_left _ hp
        · exact List.mem_append_right _ (List.mem_cons_of_mem _ hp)
      · rcases List.mem_append.1 hq with hq | hq
        · exact List.mem_append_left _ hq
        · exact List.mem_append_right _ (List.mem_cons_of_mem _ hq)
    · have hs := inv.sorted
      rw [List.pairwise_append] at hs
      exact passR hB inv ho hi (List.mem_append_left _ hp) (hs.2.2 p hp (i, o') (List.mem_cons_self ..)) (hx p (List.mem_append_left _ hp) (i, o') (by simp))

theorem wpX_append {Q : Act → World → Prop} : ∀ (l1 l2 : List (Nat × Oper)) (a : Act) (w : World), wpX P ops S lo bar Q (l1 ++ l2) a w ↔ wpX P ops S lo bar (wpX P ops S lo bar Q l2) l1 a w
  | [], l2, a, w => Iff.rfl
  | (i, o) :: l1, l2, a, w => by
    have : (fun a w => wpX P ops S lo bar Q (l1 ++ l2) a w) = (fun a w => wpX P ops S lo bar (wpX P ops S lo bar Q l2) l1 a w) := by
      funext a w; exact propext (wpX_append l1 l2 a w)
    show R1 P ops S (lo i) (bar i) o (fun a w => wpX P ops S lo bar Q (l1 ++ l2) a w) a w ↔ R1 P ops S (lo i) (bar i) o (fun a w => wpX P ops S lo bar (wpX P ops S lo bar Q l2) l1 a w) a w
    rw [this]
theorem wpX_mono {Q Q' : Act → World → Prop} (hq : ∀ a w, Q a w → Q' a w) : ∀ (l : List (Nat × Oper)) (a : Act) (w : World), wpX P ops S lo bar Q l a w → wpX P ops S lo bar Q' l a w
  | [], a, w, h => hq a w h
  | (i, o) :: l, a, w, h => R1.mono (fun a w h => wpX_mono hq l a w h) h

theorem fork_any {Q : Exit → Act → World → Prop} {x y : Nat} {ox oy : Oper} {rest : List (Nat × Oper)} (hB : lexOkR ops ms lo bar rk (fun j i => j == x && i == y) = true)
    (hrest : ∀ p ∈ rest, (ms.getD p.1 0).testBit x = true) :
    ∀ (fuel : Nat) (pre : List (Nat × Oper)) (listed : Array Bool) (a : Act) (w : World), (pre ++ (x, ox) :: (y, oy) :: rest).length ≤ fuel → InvR ops rk listed (pre ++ (x, ox) :: (y, oy) :: rest) →
      wpX P ops S lo bar (fun a w => wpX P ops S lo bar (Q .normal) ((x, ox) :: (y, oy) :: rest) a w ∧ wpX P ops S lo bar (Q .normal) ((y, oy) :: (x, ox) :: rest) a w) pre a w → wpAny P .any ops Q fuel listed a w := by
  intro fuel
  induction fuel with
  | zero => intro pre listed a w hl; simp at hl
  | succ fuel ih =>
    intro pre listed a w hl inv h
    refine ⟨fun hr => ?_, fun i hi => ?_⟩
    · have := headR hB _ listed inv hr
      simp at this
    have hs := inv.sorted
    rw [List.pairwise_append] at hs
    obtain ⟨s1, s2, s3⟩ := hs
    have s2x := List.pairwise_cons.1 s2
    have s2y := List.pairwise_cons.1 s2x.2
    have hxy : rk x < rk y := s2x.1 (y, oy) (by simp)
    have nxy : x ≠ y := fun e => by rw [e] at hxy; omega
    obtain ⟨hun, o, ho, hall⟩ := mem_ready.1 hi
    have hlt := (Array.getElem?_eq_some_iff.1 ho).1
    obtain ⟨o', hm2⟩ := (inv.left i hlt).1 hun
    have : o' = o := by have := inv.pr _ hm2; rw [ho] at this; cases this; rfl
    subst this
    rcases List.mem_append.1 hm2 with hm2 | hm2
    · obtain ⟨l1, l2, rfl⟩ := List.append_of_mem hm2
      have hiy : i ≠ y := fun e => by
        have := s3 (i, o') hm2 (y, oy) (by simp)
        simp only [e] at this
        omega
      have inv' : InvR ops rk listed (l1 ++ (i, o') :: (l2 ++ (x, ox) :: (y, oy) :: rest)) := by simpa using inv
      have hss := inv'.sorted
      rw [List.pairwise_append] at hss
      have hb := bring (P := P) (S := S) (lo := lo) (bar := bar) (i := i) (o := o') l2 l1 (fun p hp => passR hB inv ho hi (by simp [hp]) (hss.2.2 p hp (i, o') (List.mem_cons_self ..)) (by simp [hiy])) a w h
      refine (R1.mono (fun a' w' h' => ih (l1 ++ l2) (listed.setIfInBounds i true) a' w' (by simp at hl ⊢; omega) ?_ h') hb).op ho
      have := inv'.step hi
      simpa using this
    · rcases List.mem_cons.1 hm2 with e | hm2
      · obtain ⟨rfl, rfl⟩ : i = x ∧ o' = ox := by cases e; exact ⟨rfl, rfl⟩
        have h1 := (wpX_append (P := P) (S := S) (lo := lo) (bar := bar) (Q := Q .normal) pre ((i, o') :: (y, oy) :: rest) a w).2 (wpX_mono (fun _ _ h => h.1) pre a w h)
        have hb := bring (P := P) (S := S) (lo := lo) (bar := bar) (i := i) (o := o') ((y, oy) :: rest) pre (fun p hp => passR hB inv ho hi (by simp [hp]) (s3 p hp (i, o') (by simp)) (by simp [nxy])) a w h1
        refine (R1.mono (fun a' w' h' => lexR_any hB fuel _ (listed.setIfInBounds i true) a' w' (by simp at hl ⊢; omega) (inv.step hi) (fun p hp q hq => ?_) h') hb).op ho
        have hpi : p.1 ≠ i := fun e => by
          rcases List.mem_append.1 hp with hp | hp
          · have := s3 p hp (i, o') (by simp); simp only [e] at this; omega
          · have := s2x.1 p hp; simp only [e] at this; omega
        simp [hpi]
      · rcases List.mem_cons.1 hm2 with e | hm2
        · obtain ⟨rfl, rfl⟩ : i = y ∧ o' = oy := by cases e; exact ⟨rfl, rfl⟩
          have h1 := (wpX_append (P := P) (S := S) (lo := lo) (bar := bar) (Q := Q .normal) pre ((i, o') :: (x, ox) :: rest) a w).2 (wpX_mono (fun _ _ h => h.2) pre a w h)
          have hb := bring (P := P) (S := S) (lo := lo) (bar := bar) (i := i) (o := o') ((x, ox) :: rest) pre (fun p hp => passR hB inv ho hi (by simp [hp]) (s3 p hp (i, o') (by simp)) ?_) a w h1
          · have inv' : InvR ops rk listed ((pre ++ [(x, ox)]) ++ (i, o') :: rest) := by simpa using inv
            have inv2 := inv'.step hi
            have inv3 : InvR ops rk (listed.setIfInBounds i true) (pre ++ (x, ox) :: rest) := by simpa using inv2
            refine (R1.mono (fun a' w' h' => lexR_any hB fuel _ (listed.setIfInBounds i true) a' w' (by simp at hl ⊢; omega) inv3 (fun p hp q hq => ?_) h') hb).op ho
            have hqi : q.1 ≠ i := fun e => by
              rcases List.mem_append.1 hq with hq | hq
              · have := s3 q hq (i, o') (by simp); simp only [e] at this; omega
              · rcases List.mem_cons.1 hq with e2 | hq
                · rw [e2] at e; exact nxy e
                · have := s2y.1 q hq; simp only [e] at this; omega
            simp [hqi]
          · have hpx : p.1 ≠ x := fun e => by
              have := s3 p hp (x, ox) (by simp); simp only [e] at this; omega
            simp [hpx]
        · exfalso
          have hbit := hrest (i, o') hm2
          have hlx := mask_listed (lexOkR_mask hB) inv.closed i o' ho hall x hbit
          have hxo : ops[x]? = some ox := inv.pr (x, ox) (by simp)
          have hxl := (Array.getElem?_eq_some_iff.1 hxo).1
          have := (inv.left x hxl).2 ⟨ox, by simp⟩
          rw [getD_tf (by rw [inv.size]; exact hxl)] at this
          rw [this] at hlx
          cases hlx
end

def nthO : List Oper → Nat → Oper
  | [], _ => default
  | o :: _, 0 => o
  | _ :: l, k + 1 => nthO l k
def pickL (ops : List Oper) : List Nat → List (Nat × Oper)
  | [] => []
  | i :: l => (i, nthO ops i) :: pickL ops l
def rkOf (ord : List Nat) (i : Nat) : Nat := ord.idxOf i
def forkOk (ops : Array Oper) (pre : List Nat) (x y : Nat) (rest : List Nat) : Bool :=
  lexOkR ops (masks ops) (loOf ops) (barOf ops) (rkOf (pre ++ x :: y :: rest)) (fun j i => j == x && i == y) && (rest.all fun i => ((masks ops).getD i 0).testBit x) &&
  ((List.range ops.size).all fun i => (pre ++ x :: y :: rest).contains i) && (pre ++ x :: y :: rest).length == ops.size && ((pre ++ x :: y :: rest).all fun i => decide (i < ops.size)) && decide ((pre ++ x :: y :: rest).Pairwise fun i j => rkOf (pre ++ x :: y :: rest) i < rkOf (pre ++ x :: y :: rest) j)

theorem nthO_ok : ∀ (l : List Oper) (i : Nat), i < l.length → l[i]? = some (nthO l i)
  | o :: l, 0, _ => rfl
  | o :: l, i + 1, h => by simpa [nthO] using nthO_ok l i (by simpa using h)
theorem pickL_mem {ops : List Oper} : ∀ {l : List Nat} {p : Nat × Oper}, p ∈ pickL ops l ↔ p.1 ∈ l ∧ p.2 = nthO ops p.1
  | [], p => by simp [pickL]
  | i :: l, p => by
    simp only [pickL, List.mem_cons, pickL_mem (l := l)]
    constructor
    · rintro (rfl | ⟨h1, h2⟩)
      · exact ⟨.inl rfl, rfl⟩
      · exact ⟨.inr h1, h2⟩
    · rintro ⟨rfl | h1, h2⟩
      · exact .inl (by cases p; simp_all)
      · exact .inr ⟨h1, h2⟩
theorem pickL_append {ops : List Oper} : ∀ (l m : List Nat), pickL ops (l ++ m) = pickL ops l ++ pickL ops m
  | [], m => rfl
  | i :: l, m => by simp [pickL, pickL_append l m]
theorem pickL_length {ops : List Oper} : ∀ (l : List Nat), (pickL ops l).length = l.length
  | [] => rfl
  | i :: l => by simp [pickL, pickL_length l]
theorem pickL_pair {ops : List Oper} {r : Nat → Nat → Prop} : ∀ {l : List Nat}, l.Pairwise r → (pickL ops l).Pairwise (fun p q => r p.1 q.1)
  | [], _ => List.Pairwise.nil
  | i :: l, h => by
    have h := List.pairwise_cons.1 h
    exact List.Pairwise.cons (fun p hp => h.1 _ (pickL_mem.1 hp).1) (pickL_pair h.2)

theorem wp_region_fork {id : Nat} {Q : Exit → Act → World → Prop} {a : Act} {w : World} (pre : List Nat) (x y : Nat) (rest : List Nat) (hm : P.follows .mixedOrders = true) (hB : forkOk ops pre x y rest = true)
    (h : wpX P ops S (loOf ops) (barOf ops) (fun a w => wpX P ops S (loOf ops) (barOf ops) (Q .normal) (pickL ops.toList (x :: y :: rest)) a w ∧ wpX P ops S (loOf ops) (barOf ops) (Q .normal) (pickL ops.toList (y :: x :: rest)) a w) (pickL ops.toList pre) a w.drew) :
    (Code.region id ops true).wp P Q a w := by
  simp only [forkOk, Bool.and_eq_true] at hB
  obtain ⟨⟨⟨⟨⟨b1, b2⟩, b3⟩, b4⟩, b5⟩, b6⟩ := hB
  have b4 : (pre ++ x :: y :: rest).length = ops.size := by simpa using b4
  have b6 := of_decide_eq_true b6
  have hpk : pickL ops.toList pre ++ (x, nthO ops.toList x) :: (y, nthO ops.toList y) :: pickL ops.toList rest = pickL ops.toList (pre ++ x :: y :: rest) := by
    rw [pickL_append]; rfl
  refine wp_region_any hm (fork_any (rk := rkOf (pre ++ x :: y :: rest)) (ox := nthO ops.toList x) (oy := nthO ops.toList y) (rest := pickL ops.toList rest) b1 (fun p hp => ?_) _ (pickL ops.toList pre) _ a _ ?_ ⟨?_, ?_, ?_, ?_, ?_⟩ h)
  · exact List.all_eq_true.1 b2 _ (pickL_mem.1 hp).1
  · rw [hpk, pickL_length]; omega
  · rw [hpk]
    intro p hp
    obtain ⟨h1, h2⟩ := pickL_mem.1 hp
    have hlt : p.1 < ops.size := by simpa using List.all_eq_true.1 b5 _ h1
    have := nthO_ok ops.toList p.1 (by simpa using hlt)
    rw [h2]; simpa using this
  · rw [hpk]; exact pickL_pair b6
  · intro i hi
    rw [hpk]
    simp only [Array.getD_eq_getD_getElem?, Array.getElem?_replicate, hi, if_true, Option.getD_some, true_iff]
    have := List.all_eq_true.1 b3 i (List.mem_range.2 hi)
    exact ⟨nthO ops.toList i, (pickL_mem (p := (i, nthO ops.toList i))).2 ⟨by simpa using this, rfl⟩⟩
  · intro i o ho hl
    simp only [Array.getD_eq_getD_getElem?, Array.getElem?_replicate] at hl
    split at hl <;> simp at hl
  · simp
end
section
variable {P : Program} {n : Nat} {K : Bs} {F : List (Nat × Value)} {h : View} {L : List Res} {Q : Exit → Act → World → Prop}
def ForkQ (P : Program) (g : Rg) (Q : Exit → Act → World → Prop) (l1 l2 : List (Nat × Oper)) : Exit → Act → World → Prop := fun e a w =>
  e = .normal ∧ wpX P g.ops g.S g.lo g.bar (Q .normal) l1 a w ∧ wpX P g.ops g.S g.lo g.bar (Q .normal) l2 a w
theorem cx_region_fork {id : Nat} {ops : Array Oper} (pre : List Nat) (x y : Nat) (rest : List Nat) (hm : P.follows .mixedOrders = true) (hB : forkOk ops pre x y rest = true)
    (hx : RX P n K ⟨ops, Hd h L, loOf ops, barOf ops⟩ (pickL ops.toList pre) F h L (ForkQ P ⟨ops, Hd h L, loOf ops, barOf ops⟩ Q (pickL ops.toList (x :: y :: rest)) (pickL ops.toList (y :: x :: rest)))) : CX P n K (.region id ops true) F h L Q := by
  unfold CX
  unfold RX at hx
  exact fun a w f s => wp_region_fork pre x y rest hm hB (wpX_mono (fun a w h => h.2) _ _ _ (hx a w.drew ⟨f.size, f.dfs, f.get⟩ s.drew))
theorem nx_fork {g : Rg} {l1 l2 : List (Nat × Oper)} (h1 : RX P n K g l1 F h L Q) (h2 : RX P n K g l2 F h L Q) : NX n K .normal F h L (ForkQ P g Q l1 l2) := by
  unfold NX
  unfold RX at h1 h2
  exact fun a w f s => ⟨rfl, h1 a w f s, h2 a w f s⟩
end
end Go.Ck
end

section
namespace Go.Ck
open Go
set_option linter.unusedVariables false
section
variable {P : Program} {n : Nat} {K : Bs} {F : List (Nat × Value)} {h : View} {L : List Res} {Q : Exit → Act → World → Prop}

theorem row_view {e : TypeId} {sz m : Nat} {v : Value} {xs : List Value} {w : World} (s : St K h L w) {k : Nat} (hk : L[k]? = some (Res.row e sz v m xs)) : ∃ h', Le h h' ∧ Sc h' sz v m xs ∧ St ⟨w, h', []⟩ h' [] w := by
  have ho : w.ownsRow 0 e sz v m xs := s.hd.own _ (List.mem_of_getElem? hk)
  rcases ho.2 with ⟨rfl, h0⟩ | ⟨g, cap, cur, rfl, _, hg, hn, hm, hs, ht⟩
  · subst h0
    have hx : xs = [] := List.eq_nil_of_length_eq_zero (by rw [ho.1]; simp)
    subst hx
    exact ⟨h, Le.refl h, Sc.nil h sz none 0, St.start (L := []) ⟨s.hd.view, fun r hr => (by cases hr)⟩ (by simp [doms]) (fun b hb => (by simp [doms] at hb))⟩
  · have hb0 : h g = none := s.dis g (mem_doms.2 ⟨_, List.mem_of_getElem? hk, by simp [Res.row, Value.ownBlock]⟩)
    refine ⟨addV h g (.cells cur e (0, 0)), Le.addV hb0, ⟨ho.1, some ⟨g, 0, none⟩, cap, rfl, hn, .inr ⟨g, 0, cur, e, (0, 0), rfl, addV_same, fun j u hj => ?_⟩⟩,
      St.start (L := []) ⟨fun b o hb => ?_, fun r hr => (by cases hr)⟩ (by simp [doms]) (fun b hb => (by simp [doms] at hb))⟩
    · rw [← ht, List.getElem?_take] at hj
      split at hj
      · simpa using hj
      · cases hj
    · unfold addV at hb
      split at hb
      · rename_i e; subst e; cases hb; exact hg
      · exact s.hd.view b o hb

theorem st_lower {h h' : View} {w w' : World} (hh : Hd h [] w') (s : St ⟨w, h', []⟩ h' [] w') : St ⟨w, h, []⟩ h [] w' :=
  ⟨s.os, s.tape, s.output, s.drawn, s.size, s.keep, hh, s.nd, s.src, Le.refl h, fun _ _ hb => hb, fun b hb => (by simp [doms] at hb)⟩

/-- a call that reads a slice that the caller owns -/
theorem rx_call_lend {g : Rg} {i : Nat} {dst : Option Nat} {op : Op} {ty : Nat} {pos : String} {af : Array Edge} {gd : Option (Nat × Bool)} {r : List (Nat × Oper)} {fn : FuncId} {args : Array Value} {u : Value} {e : TypeId} {sz m : Nat} {v : Value} {xs : List Value} (k : Nat) (hc : CallOf P n F ⟨dst, op, ty, pos, af, gd⟩ fn args)
    (hk : L[k]? = some (Res.row e sz v m xs))
    (hsp : ∀ h', Le h h' → Sc h' sz v m xs → ∀ w, St ⟨w, h', []⟩ h' [] w → Calls P fn args w fun e w' => e = .returned u ∧ St ⟨w, h', []⟩ h' [] w')
    (hw : wantedF g.ops F ⟨dst, op, ty, pos, af, gd⟩ = some true) (hd : okd n dst = true) (hl : g.lo i = true) (h1 : Owe g i h L)
    (hx : RX P n K g r (putF dst u F) h L Q) : RX P n K g ((i, ⟨dst, op, ty, pos, af, gd⟩) :: r) F h L Q := by
  unfold RX at *
  unfold CallOf at hc
  exact fun a w f s => .inr (.inr ⟨wantedF_ok f hw, hl, h1.imp (fun k => k w s.hd) id, by
    unfold Oper.wp
    rw [hc a w f]
    obtain ⟨h', hle, hsc, s0⟩ := row_view s hk
    refine (hsp h' hle hsc w s0).mono fun e w' he => ?_
    obtain ⟨rfl, st⟩ := he
    have s' := St.leave (Li := []) (Lr := L) s (st_lower ⟨fun b o hb => st.hd.view b o (hle b o hb), fun r hr => (by cases hr)⟩ st)
    exact ⟨h1.imp (fun k => k _ s'.hd) id, hx _ _ (f.put hd _) s'⟩⟩)
theorem qv_nilCheck {dst : Option Nat} {ty : Nat} {pos : String} {af : Array Edge} {gd : Option (Nat × Bool)} {x : Operand} {ad : Addr} (hx : ev F x = some (.pointer (some ad))) : QV P n F h L ⟨dst, .nilCheck x, ty, pos, af, gd⟩ (.pointer (some ad)) := .mk fun a w f s => by
  simp [execOp, f.ev hx]
end
end Go.Ck
end

section
namespace Go.Proofs
open Go.Shelf
def Try.sortDot_ren : Go.Shelf.Ren := ⟨fun | 6 => 36 | 15 => 59 | 14 => 58 | 28 => 80 | 29 => 81 | 20 => 72 | 21 => 73 | 22 => 74 | 23 => 75 | 24 => 76 | 25 => 77 | 26 => 78 | 27 => 79 | 46 => 90 | 47 => 91 | 48 => 92 | 49 => 93 | 50 => 94 | 57 => 99 | n => n, fun | 22 => 31 | 24 => 39 | 25 => 82 | 3 => 3 | 39 => 106 | 0 => 0 | 53 => 126 | 55 => 72 | 4 => 4 | 46 => 119 | 45 => 118 | 50 => 123 | 5 => 5 | 9 => 9 | 66 => 137 | 70 => 132 | 76 => 144 | 77 => 145 | n => n, fun | n => n⟩
theorem Try.sortDot : Go.Proofs.SlLaysF0.n6 Try.prog Try.sortDot_ren := {
  mixed := by kernel_rfl
  f6 := ⟨Try.f36.name, by decide, Try.func36.trans (congrArg some (by kernel_rfl))⟩
  f14 := ⟨Try.f58.name, by decide, Try.func58.trans (congrArg some (by kernel_rfl))⟩
  f15 := Try.func59.trans (congrArg some (by kernel_rfl))
  f20 := ⟨Try.f72.name, by decide, Try.func72.trans (congrArg some (by kernel_rfl))⟩
  f21 := ⟨Try.f73.name, by decide, Try.func73.trans (congrArg some (by kernel_rfl))⟩
  f22 := ⟨Try.f74.name, by decide, Try.func74.trans (congrArg some (by kernel_rfl))⟩
  f23 := ⟨Try.f75.name, by decide, Try.func75.trans (congrArg some (by kernel_rfl))⟩
  f24 := ⟨Try.f76.name, by decide, Try.func76.trans (congrArg some (by kernel_rfl))⟩
  f25 := ⟨Try.f77.name, by decide, Try.func77.trans (congrArg some (by kernel_rfl))⟩
  f26 := ⟨Try.f78.name, by decide, Try.func78.trans (congrArg some (by kernel_rfl))⟩
  f27 := ⟨Try.f79.name, by decide, Try.func79.trans (congrArg some (by kernel_rfl))⟩
  f28 := Try.func80.trans (congrArg some (by kernel_rfl))
  f29 := Try.func81.trans (congrArg some (by kernel_rfl))
  f46 := ⟨Try.f90.name, by decide, Try.func90.trans (congrArg some (by kernel_rfl))⟩
  f47 := Try.func91.trans (congrArg some (by kernel_rfl))
  f48 := Try.func92.trans (congrArg some (by kernel_rfl))
  f49 := ⟨Try.f93.name, by decide, Try.func93.trans (congrArg some (by kernel_rfl))⟩
  f50 := ⟨Try.f94.name, by decide, Try.func94.trans (congrArg some (by kernel_rfl))⟩
  f57 := ⟨Try.f99.name, by decide, Try.func99.trans (congrArg some (by kernel_rfl))⟩
  t0 := Try.underlying0
  a0 := Try.isAgg0
  z0 := Try.sizeOf0
  v0 := Try.zeroValue0
  t3 := Try.underlying3
  a3 := Try.isAgg3
  z3 := Try.sizeOf3
  v3 := Try.zeroValue3
  t4 := Try.underlying4
  a4 := Try.isAgg4
  z4 := Try.sizeOf4
  v4 := Try.zeroValue4
  t5 := Try.underlying5
  a5 := Try.isAgg5
  z5 := Try.sizeOf5
  v5 := Try.zeroValue5
  t9 := Try.underlying9
  a9 := Try.isAgg9
  z9 := Try.sizeOf9
  v9 := Try.zeroValue9
  t22 := Try.underlying31
  a22 := Try.isAgg31
  z22 := Try.sizeOf31
  v22 := Try.zeroValue31
  t25 := Try.underlying82
  a25 := Try.isAgg82
  z25 := Try.sizeOf82
  v25 := Try.zeroValue82
  t39 := Try.underlying106
  a39 := Try.isAgg106
  z39 := Try.sizeOf106
  v39 := Try.zeroValue106
  t45 := Try.underlying118
  a45 := Try.isAgg118
  z45 := Try.sizeOf118
  v45 := Try.zeroValue118
  t46 := Try.underlying119
  a46 := Try.isAgg119
  z46 := Try.sizeOf119
  v46 := Try.zeroValue119
  t50 := Try.underlying123
  a50 := Try.isAgg123
  z50 := Try.sizeOf123
  v50 := Try.zeroValue123
  t53 := Try.underlying126
  a53 := Try.isAgg126
  z53 := Try.sizeOf126
  v53 := Try.zeroValue126
  t55 := Try.underlying72
  a55 := Try.isAgg72
  z55 := Try.sizeOf72
  v55 := Try.zeroValue72
  t66 := Try.underlying137
  a66 := Try.isAgg137
  z66 := Try.sizeOf137
  v66 := Try.zeroValue137
  t70 := Try.underlying132
  a70 := Try.isAgg132
  z70 := Try.sizeOf132
  v70 := Try.zeroValue132
  t76 := Try.underlying144
  a76 := Try.isAgg144
  z76 := Try.sizeOf144
  v76 := Try.zeroValue144
  t77 := Try.underlying145
  a77 := Try.isAgg145
  z77 := Try.sizeOf145
  v77 := Try.zeroValue145 }
end Go.Proofs
end

section
namespace Go.Ck
open Go
set_option linter.unusedVariables false
section
variable {P : Program} {n : Nat} {K : Bs} {F : List (Nat × Value)} {h : View} {L : List Res} {Q : Exit → Act → World → Prop}

abbrev WF (l : Nat) : Fence := Fence.wide.inRound l
theorem wf_depth (l : Nat) (m : Nat) : (WF l).depth.isSome = true → 1 ≤ m := fun hx => by cases hx

theorem op_in {l m : Nat} {o : Oper} {a : Act} {w : World} {Kn : Act → World → Prop} {Q : Exit → Act → World → Prop} (hd : ∀ c, o.op ≠ .defer c) (hx : o.wp P a w Kn NoQ) : o.wpIn (WF l) m P a w Kn Q := by
  refine ⟨fun _ _ => trivial, ?_⟩
  rw [Oper.semAt_eq _ _ _ hd]
  unfold Oper.wp at hx
  generalize (execOp a.eval o).run P w = r at hx ⊢
  cases r with
  | ok x w' =>
    cases x with
    | value v => exact hx
    | skip => exact hx
    | defer d => exact hx
    | enter f args =>
      refine ⟨wf_depth l m, ?_⟩
      have h1 : Calls P f args w' _ := hx
      have h2 := (callsIn_wide (n := m - 1)).2 h1
      refine CallsIn.mono (F := Fence.wide) h2 ?_
      intro e w'' he
      cases e with
      | returned v => exact he
      | panicked c => exact he.elim
      | outgrown => obtain ⟨_, _, hq⟩ := he; exact hq.elim
    | row row args =>
      refine ⟨wf_depth l m, fun c cs _ => ?_⟩
      have h1 : Rows P row args w' _ := hx
      obtain ⟨v, w'', hr, hs⟩ := h1 c cs
      exact ⟨v, w'', hr, (stepsIn_wide (P := P)).2 hs⟩
    | round _ _ _ _ _ => exact hx.elim
    | recover => exact hx.elim
    | _ => exact hx.elim
  | halt hh w' =>
    cases hh with
    | panic v => exact hx.elim
    | _ => exact hx.elim

def noDefer (ops : List Oper) : Bool := ops.all fun o => match o.op with | .defer _ => false | _ => true
theorem noDefer_spec {ops : List Oper} (hx : noDefer ops = true) : ∀ o ∈ ops, ∀ c, o.op ≠ .defer c := fun o ho c hc => by
  have := List.all_eq_true.1 hx o ho
  rw [hc] at this
  cases this

theorem wpX_in {ops : Array Oper} {l m : Nat} {S : World → Prop} {lo bar : Nat → Bool} : ∀ (rs : List Oper) (k : Nat) (a : Act) (w : World), (∀ o ∈ rs, ∀ c, o.op ≠ .defer c) → wpX P ops S lo bar (Q .normal) (enumFrom k rs) a w → wpListIn (WF l) m P ops Q rs a w
  | [], k, a, w, _, hx => hx
  | o :: rs, k, a, w, hd, hx => by
    have ih : ∀ a w, wpX P ops S lo bar (Q .normal) (enumFrom (k + 1) rs) a w → wpListIn (WF l) m P ops Q rs a w := fun a w => wpX_in rs (k + 1) a w fun o ho => hd o (List.mem_cons_of_mem _ ho)
    have hdo := hd o (List.mem_cons_self ..)
    unfold wpListIn
    rcases hx with ⟨h0, h1⟩ | ⟨h0, h1, v, h2, h3⟩ | ⟨h0, h1, h2, h3⟩
    · rw [if_neg (by rw [h0]; simp)]
      exact ⟨fun _ _ => trivial, ih _ _ h1⟩
    · rw [if_pos h0]
      refine op_in hdo ?_
      unfold Oper.wp
      rw [h2 w h1]
      exact ih _ _ h3
    · rw [if_pos h0]
      exact op_in hdo (Oper.wp_mono (fun a w hk => ih _ _ hk.2) h3)

/-- code of a round -/
def CI (P : Program) (n : Nat) (l : Nat) (K : Bs) (c : Code) (F : List (Nat × Value)) (h : View) (L : List Res) (Q : Exit → Act → World → Prop) : Prop :=
  ∀ m a w, Fr n F a → St K h L w → c.wpIn (WF l) m P Q a w
theorem ci_region {l id : Nat} {ops : Array Oper} (hd : noDefer ops.toList = true) (hx : RX P n K ⟨ops, fun _ => True, fun _ => true, fun _ => false⟩ (enumFrom 0 ops.toList) F h L Q) : CI P n l K (.region id ops false) F h L Q := fun m a w f s => by
  unfold RX at hx
  exact wpIn_region_list (wpX_in _ 0 a w (noDefer_spec hd) (hx a w f s))
theorem ci_block {l id : Nat} {c : Code} (hx : CI P n l K c F h L (Exit.inBlock id Q)) : CI P n l K (.block id c) F h L Q := fun m a w f s => wpIn_block (hx m a w f s)

/-- a round's body begins -/
def Begins (P : Program) (l : Nat) (body : Code) (Q : Exit → Act → World → Prop) : Exit → Act → World → Prop :=
  Exit.then (fun a w => ∃ w₂, (Instr.beginRound l).run P w = .ok () w₂ ∧ ∀ m, body.wpIn (WF l) m P Q a w₂) (fun _ _ _ => False)
theorem St.put {K : Bs} {h : View} {b : Nat} {o o' : Obj} {L : List Res} {w : World} (s : St K h (Res.blk b o :: L) w) : St K h (Res.blk b o' :: L) (w.putObj b o') := by
  have hlt : b < w.heap.size := (Res.blk b o).lt w (s.hd.own _ (List.mem_cons_self ..)) b (List.mem_singleton.2 rfl)
  exact s.write rfl rfl rfl (Nat.le_refl _) (by simp) (fun k hk => World.putObj_heap_other hk) (World.putObj_heap_same hlt)
theorem nx_begins {l : Nat} {r : Loop} {body : Code} {L' : List Res} (hp : L.Perm (Res.blk l (.loop r) :: L')) (hr : r.state = .ready) (hx : CI P n l K body F h (Res.blk l (.loop { r with state := .busy }) :: L') Q) : NX n K .normal F h L (Begins P l body Q) := by
  unfold NX
  intro a w f s
  have s' := s.perm hp
  exact ⟨_, run_beginRound (s'.hd.own _ (List.mem_cons_self ..)) hr, fun m => hx m a _ f s'.put⟩
theorem nx_roundEnd {l : Nat} {r : Loop} {L' : List Res} {R : Ending → World → Prop} (hp : L.Perm (Res.blk l (.loop r) :: L')) (hx : ∀ w, St K h (Res.blk l (.loop { r with state := .ready, pending := none }) :: L') w → R (.returned (.bool true)) w) : NX n K .normal F h L (roundPost P l R) := by
  unfold NX
  intro a w f s
  have s' := s.perm hp
  exact ⟨_, _, run_endRound none (s'.hd.own _ (List.mem_cons_self ..)), hx _ s'.put⟩

/-- yield, at a record that is ready -/
theorem yieldAt_ck {m l p : Nat} {r : Loop} {x : Value} {L' : List Res} {R : Ending → World → Prop} {W : World} (hp : L.Perm (Res.blk l (.loop r) :: L')) (hps : r.params = #[p]) (hF : Fr n F ⟨r.tmps.setIfInBounds p x, []⟩)
    (s : St K h L W) (hx : CI P n l K r.assign F h L (Begins P l r.body (roundPost P l R))) : YieldAt Fence.wide m P l #[x] W R := by
  have s' := s.perm hp
  refine ⟨r.fn, _, r.assign, r.body, run_yield (s'.hd.own _ (List.mem_cons_self ..)) (by rw [hps]; rfl), roundIn_of_wpIn trivial ?_⟩
  rw [hps]
  have ez : (#[p].zip #[x]).foldl (fun tmps (t, a) => tmps.setIfInBounds t a) r.tmps = r.tmps.setIfInBounds p x := by simp
  rw [ez]
  refine wpIn_mono (hx m _ W hF s) ?_
  intro e a w he
  cases e with
  | normal => obtain ⟨w₂, h1, h2⟩ := he; exact ⟨w₂, h1, h2 m⟩
  | _ => exact he

/-- a region in which yield is called -/
def LI (P : Program) (n : Nat) (K : Bs) (ops : Array Oper) (rs : List Oper) (F : List (Nat × Value)) (h : View) (L : List Res) (Q : Exit → Act → World → Prop) : Prop :=
  ∀ a w, Fr n F a → St K h L w → wpListIn Fence.wide 0 P ops Q rs a w
theorem cx_regionI {id : Nat} {ops : Array Oper} (hx : LI P n K ops ops.toList F h L Q) : CX P n K (.region id ops false) F h L Q := by
  unfold CX
  exact fun a w f s => (wpIn_wide (n := 0)).1 (wpIn_region_list (hx a w f s))
theorem li_nil {ops : Array Oper} (hx : NX n K .normal F h L Q) : LI P n K ops [] F h L Q := by
  unfold NX at hx
  exact hx
theorem li_v {ops : Array Oper} {rs : List Oper} {dst : Option Nat} {op : Op} {ty : Nat} {pos : String} {af : Array Edge} {v : Value} (hq : QV P n F h L ⟨dst, op, ty, pos, af, none⟩ v) (hd : okd n dst = true)
    (hx : LI P n K ops rs (putF dst v F) h L Q) : LI P n K ops (⟨dst, op, ty, pos, af, none⟩ :: rs) F h L Q := fun a w f s => by
  unfold QV at hq
  unfold wpListIn
  have hw0 : ∀ o : Oper, o.guard = none → Region.wanted o (yielded ops a.tmps) = true := fun o ho => by unfold Region.wanted; rw [ho]
  rw [if_pos (hw0 _ rfl)]
  refine ⟨fun _ _ => trivial, ?_⟩
  rw [show Fence.wide.round = none from rfl, Oper.semAt_none]
  rw [hq a w f s.hd]
  exact hx _ _ (f.put hd v) s
theorem li_yield {ops : Array Oper} {rs : List Oper} {dst : Option Nat} {ty : Nat} {pos : String} {af : Array Edge} {x y : Operand} {ts : Array TypeId} {l : Nat} {u : Value} {X : Type} {v : X → Value} {LL : X → List Res} {p : X → Prop} {Li Lr : List Res}
    (hv : ev F x = some (.func (.yield l) #[] #[])) (hu : ev F y = some u) (hd : okd n dst = true) (hp : L.Perm (Li ++ Lr))
    (hY : ∀ w, St ⟨w, h, doms Li⟩ h Li w → YieldAt Fence.wide (0 - 1) P l #[u] w fun e w' => ∃ z, e = .returned (v z) ∧ St ⟨w, h, doms Li⟩ h (LL z) w' ∧ p z)
    (hx : ∀ z, p z → LI P n K ops rs (putF dst (v z) F) h (LL z ++ Lr) Q) : LI P n K ops (⟨dst, .call ⟨.value x, #[y], ts⟩, ty, pos, af, none⟩ :: rs) F h L Q := fun a w f s => by
  have s1 : St K h (Li ++ Lr) w := s.perm hp
  obtain ⟨fn, tmps, assign, body, hy, hR⟩ := hY w (St.enter (Li := Li) (Lr := Lr) s1)
  unfold wpListIn
  have hw0 : ∀ o : Oper, o.guard = none → Region.wanted o (yielded ops a.tmps) = true := fun o ho => by unfold Region.wanted; rw [ho]
  rw [if_pos (hw0 _ rfl)]
  refine ⟨fun _ _ => trivial, ?_⟩
  rw [show Fence.wide.round = none from rfl, Oper.semAt_none]
  have hrun : (execOp a.eval ⟨dst, .call ⟨.value x, #[y], ts⟩, ty, pos, af, none⟩).run P w = .ok (.round l fn tmps assign body) w := by
    simp only [execOp, resolve, f.ev hv, Deferred.ofValue, invoke]
    simpa [Sem.run_bind, Result.andThen, f.ev hu] using hy
  rw [hrun]
  refine ⟨fun hx => (by cases hx), RoundIn.mono hR ?_⟩
  rintro e w' ⟨z, rfl, st, pz⟩
  exact hx z pz _ _ (f.put hd _) (St.leave (Li := Li) (Lr := Lr) s1 st)

/-- a function that holds such a loop is entered -/
theorem calls_enter_marks {fn : FuncId} {fu : Func} {c : Code} {l : List Value} {w : World} {A : List Nat} {R : Ending → World → Prop} (hf : P.funcs[fn]? = some fu) (hb : fu.body = some c) (hn : fu.ntmps = n) (hl : Nat.ble l.length n = true)
    (s : St ⟨w, h, A⟩ h L w) (hx : CX P n ⟨w, h, A⟩ c (argsF 0 l) h L (bodyPostM Fence.wide 0 P fu R)) : Calls P fn l.toArray w R := by
  have hl : l.length ≤ n := by simpa using hl
  unfold CX at hx
  refine (callsIn_wide (n := 0)).1 (callsIn_of_wp_marks hf hb trivial ((wpIn_wide (n := 0)).2 (hx _ w ⟨?_, rfl, fun t v ht => ?_⟩ s)))
  · simp [hn]; omega
  · obtain ⟨_, h2⟩ := lk_argsF l 0 t v ht
    have hlt : t < l.length := by
      have := (List.getElem?_eq_some_iff.1 h2).1
      simpa using this
    simp only [Nat.sub_zero] at h2
    rw [Array.getElem?_append_left (by simpa using hlt)]
    simpa using h2

abbrev rec0 (tm : Array Value) (fn : FuncId) (D : Nat) (ps : Array Tmp) (assign body : Code) : Loop := { state := .ready, pending := none, fn := fn, tmps := tm, params := ps, assign := assign, body := body, defers := D }

/-- the statement -/
theorem cx_rangeFunc {g : Operand} {ps : Array Tmp} {assign body : Code} {gfn : FuncId} {cap : List Value} {fu : Func} {c : Code} (hv : ev F g = some (.func (.func gfn) #[] cap.toArray)) (hf : P.funcs[gfn]? = some fu) (hb : fu.body = some c) (hnm : (fu.name == "runtime.NumGoroutine") = false)
    {X : Type} {LL : X → List Res} {p : X → Prop}
    (hcall : ∀ (tm : Array Value) (fn l D : Nat) (w : World), Fr n F ⟨tm, []⟩ → St ⟨w, h, doms (Res.blk l (.loop (rec0 tm fn D ps assign body)) :: L)⟩ h (Res.blk l (.loop (rec0 tm fn D ps assign body)) :: L) w →
      Calls P gfn (.func (.yield l) #[] #[] :: cap).toArray w fun e w' => (∃ v, e = .returned v) ∧ ∃ z, p z ∧ St ⟨w, h, doms (Res.blk l (.loop (rec0 tm fn D ps assign body)) :: L)⟩ h (Res.blk l (.loop (rec0 tm fn D ps assign body)) :: LL z) w')
    (hx : ∀ z tm D, p z → Fr n F ⟨tm, []⟩ → ∀ w, St K h (Res.blk D (.deferred (some [])) :: LL z) w → Q .normal ⟨tm, [{ target := .collected D, args := #[] }]⟩ w) : CX P n K (.rangeFunc g ps assign body) F h L Q := by
  unfold CX
  intro a w f s
  obtain ⟨tm, ds⟩ := a
  obtain rfl : ds = [] := f.dfs
  refine (wpIn_wide (n := 0)).1 (wpIn_rangeFunc ?_)
  intro fn _
  have s1 := s.alloc (.deferred (some []))
  have s2 := s1.alloc (.loop (rec0 tm fn w.heap.size ps assign body))
  rw [World.size_alloc] at s2
  have hnm' : ¬ fu.name = "runtime.NumGoroutine" := by simpa using hnm
  have hr1 : (Instr.enterLoop fn tm ps assign body none).run P w = .ok (w.heap.size + 1, [{ target := .collected w.heap.size, args := #[] }]) ((w.alloc (.deferred (some []))).alloc (.loop (rec0 tm fn w.heap.size ps assign body))) := run_enterLoop_outer _ _ _ _ _
  generalize hW : (w.alloc (.deferred (some []))).alloc (.loop (rec0 tm fn w.heap.size ps assign body)) = W1 at hr1 s2
  refine ⟨w.heap.size + 1, [{ target := .collected w.heap.size, args := #[] }], W1, { target := .fn (.func gfn) cap.toArray, args := #[.func (.yield (w.heap.size + 1)) #[] #[]] }, W1, gfn, #[.func (.yield (w.heap.size + 1)) #[] #[]] ++ cap.toArray, W1, hr1, ?_, fun _ _ => trivial, ?_, (fun hx => (by cases hx)), ?_⟩
  · have hg := f.ev hv
    simp only [resolve, hg, Deferred.ofValue]
    simp [Act.eval]
  · simp [invoke, callFunc, program, Sem.run, hf, hnm', hb]
  · have hperm : (Res.blk (w.heap.size + 1) (.loop (rec0 tm fn w.heap.size ps assign body)) :: Res.blk w.heap.size (.deferred (some [])) :: L).Perm ((Res.blk (w.heap.size + 1) (.loop (rec0 tm fn w.heap.size ps assign body)) :: L) ++ [Res.blk w.heap.size (.deferred (some []))]) := by
      refine List.Perm.cons _ ?_
      exact (List.perm_append_singleton _ _).symm
    have s3 := s2.perm hperm
    have hcl := hcall tm fn (w.heap.size + 1) w.heap.size _ f (St.enter s3)
    have harr : #[Value.func (.yield (w.heap.size + 1)) #[] #[]] ++ cap.toArray = (.func (.yield (w.heap.size + 1)) #[] #[] :: cap).toArray := by simp
    rw [harr]
    refine CallsIn.mono ((callsIn_wide (n := 0 - 1)).2 hcl) ?_
    rintro e w' ⟨⟨v, rfl⟩, z, hz, st⟩
    have s4 := St.leave s3 st
    refine ⟨none, _, run_endLoop (s4.hd.own _ (List.mem_append_left _ (List.mem_cons_self ..))) (by simp), ?_⟩
    have s5 : St K h (Res.blk (w.heap.size + 1) (.loop (rec0 tm fn w.heap.size ps assign body)) :: (LL z ++ [Res.blk w.heap.size (.deferred (some []))])) w' := s4
    have s6 := (s5.put (o' := .loop { rec0 tm fn w.heap.size ps assign body with state := .exhausted })).tl
    exact hx z tm w.heap.size hz f _ (s6.perm (List.perm_append_singleton _ _))

/-- behind the loop: the activation bears the loop's mark -/
def LD (P : Program) (n : Nat) (K : Bs) (ds : List Deferred) (ops : Array Oper) (rs : List Oper) (F : List (Nat × Value)) (h : View) (L : List Res) (Q : Exit → Act → World → Prop) : Prop :=
  ∀ tm w, Fr n F ⟨tm, []⟩ → St K h L w → wpListIn Fence.wide 0 P ops Q rs ⟨tm, ds⟩ w
theorem ld_nil {ds : List Deferred} {ops : Array Oper} (hx : ∀ tm w, Fr n F ⟨tm, []⟩ → St K h L w → Q .normal ⟨tm, ds⟩ w) : LD P n K ds ops [] F h L Q := hx
theorem ld_v {ds : List Deferred} {ops : Array Oper} {rs : List Oper} {dst : Option Nat} {op : Op} {ty : Nat} {pos : String} {af : Array Edge} {v : Value} (hq : QV P n F h L ⟨dst, op, ty, pos, af, none⟩ v) (hd : okd n dst = true)
    (hx : LD P n K ds ops rs (putF dst v F) h L Q) : LD P n K ds ops (⟨dst, op, ty, pos, af, none⟩ :: rs) F h L Q := fun tm w f s => by
  unfold QV at hq
  unfold wpListIn
  have hw0 : ∀ o : Oper, o.guard = none → Region.wanted o (yielded ops (⟨tm, ds⟩ : Act).tmps) = true := fun o ho => by unfold Region.wanted; rw [ho]
  rw [if_pos (hw0 _ rfl)]
  refine ⟨fun _ _ => trivial, ?_⟩
  rw [show Fence.wide.round = none from rfl, Oper.semAt_none]
  have := hq ⟨tm, []⟩ w f s.hd
  have he : (⟨tm, ds⟩ : Act).eval = (⟨tm, []⟩ : Act).eval := rfl
  rw [he, this]
  have hp : (⟨tm, ds⟩ : Act).put dst v = ⟨((⟨tm, []⟩ : Act).put dst v).tmps, ds⟩ := by cases dst <;> rfl
  have hp0 : (⟨((⟨tm, []⟩ : Act).put dst v).tmps, []⟩ : Act) = (⟨tm, []⟩ : Act).put dst v := by cases dst <;> rfl
  show wpListIn Fence.wide 0 P ops Q rs ((⟨tm, ds⟩ : Act).put dst v) w
  rw [hp]
  exact hx _ _ (by rw [hp0]; exact f.put hd v) s
theorem ld_region {ds : List Deferred} {id : Nat} {ops : Array Oper} {tm : Array Value} {w : World} (hx : LD P n K ds ops ops.toList F h L Q) (f : Fr n F ⟨tm, []⟩) (s : St K h L w) : (Code.region id ops false).wp P Q ⟨tm, ds⟩ w :=
  (wpIn_wide (n := 0)).1 (wpIn_region_list (hx tm w f s))
theorem marks_ret {D : Nat} {fu : Func} {R : Ending → World → Prop} {x : ResultVar} {v : Value} {tm : Array Value} {w : World} (hr : fu.results = #[x]) (f : Fr n F ⟨tm, []⟩) (s : St K h (Res.blk D (.deferred (some [])) :: L) w) (hv : RV P F h L x v)
    (hp : ∀ w, St K h L w → R (.returned v) w) : bodyPostM Fence.wide 0 P fu R .ret ⟨tm, [{ target := .collected D, args := #[] }]⟩ w := by
  have s' := (s.put (o' := .deferred none)).tl
  refine ⟨by simp, .inl ⟨D, _, rfl, run_takeDeferred (s.hd.own _ (List.mem_cons_self ..)), ?_⟩⟩
  refine ⟨v, ?_, hp _ s'⟩
  rw [results_eq, hr]
  simp [RV.run hv f s'.hd]
end
end Go.Ck
end

section
namespace Go.Proofs.Ytkkjppeaaicgaaa
open Go Go.Ck

instance cku3 : TyU Try.prog 3 (Go.TypeDesc.int Go.IntKind.i64) := ⟨Try.underlying3⟩
instance cku4 : TyU Try.prog 4 (Go.TypeDesc.bool) := ⟨Try.underlying4⟩
instance cku5 : TyU Try.prog 5 (Go.TypeDesc.int Go.IntKind.u8) := ⟨Try.underlying5⟩
instance cku9 : TyU Try.prog 9 (Go.TypeDesc.string) := ⟨Try.underlying9⟩
instance cku22 : TyU Try.prog 22 (Go.TypeDesc.slice 71) := ⟨Try.underlying22⟩
instance cku23 : TyU Try.prog 23 (Go.TypeDesc.slice 5) := ⟨Try.underlying23⟩
instance cku25 : TyU Try.prog 25 (Go.TypeDesc.slice 41) := ⟨Try.underlying25⟩
instance cku28 : TyU Try.prog 28 (Go.TypeDesc.int Go.IntKind.i64) := ⟨Try.underlying28⟩
instance cku30 : TyU Try.prog 30 (Go.TypeDesc.array 16 3) := ⟨Try.underlying30⟩
instance cku31 : TyU Try.prog 31 (Go.TypeDesc.slice 39) := ⟨Try.underlying31⟩
instance ckf33_0 : TyF Try.prog 33 0 0 30 16 := ⟨_, _, Try.underlying33, rfl, rfl, rfl, Try.sizeOf30⟩
instance ckf33_1 : TyF Try.prog 33 1 16 31 1 := ⟨_, _, Try.underlying33, rfl, rfl, rfl, Try.sizeOf31⟩
instance ckf39_0 : TyF Try.prog 39 0 0 3 1 := ⟨_, _, Try.underlying39, rfl, rfl, rfl, Try.sizeOf3⟩
instance ckf39_1 : TyF Try.prog 39 1 1 3 1 := ⟨_, _, Try.underlying39, rfl, rfl, rfl, Try.sizeOf3⟩
instance ckf41_0 : TyF Try.prog 41 0 0 39 2 := ⟨_, _, Try.underlying41, rfl, rfl, rfl, Try.sizeOf39⟩
instance ckf41_1 : TyF Try.prog 41 1 2 33 17 := ⟨_, _, Try.underlying41, rfl, rfl, rfl, Try.sizeOf33⟩
instance ckf41_2 : TyF Try.prog 41 2 19 23 1 := ⟨_, _, Try.underlying41, rfl, rfl, rfl, Try.sizeOf23⟩
instance cku45 : TyU Try.prog 45 (Go.TypeDesc.slice 48) := ⟨Try.underlying45⟩
instance cku46 : TyU Try.prog 46 (Go.TypeDesc.slice 50) := ⟨Try.underlying46⟩
instance ckf48_0 : TyF Try.prog 48 0 0 3 1 := ⟨_, _, Try.underlying48, rfl, rfl, rfl, Try.sizeOf3⟩
instance ckf48_1 : TyF Try.prog 48 1 1 22 1 := ⟨_, _, Try.underlying48, rfl, rfl, rfl, Try.sizeOf22⟩
instance ckf50_0 : TyF Try.prog 50 0 0 3 1 := ⟨_, _, Try.underlying50, rfl, rfl, rfl, Try.sizeOf3⟩
instance ckf50_1 : TyF Try.prog 50 1 1 25 1 := ⟨_, _, Try.underlying50, rfl, rfl, rfl, Try.sizeOf25⟩
instance cku54 : TyU Try.prog 54 (Go.TypeDesc.slice 3) := ⟨Try.underlying54⟩
instance cku64 : TyU Try.prog 64 (Go.TypeDesc.slice 99) := ⟨Try.underlying64⟩
instance cku65 : TyU Try.prog 65 (Go.TypeDesc.array 4 22) := ⟨Try.underlying65⟩
instance ckf69_0 : TyF Try.prog 69 0 0 30 16 := ⟨_, _, Try.underlying69, rfl, rfl, rfl, Try.sizeOf30⟩
instance ckf69_1 : TyF Try.prog 69 1 16 31 1 := ⟨_, _, Try.underlying69, rfl, rfl, rfl, Try.sizeOf31⟩
instance ckf71_0 : TyF Try.prog 71 0 0 39 2 := ⟨_, _, Try.underlying71, rfl, rfl, rfl, Try.sizeOf39⟩
instance ckf71_1 : TyF Try.prog 71 1 2 69 17 := ⟨_, _, Try.underlying71, rfl, rfl, rfl, Try.sizeOf69⟩
instance ckf71_2 : TyF Try.prog 71 2 19 9 1 := ⟨_, _, Try.underlying71, rfl, rfl, rfl, Try.sizeOf9⟩
instance cku72 : TyU Try.prog 72 (Go.TypeDesc.int Go.IntKind.u64) := ⟨Try.underlying72⟩
instance cku90 : TyU Try.prog 90 (Go.TypeDesc.slice 25) := ⟨Try.underlying90⟩
instance cku97 : TyU Try.prog 97 (Go.TypeDesc.array 5 3) := ⟨Try.underlying97⟩
instance ckf99_0 : TyF Try.prog 99 0 0 4 1 := ⟨_, _, Try.underlying99, rfl, rfl, rfl, Try.sizeOf4⟩
instance ckf99_1 : TyF Try.prog 99 1 1 3 1 := ⟨_, _, Try.underlying99, rfl, rfl, rfl, Try.sizeOf3⟩
instance ckf99_2 : TyF Try.prog 99 2 2 3 1 := ⟨_, _, Try.underlying99, rfl, rfl, rfl, Try.sizeOf3⟩
instance ckf99_3 : TyF Try.prog 99 3 3 3 1 := ⟨_, _, Try.underlying99, rfl, rfl, rfl, Try.sizeOf3⟩
instance ckf99_4 : TyF Try.prog 99 4 4 4 1 := ⟨_, _, Try.underlying99, rfl, rfl, rfl, Try.sizeOf4⟩
instance cku106 : TyU Try.prog 106 (Go.TypeDesc.int Go.IntKind.u64) := ⟨Try.underlying106⟩
instance cka3 : TyA Try.prog 3 false := ⟨Try.isAgg3⟩
instance cka4 : TyA Try.prog 4 false := ⟨Try.isAgg4⟩
instance cka5 : TyA Try.prog 5 false := ⟨Try.isAgg5⟩
instance cka9 : TyA Try.prog 9 false := ⟨Try.isAgg9⟩
instance cka22 : TyA Try.prog 22 false := ⟨Try.isAgg22⟩
instance cka23 : TyA Try.prog 23 false := ⟨Try.isAgg23⟩
instance cka25 : TyA Try.prog 25 false := ⟨Try.isAgg25⟩
instance cka28 : TyA Try.prog 28 false := ⟨Try.isAgg28⟩
instance cka30 : TyA Try.prog 30 true := ⟨Try.isAgg30⟩
instance cka31 : TyA Try.prog 31 false := ⟨Try.isAgg31⟩
instance cka33 : TyA Try.prog 33 true := ⟨Try.isAgg33⟩
instance cka39 : TyA Try.prog 39 true := ⟨Try.isAgg39⟩
instance cka41 : TyA Try.prog 41 true := ⟨Try.isAgg41⟩
instance cka45 : TyA Try.prog 45 false := ⟨Try.isAgg45⟩
instance cka46 : TyA Try.prog 46 false := ⟨Try.isAgg46⟩
instance cka48 : TyA Try.prog 48 true := ⟨Try.isAgg48⟩
instance cka50 : TyA Try.prog 50 true := ⟨Try.isAgg50⟩
instance cka54 : TyA Try.prog 54 false := ⟨Try.isAgg54⟩
instance cka64 : TyA Try.prog 64 false := ⟨Try.isAgg64⟩
instance cka65 : TyA Try.prog 65 true := ⟨Try.isAgg65⟩
instance cka69 : TyA Try.prog 69 true := ⟨Try.isAgg69⟩
instance cka71 : TyA Try.prog 71 true := ⟨Try.isAgg71⟩
instance cka72 : TyA Try.prog 72 false := ⟨Try.isAgg72⟩
instance cka90 : TyA Try.prog 90 false := ⟨Try.isAgg90⟩
instance cka97 : TyA Try.prog 97 true := ⟨Try.isAgg97⟩
instance cka99 : TyA Try.prog 99 true := ⟨Try.isAgg99⟩
instance cka106 : TyA Try.prog 106 false := ⟨Try.isAgg106⟩
instance cks3 : TyS Try.prog 3 1 := ⟨Try.sizeOf3⟩
instance cks4 : TyS Try.prog 4 1 := ⟨Try.sizeOf4⟩
instance cks5 : TyS Try.prog 5 1 := ⟨Try.sizeOf5⟩
instance cks9 : TyS Try.prog 9 1 := ⟨Try.sizeOf9⟩
instance cks22 : TyS Try.prog 22 1 := ⟨Try.sizeOf22⟩
instance cks23 : TyS Try.prog 23 1 := ⟨Try.sizeOf23⟩
instance cks25 : TyS Try.prog 25 1 := ⟨Try.sizeOf25⟩
instance cks28 : TyS Try.prog 28 1 := ⟨Try.sizeOf28⟩
instance cks30 : TyS Try.prog 30 16 := ⟨Try.sizeOf30⟩
instance cks31 : TyS Try.prog 31 1 := ⟨Try.sizeOf31⟩
instance cks33 : TyS Try.prog 33 17 := ⟨Try.sizeOf33⟩
instance cks39 : TyS Try.prog 39 2 := ⟨Try.sizeOf39⟩
instance cks41 : TyS Try.prog 41 20 := ⟨Try.sizeOf41⟩
instance cks45 : TyS Try.prog 45 1 := ⟨Try.sizeOf45⟩
instance cks46 : TyS Try.prog 46 1 := ⟨Try.sizeOf46⟩
instance cks48 : TyS Try.prog 48 2 := ⟨Try.sizeOf48⟩
instance cks50 : TyS Try.prog 50 2 := ⟨Try.sizeOf50⟩
instance cks54 : TyS Try.prog 54 1 := ⟨Try.sizeOf54⟩
instance cks64 : TyS Try.prog 64 1 := ⟨Try.sizeOf64⟩
instance cks65 : TyS Try.prog 65 4 := ⟨Try.sizeOf65⟩
instance cks69 : TyS Try.prog 69 17 := ⟨Try.sizeOf69⟩
instance cks71 : TyS Try.prog 71 20 := ⟨Try.sizeOf71⟩
instance cks72 : TyS Try.prog 72 1 := ⟨Try.sizeOf72⟩
instance cks90 : TyS Try.prog 90 1 := ⟨Try.sizeOf90⟩
instance cks97 : TyS Try.prog 97 5 := ⟨Try.sizeOf97⟩
instance cks99 : TyS Try.prog 99 5 := ⟨Try.sizeOf99⟩
instance cks106 : TyS Try.prog 106 1 := ⟨Try.sizeOf106⟩
instance ckz3 : TyZ Try.prog 3 (Go.Value.int Go.IntKind.i64 0) := ⟨Try.zeroValue3⟩
instance ckz4 : TyZ Try.prog 4 (Go.Value.bool false) := ⟨Try.zeroValue4⟩
instance ckz5 : TyZ Try.prog 5 (Go.Value.int Go.IntKind.u8 0) := ⟨Try.zeroValue5⟩
instance ckz9 : TyZ Try.prog 9 (Go.Value.string { data := #[] }) := ⟨Try.zeroValue9⟩
instance ckz22 : TyZ Try.prog 22 (Go.Value.slice none 0 0) := ⟨Try.zeroValue22⟩
instance ckz23 : TyZ Try.prog 23 (Go.Value.slice none 0 0) := ⟨Try.zeroValue23⟩
instance ckz25 : TyZ Try.prog 25 (Go.Value.slice none 0 0) := ⟨Try.zeroValue25⟩
instance ckz28 : TyZ Try.prog 28 (Go.Value.int Go.IntKind.i64 0) := ⟨Try.zeroValue28⟩
instance ckz30 : TyZ Try.prog 30 (Go.Value.agg #[Go.Value.int Go.IntKind.i64 0, Go.Value.int Go.IntKind.i64 0, Go.Value.int Go.IntKind.i64 0, Go.Value.int Go.IntKind.i64 0, Go.Value.int Go.IntKind.i64 0, Go.Value.int Go.IntKind.i64 0, Go.Value.int Go.IntKind.i64 0, Go.Value.int Go.IntKind.i64 0, Go.Value.int Go.IntKind.i64 0, Go.Value.int Go.IntKind.i64 0, Go.Value.int Go.IntKind.i64 0, Go.Value.int Go.IntKind.i64 0, Go.Value.int Go.IntKind.i64 0, Go.Value.int Go.IntKind.i64 0, Go.Value.int Go.IntKind.i64 0, Go.Value.int Go.IntKind.i64 0]) := ⟨Try.zeroValue30⟩
instance ckz31 : TyZ Try.prog 31 (Go.Value.slice none 0 0) := ⟨Try.zeroValue31⟩
instance ckz33 : TyZ Try.prog 33 (Go.Value.agg #[Go.Value.int Go.IntKind.i64 0, Go.Value.int Go.IntKind.i64 0, Go.Value.int Go.IntKind.i64 0, Go.Value.int Go.IntKind.i64 0, Go.Value.int Go.IntKind.i64 0, Go.Value.int Go.IntKind.i64 0, Go.Value.int Go.IntKind.i64 0, Go.Value.int Go.IntKind.i64 0, Go.Value.int Go.IntKind.i64 0, Go.Value.int Go.IntKind.i64 0, Go.Value.int Go.IntKind.i64 0, Go.Value.int Go.IntKind.i64 0, Go.Value.int Go.IntKind.i64 0, Go.Value.int Go.IntKind.i64 0, Go.Value.int Go.IntKind.i64 0, Go.Value.int Go.IntKind.i64 0, Go.Value.slice none 0 0]) := ⟨Try.zeroValue33⟩
instance ckz39 : TyZ Try.prog 39 (Go.Value.agg #[Go.Value.int Go.IntKind.i64 0, Go.Value.int Go.IntKind.i64 0]) := ⟨Try.zeroValue39⟩
instance ckz41 : TyZ Try.prog 41 (Go.Value.agg #[Go.Value.int Go.IntKind.i64 0, Go.Value.int Go.IntKind.i64 0, Go.Value.int Go.IntKind.i64 0, Go.Value.int Go.IntKind.i64 0, Go.Value.int Go.IntKind.i64 0, Go.Value.int Go.IntKind.i64 0, Go.Value.int Go.IntKind.i64 0, Go.Value.int Go.IntKind.i64 0, Go.Value.int Go.IntKind.i64 0, Go.Value.int Go.IntKind.i64 0, Go.Value.int Go.IntKind.i64 0, Go.Value.int Go.IntKind.i64 0, Go.Value.int Go.IntKind.i64 0, Go.Value.int Go.IntKind.i64 0, Go.Value.int Go.IntKind.i64 0, Go.Value.int Go.IntKind.i64 0, Go.Value.int Go.IntKind.i64 0, Go.Value.int Go.IntKind.i64 0, Go.Value.slice none 0 0, Go.Value.slice none 0 0]) := ⟨Try.zeroValue41⟩
instance ckz45 : TyZ Try.prog 45 (Go.Value.slice none 0 0) := ⟨Try.zeroValue45⟩
instance ckz46 : TyZ Try.prog 46 (Go.Value.slice none 0 0) := ⟨Try.zeroValue46⟩
instance ckz48 : TyZ Try.prog 48 (Go.Value.agg #[Go.Value.int Go.IntKind.i64 0, Go.Value.slice none 0 0]) := ⟨Try.zeroValue48⟩
instance ckz50 : TyZ Try.prog 50 (Go.Value.agg #[Go.Value.int Go.IntKind.i64 0, Go.Value.slice none 0 0]) := ⟨Try.zeroValue50⟩
instance ckz54 : TyZ Try.prog 54 (Go.Value.slice none 0 0) := ⟨Try.zeroValue54⟩
instance ckz64 : TyZ Try.prog 64 (Go.Value.slice none 0 0) := ⟨Try.zeroValue64⟩
instance ckz65 : TyZ Try.prog 65 (Go.Value.agg #[Go.Value.slice none 0 0, Go.Value.slice none 0 0, Go.Value.slice none 0 0, Go.Value.slice none 0 0]) := ⟨Try.zeroValue65⟩
instance ckz69 : TyZ Try.prog 69 (Go.Value.agg #[Go.Value.int Go.IntKind.i64 0, Go.Value.int Go.IntKind.i64 0, Go.Value.int Go.IntKind.i64 0, Go.Value.int Go.IntKind.i64 0, Go.Value.int Go.IntKind.i64 0, Go.Value.int Go.IntKind.i64 0, Go.Value.int Go.IntKind.i64 0, Go.Value.int Go.IntKind.i64 0, Go.Value.int Go.IntKind.i64 0, Go.Value.int Go.IntKind.i64 0, Go.Value.int Go.IntKind.i64 0, Go.Value.int Go.IntKind.i64 0, Go.Value.int Go.IntKind.i64 0, Go.Value.int Go.IntKind.i64 0, Go.Value.int Go.IntKind.i64 0, Go.Value.int Go.IntKind.i64 0, Go.Value.slice none 0 0]) := ⟨Try.zeroValue69⟩
instance ckz71 : TyZ Try.prog 71 (Go.Value.agg #[Go.Value.int Go.IntKind.i64 0, Go.Value.int Go.IntKind.i64 0, Go.Value.int Go.IntKind.i64 0, Go.Value.int Go.IntKind.i64 0, Go.Value.int Go.IntKind.i64 0, Go.Value.int Go.IntKind.i64 0, Go.Value.int Go.IntKind.i64 0, Go.Value.int Go.IntKind.i64 0, Go.Value.int Go.IntKind.i64 0, Go.Value.int Go.IntKind.i64 0, Go.Value.int Go.IntKind.i64 0, Go.Value.int Go.IntKind.i64 0, Go.Value.int Go.IntKind.i64 0, Go.Value.int Go.IntKind.i64 0, Go.Value.int Go.IntKind.i64 0, Go.Value.int Go.IntKind.i64 0, Go.Value.int Go.IntKind.i64 0, Go.Value.int Go.IntKind.i64 0, Go.Value.slice none 0 0, Go.Value.string { data := #[] }]) := ⟨Try.zeroValue71⟩
instance ckz72 : TyZ Try.prog 72 (Go.Value.int Go.IntKind.u64 0) := ⟨Try.zeroValue72⟩
instance ckz90 : TyZ Try.prog 90 (Go.Value.slice none 0 0) := ⟨Try.zeroValue90⟩
instance ckz97 : TyZ Try.prog 97 (Go.Value.agg #[Go.Value.int Go.IntKind.i64 0, Go.Value.int Go.IntKind.i64 0, Go.Value.int Go.IntKind.i64 0, Go.Value.int Go.IntKind.i64 0, Go.Value.int Go.IntKind.i64 0]) := ⟨Try.zeroValue97⟩
instance ckz99 : TyZ Try.prog 99 (Go.Value.agg #[Go.Value.bool false, Go.Value.int Go.IntKind.i64 0, Go.Value.int Go.IntKind.i64 0, Go.Value.int Go.IntKind.i64 0, Go.Value.bool false]) := ⟨Try.zeroValue99⟩
instance ckz106 : TyZ Try.prog 106 (Go.Value.int Go.IntKind.u64 0) := ⟨Try.zeroValue106⟩
instance ckb3 : TyB Try.prog 3 (Go.Value.int Go.IntKind.i64 0) 1 8 := ⟨by kernel_rfl⟩
instance ckb4 : TyB Try.prog 4 (Go.Value.bool false) 1 1 := ⟨by kernel_rfl⟩
instance ckb5 : TyB Try.prog 5 (Go.Value.int Go.IntKind.u8 0) 1 1 := ⟨by kernel_rfl⟩
instance ckb9 : TyB Try.prog 9 (Go.Value.string { data := #[] }) 1 16 := ⟨by kernel_rfl⟩
instance ckb22 : TyB Try.prog 22 (Go.Value.slice none 0 0) 1 24 := ⟨by kernel_rfl⟩
instance ckb23 : TyB Try.prog 23 (Go.Value.slice none 0 0) 1 24 := ⟨by kernel_rfl⟩
instance ckb25 : TyB Try.prog 25 (Go.Value.slice none 0 0) 1 24 := ⟨by kernel_rfl⟩
instance ckb28 : TyB Try.prog 28 (Go.Value.int Go.IntKind.i64 0) 1 8 := ⟨by kernel_rfl⟩
instance ckb30 : TyB Try.prog 30 (Go.Value.agg #[Go.Value.int Go.IntKind.i64 0, Go.Value.int Go.IntKind.i64 0, Go.Value.int Go.IntKind.i64 0, Go.Value.int Go.IntKind.i64 0, Go.Value.int Go.IntKind.i64 0, Go.Value.int Go.IntKind.i64 0, Go.Value.int Go.IntKind.i64 0, Go.Value.int Go.IntKind.i64 0, Go.Value.int Go.IntKind.i64 0, Go.Value.int Go.IntKind.i64 0, Go.Value.int Go.IntKind.i64 0, Go.Value.int Go.IntKind.i64 0, Go.Value.int Go.IntKind.i64 0, Go.Value.int Go.IntKind.i64 0, Go.Value.int Go.IntKind.i64 0, Go.Value.int Go.IntKind.i64 0]) 16 128 := ⟨by kernel_rfl⟩
instance ckb31 : TyB Try.prog 31 (Go.Value.slice none 0 0) 1 24 := ⟨by kernel_rfl⟩
instance ckb33 : TyB Try.prog 33 (Go.Value.agg #[Go.Value.int Go.IntKind.i64 0, Go.Value.int Go.IntKind.i64 0, Go.Value.int Go.IntKind.i64 0, Go.Value.int Go.IntKind.i64 0, Go.Value.int Go.IntKind.i64 0, Go.Value.int Go.IntKind.i64 0, Go.Value.int Go.IntKind.i64 0, Go.Value.int Go.IntKind.i64 0, Go.Value.int Go.IntKind.i64 0, Go.Value.int Go.IntKind.i64 0, Go.Value.int Go.IntKind.i64 0, Go.Value.int Go.IntKind.i64 0, Go.Value.int Go.IntKind.i64 0, Go.Value.int Go.IntKind.i64 0, Go.Value.int Go.IntKind.i64 0, Go.Value.int Go.IntKind.i64 0, Go.Value.slice none 0 0]) 17 152 := ⟨by kernel_rfl⟩
instance ckb39 : TyB Try.prog 39 (Go.Value.agg #[Go.Value.int Go.IntKind.i64 0, Go.Value.int Go.IntKind.i64 0]) 2 16 := ⟨by kernel_rfl⟩
instance ckb41 : TyB Try.prog 41 (Go.Value.agg #[Go.Value.int Go.IntKind.i64 0, Go.Value.int Go.IntKind.i64 0, Go.Value.int Go.IntKind.i64 0, Go.Value.int Go.IntKind.i64 0, Go.Value.int Go.IntKind.i64 0, Go.Value.int Go.IntKind.i64 0, Go.Value.int Go.IntKind.i64 0, Go.Value.int Go.IntKind.i64 0, Go.Value.int Go.IntKind.i64 0, Go.Value.int Go.IntKind.i64 0, Go.Value.int Go.IntKind.i64 0, Go.Value.int Go.IntKind.i64 0, Go.Value.int Go.IntKind.i64 0, Go.Value.int Go.IntKind.i64 0, Go.Value.int Go.IntKind.i64 0, Go.Value.int Go.IntKind.i64 0, Go.Value.int Go.IntKind.i64 0, Go.Value.int Go.IntKind.i64 0, Go.Value.slice none 0 0, Go.Value.slice none 0 0]) 20 192 := ⟨by kernel_rfl⟩
instance ckb45 : TyB Try.prog 45 (Go.Value.slice none 0 0) 1 24 := ⟨by kernel_rfl⟩
instance ckb46 : TyB Try.prog 46 (Go.Value.slice none 0 0) 1 24 := ⟨by kernel_rfl⟩
instance ckb48 : TyB Try.prog 48 (Go.Value.agg #[Go.Value.int Go.IntKind.i64 0, Go.Value.slice none 0 0]) 2 32 := ⟨by kernel_rfl⟩
instance ckb50 : TyB Try.prog 50 (Go.Value.agg #[Go.Value.int Go.IntKind.i64 0, Go.Value.slice none 0 0]) 2 32 := ⟨by kernel_rfl⟩
instance ckb54 : TyB Try.prog 54 (Go.Value.slice none 0 0) 1 24 := ⟨by kernel_rfl⟩
instance ckb64 : TyB Try.prog 64 (Go.Value.slice none 0 0) 1 24 := ⟨by kernel_rfl⟩
instance ckb65 : TyB Try.prog 65 (Go.Value.agg #[Go.Value.slice none 0 0, Go.Value.slice none 0 0, Go.Value.slice none 0 0, Go.Value.slice none 0 0]) 4 96 := ⟨by kernel_rfl⟩
instance ckb69 : TyB Try.prog 69 (Go.Value.agg #[Go.Value.int Go.IntKind.i64 0, Go.Value.int Go.IntKind.i64 0, Go.Value.int Go.IntKind.i64 0, Go.Value.int Go.IntKind.i64 0, Go.Value.int Go.IntKind.i64 0, Go.Value.int Go.IntKind.i64 0, Go.Value.int Go.IntKind.i64 0, Go.Value.int Go.IntKind.i64 0, Go.Value.int Go.IntKind.i64 0, Go.Value.int Go.IntKind.i64 0, Go.Value.int Go.IntKind.i64 0, Go.Value.int Go.IntKind.i64 0, Go.Value.int Go.IntKind.i64 0, Go.Value.int Go.IntKind.i64 0, Go.Value.int Go.IntKind.i64 0, Go.Value.int Go.IntKind.i64 0, Go.Value.slice none 0 0]) 17 152 := ⟨by kernel_rfl⟩
instance ckb71 : TyB Try.prog 71 (Go.Value.agg #[Go.Value.int Go.IntKind.i64 0, Go.Value.int Go.IntKind.i64 0, Go.Value.int Go.IntKind.i64 0, Go.Value.int Go.IntKind.i64 0, Go.Value.int Go.IntKind.i64 0, Go.Value.int Go.IntKind.i64 0, Go.Value.int Go.IntKind.i64 0, Go.Value.int Go.IntKind.i64 0, Go.Value.int Go.IntKind.i64 0, Go.Value.int Go.IntKind.i64 0, Go.Value.int Go.IntKind.i64 0, Go.Value.int Go.IntKind.i64 0, Go.Value.int Go.IntKind.i64 0, Go.Value.int Go.IntKind.i64 0, Go.Value.int Go.IntKind.i64 0, Go.Value.int Go.IntKind.i64 0, Go.Value.int Go.IntKind.i64 0, Go.Value.int Go.IntKind.i64 0, Go.Value.slice none 0 0, Go.Value.string { data := #[] }]) 20 184 := ⟨by kernel_rfl⟩
instance ckb72 : TyB Try.prog 72 (Go.Value.int Go.IntKind.u64 0) 1 8 := ⟨by kernel_rfl⟩
instance ckb90 : TyB Try.prog 90 (Go.Value.slice none 0 0) 1 24 := ⟨by kernel_rfl⟩
instance ckb97 : TyB Try.prog 97 (Go.Value.agg #[Go.Value.int Go.IntKind.i64 0, Go.Value.int Go.IntKind.i64 0, Go.Value.int Go.IntKind.i64 0, Go.Value.int Go.IntKind.i64 0, Go.Value.int Go.IntKind.i64 0]) 5 40 := ⟨by kernel_rfl⟩
instance ckb99 : TyB Try.prog 99 (Go.Value.agg #[Go.Value.bool false, Go.Value.int Go.IntKind.i64 0, Go.Value.int Go.IntKind.i64 0, Go.Value.int Go.IntKind.i64 0, Go.Value.bool false]) 5 40 := ⟨by kernel_rfl⟩
instance ckb106 : TyB Try.prog 106 (Go.Value.int Go.IntKind.u64 0) 1 8 := ⟨by kernel_rfl⟩
instance ckp33 : TyP Try.prog 33 [(0, 16), (16, 1)] := ⟨_, Try.underlying33, fun w => by simp [Try.sizeOf30, Try.sizeOf31]⟩
instance ckp39 : TyP Try.prog 39 [(0, 1), (1, 1)] := ⟨_, Try.underlying39, fun w => by simp [Try.sizeOf3]⟩
instance ckp41 : TyP Try.prog 41 [(0, 2), (2, 17), (19, 1)] := ⟨_, Try.underlying41, fun w => by simp [Try.sizeOf23, Try.sizeOf33, Try.sizeOf39]⟩
instance ckp48 : TyP Try.prog 48 [(0, 1), (1, 1)] := ⟨_, Try.underlying48, fun w => by simp [Try.sizeOf3, Try.sizeOf22]⟩
instance ckp50 : TyP Try.prog 50 [(0, 1), (1, 1)] := ⟨_, Try.underlying50, fun w => by simp [Try.sizeOf3, Try.sizeOf25]⟩
instance ckp69 : TyP Try.prog 69 [(0, 16), (16, 1)] := ⟨_, Try.underlying69, fun w => by simp [Try.sizeOf30, Try.sizeOf31]⟩
instance ckp71 : TyP Try.prog 71 [(0, 2), (2, 17), (19, 1)] := ⟨_, Try.underlying71, fun w => by simp [Try.sizeOf9, Try.sizeOf39, Try.sizeOf69]⟩
instance ckp99 : TyP Try.prog 99 [(0, 1), (1, 1), (2, 1), (3, 1), (4, 1)] := ⟨_, Try.underlying99, fun w => by simp [Try.sizeOf3, Try.sizeOf4]⟩
instance ckg99 : TyG Try.prog 99 := ⟨Try.eqGuardType99⟩
instance ckg33 : TyG Try.prog 33 := ⟨Try.eqGuardType33⟩
instance ckg50 : TyG Try.prog 50 := ⟨Try.eqGuardType50⟩
instance ckg69 : TyG Try.prog 69 := ⟨Try.eqGuardType69⟩
instance ckg48 : TyG Try.prog 48 := ⟨Try.eqGuardType48⟩
instance ckg65 : TyG Try.prog 65 := ⟨Try.eqGuardType65⟩
instance ckg97 : TyG Try.prog 97 := ⟨Try.eqGuardType97⟩
instance ckg41 : TyG Try.prog 41 := ⟨Try.eqGuardType41⟩
instance ckg71 : TyG Try.prog 71 := ⟨Try.eqGuardType71⟩
instance ckg30 : TyG Try.prog 30 := ⟨Try.eqGuardType30⟩
instance ckg39 : TyG Try.prog 39 := ⟨Try.eqGuardType39⟩
end Go.Proofs.Ytkkjppeaaicgaaa
end
