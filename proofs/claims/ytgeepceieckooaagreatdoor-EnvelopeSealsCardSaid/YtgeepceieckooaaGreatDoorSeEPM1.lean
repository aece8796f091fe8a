/-
  Part 1 of a proof: CkBase CkOps CkMem.
  Conditions: each theorem states its own.
-/
import Derived.Laws.AppendOwn
import Derived.Tactics
import Derived.WalkKit
import Derived.Laws.OwnMore
import Derived.Laws.AppendOwnNone
import Derived.Test.YtgeepceieckooaaGreatDoorSeEPM0
set_option maxRecDepth 100000
set_option linter.unusedVariables false
set_option linter.unusedSimpArgs false
section
namespace Go.Ck
open Go
def lk : List (Nat × Value) → Nat → Option Value
  | [], _ => none
  | (k, v) :: r, s => bif Nat.beq k s then some v else lk r s
structure Fr (n : Nat) (F : List (Nat × Value)) (a : Act) : Prop where
  size : a.tmps.size = n
  dfs : a.defers = []
  get : ∀ s v, lk F s = some v → a.tmps[s]? = some v
def ev (F : List (Nat × Value)) : Operand → Option Value
  | .tmp t => lk F t
  | .const v => some v
  | .global g => some (.pointer (some ⟨g, 0, none⟩))
  | .func f => some (.func (.func f) #[] #[])
theorem Fr.ev {n : Nat} {F : List (Nat × Value)} {a : Act} (h : Fr n F a) {x : Operand} {v : Value} (he : Ck.ev F x = some v) : a.eval x = v := by
  cases x with
  | tmp t => simp [Act.eval, Array.getD_eq_getD_getElem?, h.get t v he]
  | const v => simpa [Ck.ev, Act.eval] using he
  | global g => simpa [Ck.ev, Act.eval] using he
  | func f => simpa [Ck.ev, Act.eval] using he
def putF (dst : Option Nat) (v : Value) (F : List (Nat × Value)) : List (Nat × Value) :=
  match dst with
  | some d => (d, v) :: F
  | none => F
def okd (n : Nat) (dst : Option Nat) : Bool :=
  match dst with
  | some d => Nat.blt d n
  | none => true
theorem Fr.put {n : Nat} {F : List (Nat × Value)} {a : Act} (h : Fr n F a) {dst : Option Nat} (hd : okd n dst = true) (v : Value) : Fr n (putF dst v F) (a.put dst v) := by
  cases dst with
  | none => exact h
  | some d =>
    have hd : d < n := by simpa [okd, Nat.blt_eq] using hd
    refine ⟨by simp [Act.put, h.size], h.dfs, fun s u hs => ?_⟩
    simp only [putF, lk] at hs
    by_cases hds : d = s
    · subst hds
      simp only [Nat.beq_refl, cond_true, Option.some.injEq] at hs
      subst hs
      simp [Act.put, Array.getElem?_setIfInBounds, h.size, hd]
    · have hb : Nat.beq d s = false := by
        cases hx : Nat.beq d s with
        | false => rfl
        | true => exact absurd (Nat.eq_of_beq_eq_true hx) hds
      simp only [hb, cond_false] at hs
      simp [Act.put, Array.getElem?_setIfInBounds_ne hds, h.get s u hs]
def Sub (F' F : List (Nat × Value)) : Prop := ∀ s v, lk F' s = some v → lk F s = some v
theorem Sub.nil {F : List (Nat × Value)} : Sub [] F := fun s v h => by cases h
theorem Sub.cons {F' F : List (Nat × Value)} {s : Nat} {v v' : Value} (h1 : lk F s = some v') (h2 : v' = v) (h3 : Sub F' F) : Sub ((s, v) :: F') F := by
  subst h2
  intro t u ht
  simp only [lk] at ht
  by_cases hst : s = t
  · subst hst
    simp only [Nat.beq_refl, cond_true, Option.some.injEq] at ht
    subst ht
    exact h1
  · have hb : Nat.beq s t = false := by
      cases hx : Nat.beq s t with
      | false => rfl
      | true => exact absurd (Nat.eq_of_beq_eq_true hx) hst
    simp only [hb, cond_false] at ht
    exact h3 t u ht
theorem Fr.sub {n : Nat} {F F' : List (Nat × Value)} {a : Act} (h : Fr n F a) (hs : Sub F' F) : Fr n F' a := ⟨h.size, h.dfs, fun s v hv => h.get s v (hs s v hv)⟩
abbrev View := Nat → Option Obj
def Le (h h' : View) : Prop := ∀ b o, h b = some o → h' b = some o
theorem Le.refl (h : View) : Le h h := fun _ _ x => x
theorem Le.trans {a b c : View} (h : Le a b) (k : Le b c) : Le a c := fun x o hx => k x o (h x o hx)
structure Res where
  dom : List Nat
  sat : World → Prop
  loc : ∀ w w' : World, (∀ b ∈ dom, w'.heap[b]? = w.heap[b]?) → sat w → sat w'
  lt : ∀ w, sat w → ∀ b ∈ dom, b < w.heap.size
def Res.blk (b : Nat) (o : Obj) : Res where
  dom := [b]
  sat := fun w => w.heap[b]? = some o
  loc := fun w w' h hs => by rw [h b (List.mem_singleton.2 rfl)]; exact hs
  lt := fun w hs b' hb => by
    have : b' = b := by simpa using hb
    subst this
    exact (Array.getElem?_eq_some_iff.1 hs).1
def doms (L : List Res) : List Nat := L.flatMap Res.dom
structure Hd (h : View) (L : List Res) (w : World) : Prop where
  view : ∀ b o, h b = some o → w.heap[b]? = some o
  own : ∀ r ∈ L, r.sat w
structure Bs where
  w0 : World
  h0 : View
  A : List Nat
structure St (K : Bs) (h : View) (L : List Res) (w : World) : Prop where
  os : w.os = K.w0.os
  tape : w.tape = K.w0.tape
  output : w.output = K.w0.output
  drawn : K.w0.drawn ≤ w.drawn
  size : K.w0.heap.size ≤ w.heap.size
  keep : ∀ k, k < K.w0.heap.size → k ∉ K.A → w.heap[k]? = K.w0.heap[k]?
  hd : Hd h L w
  nd : (doms L).Nodup
  src : ∀ b ∈ doms L, b ∈ K.A ∨ K.w0.heap.size ≤ b
  grow : Le K.h0 h
  new : ∀ b, b < K.w0.heap.size → K.h0 b = none → h b = none
  dis : ∀ b ∈ doms L, h b = none
theorem mem_doms {L : List Res} {b : Nat} : b ∈ doms L ↔ ∃ r ∈ L, b ∈ r.dom := by simp [doms, List.mem_flatMap]
theorem Hd.lt {h : View} {L : List Res} {w : World} (hh : Hd h L w) {b : Nat} (hb : b ∈ doms L) : b < w.heap.size := by
  obtain ⟨r, hr, hb⟩ := mem_doms.1 hb
  exact r.lt w (hh.own r hr) b hb
theorem Hd.sub {h h' : View} {L L' : List Res} {w : World} (hh : Hd h L w) (h1 : Le h' h) (h2 : ∀ r ∈ L', r ∈ L) : Hd h' L' w := ⟨fun b o hb => hh.view b o (h1 b o hb), fun r hr => hh.own r (h2 r hr)⟩
theorem Hd.tl {h : View} {r : Res} {L : List Res} {w : World} (hh : Hd h (r :: L) w) : Hd h L w := hh.sub (Le.refl h) fun _ hr => List.mem_cons_of_mem _ hr
theorem St.start {w : World} {h : View} {L : List Res} (hd : Hd h L w) (nd : (doms L).Nodup) (dis : ∀ b ∈ doms L, h b = none) : St ⟨w, h, doms L⟩ h L w :=
  ⟨rfl, rfl, rfl, Nat.le_refl _, Nat.le_refl _, fun _ _ _ => rfl, hd, nd, fun _ hb => .inl hb, Le.refl h, fun _ _ hb => hb, dis⟩
theorem St.alloc {K : Bs} {h : View} {L : List Res} {w : World} (s : St K h L w) (o : Obj) : St K h (Res.blk w.heap.size o :: L) (w.alloc o) := by
  have hpush : ∀ k, k < w.heap.size → (w.alloc o).heap[k]? = w.heap[k]? := fun k hk => by
    show (w.heap.push o)[k]? = _
    rw [Array.getElem?_push, if_neg (by omega)]
  have hnone : h w.heap.size = none := by
    cases hx : h w.heap.size with
    | none => rfl
    | some o' =>
      have := s.hd.view _ _ hx
      simp at this
  refine ⟨s.os, s.tape, s.output, s.drawn, ?_, fun k hk hkA => ?_, ⟨fun b o' hb => ?_, fun r hr => ?_⟩, ?_, fun b hb => ?_, s.grow, s.new, fun b hb => ?_⟩
  · exact Nat.le_trans s.size (by show w.heap.size ≤ (w.heap.push o).size; simp)
  · rw [hpush k (Nat.lt_of_lt_of_le hk s.size)]; exact s.keep k hk hkA
  · have hv := s.hd.view b o' hb
    rw [hpush b (Array.getElem?_eq_some_iff.1 hv).1]; exact hv
  · rcases List.mem_cons.1 hr with rfl | hr
    · show (w.heap.push o)[w.heap.size]? = some o
      simp
    · exact r.loc w _ (fun b hb => hpush b (r.lt w (s.hd.own r hr) b hb)) (s.hd.own r hr)
  · show (w.heap.size :: doms L).Nodup
    refine List.nodup_cons.2 ⟨fun hm => ?_, s.nd⟩
    exact Nat.lt_irrefl _ (s.hd.lt hm)
  · have hb' : b ∈ w.heap.size :: doms L := hb
    rcases List.mem_cons.1 hb' with rfl | hb'
    · exact .inr s.size
    · exact s.src b hb'
  · have hb' : b ∈ w.heap.size :: doms L := hb
    rcases List.mem_cons.1 hb' with rfl | hb'
    · exact hnone
    · exact s.dis b hb'
theorem St.drew {K : Bs} {h : View} {L : List Res} {w : World} (s : St K h L w) : St K h L w.drew :=
  ⟨s.os, s.tape, s.output, Nat.le_succ_of_le s.drawn, s.size, s.keep, ⟨s.hd.view, fun r hr => r.loc w _ (fun _ _ => rfl) (s.hd.own r hr)⟩, s.nd, s.src, s.grow, s.new, s.dis⟩
theorem doms_append (L L' : List Res) : doms (L ++ L') = doms L ++ doms L' := by simp [doms]
theorem doms_cons (r : Res) (L : List Res) : doms (r :: L) = r.dom ++ doms L := by simp [doms]
theorem St.perm {K : Bs} {h : View} {L L' : List Res} {w : World} (s : St K h L w) (p : L.Perm L') : St K h L' w := by
  have pd : (doms L).Perm (doms L') := List.Perm.flatMap_right _ p
  exact ⟨s.os, s.tape, s.output, s.drawn, s.size, s.keep, ⟨s.hd.view, fun r hr => s.hd.own r (p.mem_iff.2 hr)⟩, pd.nodup_iff.1 s.nd, fun b hb => s.src b (pd.mem_iff.2 hb), s.grow, s.new, fun b hb => s.dis b (pd.mem_iff.2 hb)⟩
theorem St.drop {K : Bs} {h : View} {L L' : List Res} {w : World} (s : St K h (L ++ L') w) : St K h L' w :=
  ⟨s.os, s.tape, s.output, s.drawn, s.size, s.keep, s.hd.sub (Le.refl h) (fun r hr => List.mem_append_right _ hr), by have := s.nd; rw [doms_append] at this; exact (List.nodup_append.1 this).2.1,
   fun b hb => s.src b (by rw [doms_append]; exact List.mem_append_right _ hb), s.grow, s.new, fun b hb => s.dis b (by rw [doms_append]; exact List.mem_append_right _ hb)⟩
theorem St.nil {K : Bs} {h : View} {L : List Res} {w : World} (s : St K h L w) : St K h [] w := St.drop (L := L) (L' := []) (by simpa using s)
theorem St.base {K : Bs} {h : View} {L : List Res} {w : World} (s : St K h L w) : St K K.h0 [] w :=
  ⟨s.os, s.tape, s.output, s.drawn, s.size, s.keep, ⟨fun b o hb => s.hd.view b o (s.grow b o hb), fun r hr => by cases hr⟩, by simp [doms], fun b hb => by simp [doms] at hb, Le.refl _, fun _ _ hb => hb, fun b hb => by simp [doms] at hb⟩
theorem St.tl {K : Bs} {h : View} {r : Res} {L : List Res} {w : World} (s : St K h (r :: L) w) : St K h L w := St.drop (L := [r]) (L' := L) s
theorem St.keep1 {K : Bs} {h : View} {r : Res} {L : List Res} {w : World} (s : St K h (r :: L) w) : St K h [r] w := St.drop (L := L) (L' := [r]) (s.perm (List.perm_append_comm (l₁ := [r]) (l₂ := L)))
theorem St.enter {K : Bs} {h : View} {Li Lr : List Res} {w : World} (s : St K h (Li ++ Lr) w) : St ⟨w, h, doms Li⟩ h Li w :=
  St.start (s.hd.sub (Le.refl h) fun r hr => List.mem_append_left _ hr) (by have := s.nd; rw [doms_append] at this; exact (List.nodup_append.1 this).1)
    (fun b hb => s.dis b (by rw [doms_append]; exact List.mem_append_left _ hb))
theorem St.leave {K : Bs} {h h' : View} {Li Lo Lr : List Res} {w w' : World} (s : St K h (Li ++ Lr) w) (t : St ⟨w, h, doms Li⟩ h' Lo w') : St K h' (Lo ++ Lr) w' := by
  have nd := s.nd
  rw [doms_append] at nd
  obtain ⟨n1, n2, n3⟩ := List.nodup_append.1 nd
  have hrest : ∀ r ∈ Lr, ∀ b ∈ r.dom, b < w.heap.size ∧ b ∉ doms Li := fun r hr b hb => by
    have hm : b ∈ doms Lr := mem_doms.2 ⟨r, hr, hb⟩
    exact ⟨r.lt w (s.hd.own r (List.mem_append_right _ hr)) b hb, fun hi => n3 b hi b hm rfl⟩
  have hLr : ∀ b ∈ doms Lr, b < w.heap.size ∧ b ∉ doms Li := fun b hb => by
    obtain ⟨r, hr, hb⟩ := mem_doms.1 hb
    exact hrest r hr b hb
  refine ⟨t.os.trans s.os, t.tape.trans s.tape, t.output.trans s.output, Nat.le_trans s.drawn t.drawn, Nat.le_trans s.size t.size, fun k hk hkA => ?_, ⟨t.hd.view, fun r hr => ?_⟩, ?_, fun b hb => ?_, s.grow.trans t.grow, fun b hb hb0 => ?_, fun b hb => ?_⟩
  · rw [t.keep k (Nat.lt_of_lt_of_le hk s.size) (fun hi => ?_)]
    · exact s.keep k hk hkA
    · rcases s.src k (by rw [doms_append]; exact List.mem_append_left _ hi) with h1 | h1
      · exact hkA h1
      · omega
  · rcases List.mem_append.1 hr with hr | hr
    · exact t.hd.own r hr
    · exact r.loc w w' (fun b hb => t.keep b (hrest r hr b hb).1 (hrest r hr b hb).2) (s.hd.own r (List.mem_append_right _ hr))
  · rw [doms_append]
    refine List.nodup_append.2 ⟨t.nd, n2, fun a ha b hb hab => ?_⟩
    subst hab
    obtain ⟨q1, q2⟩ := hLr a hb
    rcases t.src a ha with h1 | h1
    · exact q2 h1
    · exact absurd q1 (Nat.not_lt.2 h1)
  · rw [doms_append] at hb
    rcases List.mem_append.1 hb with hb | hb
    · rcases t.src b hb with h1 | h1
      · exact s.src b (by rw [doms_append]; exact List.mem_append_left _ h1)
      · exact .inr (Nat.le_trans s.size h1)
    · exact s.src b (by rw [doms_append]; exact List.mem_append_right _ hb)
  · exact t.new b (Nat.lt_of_lt_of_le hb s.size) (s.new b hb hb0)
  · rw [doms_append] at hb
    rcases List.mem_append.1 hb with hb | hb
    · exact t.dis b hb
    · exact t.new b (hLr b hb).1 (s.dis b (by rw [doms_append]; exact List.mem_append_right _ hb))
def addV (h : View) (b : Nat) (o : Obj) : View := fun x => if x = b then some o else h x
theorem St.persist {K : Bs} {h : View} {b : Nat} {o : Obj} {L : List Res} {w : World} (s : St K h (Res.blk b o :: L) w) (hA : K.A = []) : St K (addV h b o) L w := by
  have hmem : b ∈ doms (Res.blk b o :: L) := by rw [doms_cons]; exact List.mem_append_left _ (List.mem_singleton.2 rfl)
  have hb0 : K.w0.heap.size ≤ b := by
    rcases s.src b hmem with h1 | h1
    · rw [hA] at h1; cases h1
    · exact h1
  have nd := s.nd
  rw [doms_cons] at nd
  obtain ⟨_, n2, n3⟩ := List.nodup_append.1 nd
  have hnot : b ∉ doms L := fun hb => n3 b (List.mem_singleton.2 rfl) b hb rfl
  refine ⟨s.os, s.tape, s.output, s.drawn, s.size, s.keep, ⟨fun x o' hx => ?_, fun r hr => s.hd.own r (List.mem_cons_of_mem _ hr)⟩, n2, fun x hx => s.src x (by rw [doms_cons]; exact List.mem_append_right _ hx), fun x o' hx => ?_, fun x hx hx0 => ?_, fun x hx => ?_⟩
  · unfold addV at hx
    split at hx
    · rename_i e; subst e; cases hx
      exact s.hd.own _ (List.mem_cons_self ..)
    · exact s.hd.view x o' hx
  · unfold addV
    split
    · rename_i e; subst e
      have h1 := s.grow x o' hx
      rw [s.dis x hmem] at h1; cases h1
    · exact s.grow x o' hx
  · unfold addV
    rw [if_neg (by omega)]
    exact s.new x hx hx0
  · unfold addV
    rw [if_neg (fun e => hnot (by rw [← e]; exact hx))]
    exact s.dis x (by rw [doms_cons]; exact List.mem_append_right _ hx)
theorem Le.addV {h : View} {b : Nat} {o : Obj} (hb : h b = none) : Le h (Ck.addV h b o) := fun x o' hx => by
  unfold Ck.addV
  split
  · rename_i e; subst e; rw [hb] at hx; cases hx
  · exact hx
theorem addV_same {h : View} {b : Nat} {o : Obj} : addV h b o b = some o := by simp [addV]
theorem St.write {K : Bs} {h : View} {b : Nat} {o o' : Obj} {L : List Res} {w w' : World} (s : St K h (Res.blk b o :: L) w) (h1 : w'.os = w.os) (h2 : w'.tape = w.tape) (h3 : w'.output = w.output) (hdr : w.drawn ≤ w'.drawn)
    (h4 : w'.heap.size = w.heap.size) (h5 : ∀ k, k ≠ b → w'.heap[k]? = w.heap[k]?) (h6 : w'.heap[b]? = some o') : St K h (Res.blk b o' :: L) w' := by
  have t : St ⟨w, h, doms [Res.blk b o]⟩ h [Res.blk b o'] w' := by
    have hdis := s.dis b (by rw [doms_cons]; exact List.mem_append_left _ (List.mem_singleton.2 rfl))
    have hd1 : ∀ x, x ∈ doms [Res.blk b o'] → x = b := fun x hx => by simpa [doms, Res.blk] using hx
    refine ⟨h1, h2, h3, hdr, by rw [h4]; exact Nat.le_refl _, fun k hk hkA => h5 k (fun e => hkA (by subst e; simp [doms, Res.blk])), ⟨fun x ob hx => ?_, fun r hr => ?_⟩, ?_, fun x hx => .inl (by rw [hd1 x hx]; simp [doms, Res.blk]), Le.refl h, fun _ _ hx => hx, fun x hx => by rw [hd1 x hx]; exact hdis⟩
    · rw [h5 x (fun e => by subst e; rw [hdis] at hx; cases hx)]
      exact s.hd.view x ob hx
    · have : r = Res.blk b o' := by simpa using hr
      subst this
      exact h6
    · simp [doms, Res.blk]
  exact St.leave (Li := [Res.blk b o]) (Lo := [Res.blk b o']) (Lr := L) s t
theorem perm_at {L : List Res} {k : Nat} {R : Res} (hk : L[k]? = some R) : L.Perm (R :: L.eraseIdx k) := by
  induction L generalizing k with
  | nil => simp at hk
  | cons r L ih =>
    cases k with
    | zero => simp at hk; subst hk; exact List.Perm.refl _
    | succ k =>
      simp only [List.getElem?_cons_succ] at hk
      exact ((ih hk).cons r).trans (List.Perm.swap R r _)
theorem perm_set {L : List Res} {k : Nat} {R R' : Res} (hk : L[k]? = some R) : (R' :: L.eraseIdx k).Perm (L.set k R') := by
  induction L generalizing k with
  | nil => simp at hk
  | cons r L ih =>
    cases k with
    | zero => exact List.Perm.refl _
    | succ k =>
      simp only [List.getElem?_cons_succ] at hk
      exact (List.Perm.swap r R' _).trans ((ih hk).cons r)
theorem St.writeAt {K : Bs} {h : View} {b k : Nat} {o o' : Obj} {L : List Res} {w w' : World} (s : St K h L w) (hk : L[k]? = some (Res.blk b o)) (h1 : w'.os = w.os) (h2 : w'.tape = w.tape) (h3 : w'.output = w.output) (hdr : w.drawn ≤ w'.drawn)
    (h4 : w'.heap.size = w.heap.size) (h5 : ∀ k, k ≠ b → w'.heap[k]? = w.heap[k]?) (h6 : w'.heap[b]? = some o') : St K h (L.set k (Res.blk b o')) w' :=
  (St.write (s.perm (perm_at hk)) h1 h2 h3 hdr h4 h5 h6).perm (perm_set hk)
section
variable {P : Program} {n : Nat} {K : Bs}
def CX (P : Program) (n : Nat) (K : Bs) (c : Code) (F : List (Nat × Value)) (h : View) (L : List Res) (Q : Exit → Act → World → Prop) : Prop :=
  ∀ a w, Fr n F a → St K h L w → c.wp P Q a w
def NX (n : Nat) (K : Bs) (e : Exit) (F : List (Nat × Value)) (h : View) (L : List Res) (Q : Exit → Act → World → Prop) : Prop :=
  ∀ a w, Fr n F a → St K h L w → Q e a w
structure Rg where
  ops : Array Oper
  S : World → Prop
  lo : Nat → Bool
  bar : Nat → Bool
def RX (P : Program) (n : Nat) (K : Bs) (g : Rg) (prs : List (Nat × Oper)) (F : List (Nat × Value)) (h : View) (L : List Res) (Q : Exit → Act → World → Prop) : Prop :=
  ∀ a w, Fr n F a → St K h L w → wpX P g.ops g.S g.lo g.bar (Q .normal) prs a w
variable {F : List (Nat × Value)} {h : View} {L : List Res} {Q : Exit → Act → World → Prop}
theorem ybo {x y : Code} (hx : CX P n K x F h L (Exit.then (fun a w => y.wp P Q a w) Q)) : CX P n K (.seq x y) F h L Q := fun a w f s => wp_seq (hx a w f s)
theorem ybs (hx : NX n K .normal F h L Q) : CX P n K .skip F h L Q := fun a w f s => wp_skip (hx a w f s)
theorem ybr (hx : NX n K .ret F h L Q) : CX P n K .ret F h L Q := fun a w f s => wp_ret (hx a w f s)
theorem ybt {id : Nat} (hx : NX n K (.exit id) F h L Q) : CX P n K (.exit id) F h L Q := fun a w f s => wp_exit (hx a w f s)
theorem ybq {id : Nat} {c : Code} (hx : CX P n K c F h L (Exit.inBlock id Q)) : CX P n K (.block id c) F h L Q := fun a w f s => wp_block (hx a w f s)
theorem ybu {x : Operand} {c d : Code} (hv : ev F x = some (.bool true)) (hx : CX P n K c F h L Q) : CX P n K (.cond x c d) F h L Q :=
  fun a w f s => wp_cond_true (f.ev hv) (hx a w f s)
theorem ybv {x : Operand} {c d : Code} (hv : ev F x = some (.bool false)) (hx : CX P n K d F h L Q) : CX P n K (.cond x c d) F h L Q :=
  fun a w f s => wp_cond_false (f.ev hv) (hx a w f s)
theorem ybx {x : Operand} {c d : Code} {t : Bool} (hv : ev F x = some (.bool t)) (hx : t = true → CX P n K c F h L Q) (hy : t = false → CX P n K d F h L Q) : CX P n K (.cond x c d) F h L Q :=
  fun a w f s => wp_cond_split (f.ev hv) (fun ht => hx ht a w f s) (fun ht => hy ht a w f s)
theorem ybw {x : Operand} {c d : Code} {p : Prop} [Decidable p] (hv : ev F x = some (.bool (decide p))) (hx : p → CX P n K c F h L Q) (hy : ¬ p → CX P n K d F h L Q) : CX P n K (.cond x c d) F h L Q :=
  ybx hv (fun ht => hx (oet_ ht)) (fun ht => hy (oef_ ht))
theorem cx_loop {X : Type} {c : Code} (FI : X → List (Nat × Value)) (hI : X → View) (LI : X → List Res) (p : X → Prop) (m : X → Nat) (x0 : X) (hp : p x0) (hF : Sub (FI x0) F)
    (hS : ∀ w, St K h L w → St K (hI x0) (LI x0) w)
    (round : ∀ x, p x → CX P n K c (FI x) (hI x) (LI x) (Exit.then (fun a w => ∃ y, p y ∧ m y < m x ∧ Fr n (FI y) a ∧ St K (hI y) (LI y) w) Q)) : CX P n K (.loop c) F h L Q := fun a w f s => by
  intro b k cs
  have key : ∀ j, ∀ x a w, p x → m x = j → Fr n (FI x) a → St K (hI x) (LI x) w →
      ∃ e a' w', Q e a' w' ∧ Arrives P (lone (b.at a (.code c :: .inLoop c :: k)) cs w) b k cs e a' w' := by
    intro j
    induction j using Nat.strongRecOn with
    | _ j ih =>
      intro x a w hx hj f s
      obtain ⟨e, a₁, w₁, hq, harr⟩ := round x hx a w f s b (.inLoop c :: k) cs
      cases e with
      | normal =>
        obtain ⟨y, hy, hlt, fy, sy⟩ := hq
        obtain ⟨e₂, a₂, w₂, hq₂, harr₂⟩ := ih (m y) (hj ▸ hlt) y a₁ w₁ hy rfl fy sy
        exact ⟨e₂, a₂, w₂, hq₂, .of_steps (Steps.trans harr (.one step_inLoop)) harr₂⟩
      | exit id => exact ⟨_, a₁, w₁, hq, .pass (x := .inLoop c) rfl (fun _ _ => .inl (by simp)) harr⟩
      | goto l => exact ⟨_, a₁, w₁, hq, .pass (x := .inLoop c) rfl (fun _ _ => .inl (by simp)) harr⟩
      | ret => exact ⟨_, a₁, w₁, hq, .pass (x := .inLoop c) rfl (fun _ _ => .inl (by simp)) harr⟩
      | panic ch => exact ⟨_, a₁, w₁, hq, .pass (x := .inLoop c) rfl (fun _ _ => .inl (by simp)) harr⟩
      | outgrown => exact ⟨_, a₁, w₁, hq, .pass (x := .inLoop c) rfl (fun _ _ => .inl (by simp)) harr⟩
  obtain ⟨e, a', w', hq, harr⟩ := key _ x0 a w hp rfl (f.sub hF) (hS w s)
  exact ⟨e, a', w', hq, .of_steps (.one step_loop) harr⟩
theorem nx_round {X : Type} {FI : X → List (Nat × Value)} {hI : X → View} {LI : X → List Res} {p : X → Prop} {m : X → Nat} {k : Nat} {Q' : Exit → Act → World → Prop} (y : X) (hp : p y) (hm : m y < k) (hF : Sub (FI y) F)
    (hS : ∀ w, St K h L w → St K (hI y) (LI y) w) : NX n K .normal F h L (Exit.then (fun a w => ∃ y, p y ∧ m y < k ∧ Fr n (FI y) a ∧ St K (hI y) (LI y) w) Q') :=
  fun a w f s => ⟨y, hp, hm, f.sub hF, hS w s⟩
theorem cx_cut {X : Type} {x : Code} (FI : X → List (Nat × Value)) (hI : X → View) (LI : X → List Res) (p : X → Prop)
    (h1 : CX P n K x F h L (fun e a w => match e with | .normal => ∃ y, p y ∧ Fr n (FI y) a ∧ St K (hI y) (LI y) w | e => Q e a w))
    (h2 : ∀ y, p y → NX n K .normal (FI y) (hI y) (LI y) Q) : CX P n K x F h L Q := fun a w f s => by
  refine wp_mono (h1 a w f s) fun e a w hq => ?_
  cases e with
  | normal => obtain ⟨y, hy, fy, sy⟩ := hq; exact h2 y hy a w fy sy
  | _ => exact hq
theorem nx_cut {X : Type} {FI : X → List (Nat × Value)} {hI : X → View} {LI : X → List Res} {p : X → Prop} {Q' : Exit → Act → World → Prop} (y : X) (hp : p y) (hF : Sub (FI y) F) (hS : ∀ w, St K h L w → St K (hI y) (LI y) w) :
    NX n K .normal F h L (fun e a w => match e with | .normal => ∃ y, p y ∧ Fr n (FI y) a ∧ St K (hI y) (LI y) w | e => Q' e a w) := fun a w f s => ⟨y, hp, f.sub hF, hS w s⟩
theorem nx_then {next : Act → World → Prop} (hx : ∀ a w, Fr n F a → St K h L w → next a w) : NX n K .normal F h L (Exit.then next Q) := hx
theorem yby {c : Code} (hx : CX P n K c F h L Q) : NX n K .normal F h L (Exit.then (fun a w => c.wp P Q a w) Q) := hx
theorem ybz {next : Act → World → Prop} (hx : NX n K .ret F h L Q) : NX n K .ret F h L (Exit.then next Q) := hx
theorem yca {next : Act → World → Prop} {id : Nat} (hx : NX n K (.exit id) F h L Q) : NX n K (.exit id) F h L (Exit.then next Q) := hx
theorem ycb {id : Nat} (hx : NX n K .normal F h L Q) : NX n K .normal F h L (Exit.inBlock id Q) := hx
theorem ycc {id : Nat} (hx : NX n K .ret F h L Q) : NX n K .ret F h L (Exit.inBlock id Q) := hx
theorem ycd {id : Nat} (hx : NX n K .normal F h L Q) : NX n K (.exit id) F h L (Exit.inBlock id Q) := fun a w f s => by
  simp only [Exit.inBlock, if_true]; exact hx a w f s
theorem ybp {id : Nat} {ops : Array Oper} (hx : RX P n K ⟨ops, fun _ => True, fun _ => true, fun _ => false⟩ (enumFrom 0 ops.toList) F h L Q) : CX P n K (.region id ops false) F h L Q :=
  fun a w f s => wp_region_seq (hx a w f s)
theorem cx_region_draw' {id : Nat} {ops : Array Oper} (hm : P.follows .mixedOrders = true) (hB : lexOkAt ops (masks ops) (loOf ops) (barOf ops) = true)
    (hx : RX P n K ⟨ops, Hd h L, loOf ops, barOf ops⟩ (enumFrom 0 ops.toList) F h L Q) : CX P n K (.region id ops true) F h L Q :=
  fun a w f s => wp_region_lex hm hB (hx a w.drew ⟨f.size, f.dfs, f.get⟩ s.drew)
theorem cx_region_draw {id : Nat} {ops : Array Oper} (LS : List Res) (hm : P.follows .mixedOrders = true) (hB : lexOkAt ops (masks ops) (loOf ops) (barOf ops) = true)
    (hx : RX P n K ⟨ops, Hd h LS, loOf ops, barOf ops⟩ (enumFrom 0 ops.toList) F h L Q) : CX P n K (.region id ops true) F h L Q :=
  fun a w f s => wp_region_lex hm hB (hx a w.drew ⟨f.size, f.dfs, f.get⟩ s.drew)
theorem ycg {g : Rg} (hx : NX n K .normal F h L Q) : RX P n K g [] F h L Q := hx
def wantedF (ops : Array Oper) (F : List (Nat × Value)) (o : Oper) : Option Bool :=
  match o.guard with
  | none => some true
  | some (j, want) => match ((ops[j]?).bind (·.dst)).bind (lk F) with
    | some (.bool b) => some (b == want)
    | some _ => some false
    | none => none
theorem wantedF_ok {ops : Array Oper} {o : Oper} {a : Act} {t : Bool} (f : Fr n F a) (hw : wantedF ops F o = some t) : Region.wanted o (yielded ops a.tmps) = t := by
  unfold wantedF at hw
  unfold Region.wanted
  split at hw
  · rename_i hg; rw [hg]; cases hw; rfl
  · rename_i j want hg
    rw [hg]
    dsimp only
    cases hd : (ops[j]?).bind (·.dst) with
    | none => rw [hd] at hw; cases hw
    | some d =>
      rw [hd] at hw
      simp only [Option.bind_some] at hw
      cases hv : lk F d with
      | none => rw [hv] at hw; cases hw
      | some v =>
        have hy : yielded ops a.tmps j = (match some v with | some (.bool b) => some b | _ => none) := by
          unfold yielded
          rw [hd]
          simp only [Option.bind_some]
          rw [f.get d _ hv]
          cases v <;> rfl
        rw [hy]
        rw [hv] at hw
        cases v <;> simp only at hw ⊢ <;> cases hw
        case bool.refl b => cases b <;> cases want <;> rfl
        all_goals rfl
theorem ybl {g : Rg} {i : Nat} {dst : Option Nat} {op : Op} {ty : Nat} {pos : String} {af : Array Edge} {gd : Option (Nat × Bool)} {r : List (Nat × Oper)} (hw : wantedF g.ops F ⟨dst, op, ty, pos, af, gd⟩ = some false) (hd : okd n dst = true) (hx : RX P n K g r (putF dst undef F) h L Q) : RX P n K g ((i, ⟨dst, op, ty, pos, af, gd⟩) :: r) F h L Q :=
  fun a w f s => .inl ⟨wantedF_ok f hw, hx _ _ (f.put hd undef) s⟩
def gval (ops : Array Oper) (F : List (Nat × Value)) (o : Oper) : Option Bool :=
  match o.guard with
  | none => none
  | some (j, _) => match ((ops[j]?).bind (·.dst)).bind (lk F) with
    | some (.bool b) => some b
    | _ => none
theorem ybj {g : Rg} {i : Nat} {o : Oper} {r : List (Nat × Oper)} {t : Bool} (hv : gval g.ops F o = some t) (h1 : t = true → RX P n K g ((i, o) :: r) F h L Q) (h2 : t = false → RX P n K g ((i, o) :: r) F h L Q) : RX P n K g ((i, o) :: r) F h L Q := by
  cases t
  · exact h2 rfl
  · exact h1 rfl
theorem ybi {g : Rg} {i : Nat} {o : Oper} {r : List (Nat × Oper)} (hw : wantedF g.ops F o = some true) (hx : RX P n K g ((i, o) :: r) F h L Q) : RX P n K g ((i, o) :: r) F h L Q := hx
def QV (P : Program) (n : Nat) (F : List (Nat × Value)) (h : View) (L : List Res) (o : Oper) (v : Value) : Prop :=
  ∀ a w, Fr n F a → Hd h L w → (execOp a.eval o).run P w = .ok (.value v) w
theorem ybk {ops : Array Oper} {i : Nat} {dst : Option Nat} {op : Op} {ty : Nat} {pos : String} {af : Array Edge} {gd : Option (Nat × Bool)} {r : List (Nat × Oper)} {v : Value} (hq : QV P n F h L ⟨dst, op, ty, pos, af, gd⟩ v) (hw : wantedF ops F ⟨dst, op, ty, pos, af, gd⟩ = some true) (hd : okd n dst = true)
    (hx : RX P n K ⟨ops, fun _ => True, fun _ => true, fun _ => false⟩ r (putF dst v F) h L Q) : RX P n K ⟨ops, fun _ => True, fun _ => true, fun _ => false⟩ ((i, ⟨dst, op, ty, pos, af, gd⟩) :: r) F h L Q :=
  fun a w f s => .inr (.inr ⟨wantedF_ok f hw, rfl, .inl trivial, by
    unfold Oper.wp
    rw [hq a w f s.hd]
    exact ⟨.inl trivial, hx _ _ (f.put hd v) s⟩⟩)
theorem ybm {ops : Array Oper} {lo bar : Nat → Bool} {hS : View} {LS : List Res} {i : Nat} {dst : Option Nat} {op : Op} {ty : Nat} {pos : String} {af : Array Edge} {gd : Option (Nat × Bool)} {r : List (Nat × Oper)} {v : Value} (hq : QV P n F hS LS ⟨dst, op, ty, pos, af, gd⟩ v) (hw : wantedF ops F ⟨dst, op, ty, pos, af, gd⟩ = some true) (hd : okd n dst = true)
    (hh : ∀ w, Hd h L w → Hd hS LS w) (hx : RX P n K ⟨ops, Hd hS LS, lo, bar⟩ r (putF dst v F) h L Q) : RX P n K ⟨ops, Hd hS LS, lo, bar⟩ ((i, ⟨dst, op, ty, pos, af, gd⟩) :: r) F h L Q :=
  fun a w f s => .inr (.inl ⟨wantedF_ok f hw, hh w s.hd, v, fun w' hw' => hq a w' f hw', hx _ _ (f.put hd v) s⟩)
theorem ybn {ops : Array Oper} {lo bar : Nat → Bool} {S : World → Prop} {i : Nat} {dst : Option Nat} {op : Op} {ty : Nat} {pos : String} {af : Array Edge} {gd : Option (Nat × Bool)} {r : List (Nat × Oper)} {v : Value} (hq : QV P n F h L ⟨dst, op, ty, pos, af, gd⟩ v) (hw : wantedF ops F ⟨dst, op, ty, pos, af, gd⟩ = some true) (hd : okd n dst = true)
    (hl : lo i = true) (hh : (∀ w, Hd h L w → S w) ∨ bar i = true) (hx : RX P n K ⟨ops, S, lo, bar⟩ r (putF dst v F) h L Q) : RX P n K ⟨ops, S, lo, bar⟩ ((i, ⟨dst, op, ty, pos, af, gd⟩) :: r) F h L Q :=
  fun a w f s => .inr (.inr ⟨wantedF_ok f hw, hl, hh.imp (fun k => k w s.hd) id, by
    unfold Oper.wp
    rw [hq a w f s.hd]
    exact ⟨hh.imp (fun k => k w s.hd) id, hx _ _ (f.put hd v) s⟩⟩)
def WV (P : Program) (n : Nat) (K : Bs) (F : List (Nat × Value)) (h : View) (L : List Res) (o : Oper) (R : Value → World → Prop) : Prop :=
  ∀ a w, Fr n F a → St K h L w → ∃ v w', ((execOp a.eval o).run P w = .ok (.value v) w' ∨ (execOp a.eval o).run P w = .ok .skip w' ∧ v = undef) ∧ R v w'
def Owe (g : Rg) (i : Nat) (h : View) (L : List Res) : Prop := (∀ w, Hd h L w → g.S w) ∨ g.bar i = true
theorem ybf {ops : Array Oper} {i : Nat} : Owe ⟨ops, fun _ => True, fun _ => true, fun _ => false⟩ i h L := .inl fun _ _ => trivial
def MA (P : Program) (n : Nat) (F : List (Nat × Value)) (h : View) (L : List Res) (o : Oper) (v : Nat → Value) (ob : Obj) : Prop :=
  ∀ a w, Fr n F a → Hd h L w → (execOp a.eval o).run P w = .ok (.value (v w.heap.size)) (w.alloc ob)
theorem yba {g : Rg} {i : Nat} {dst : Option Nat} {op : Op} {ty : Nat} {pos : String} {af : Array Edge} {gd : Option (Nat × Bool)} {r : List (Nat × Oper)} {v : Nat → Value} {ob : Obj} (hq : MA P n F h L ⟨dst, op, ty, pos, af, gd⟩ v ob) (hw : wantedF g.ops F ⟨dst, op, ty, pos, af, gd⟩ = some true) (hd : okd n dst = true) (hl : g.lo i = true)
    (h1 : Owe g i h L) (h2 : ∀ b, Owe g i h (Res.blk b ob :: L)) (hx : ∀ b, RX P n K g r (putF dst (v b) F) h (Res.blk b ob :: L) Q) : RX P n K g ((i, ⟨dst, op, ty, pos, af, gd⟩) :: r) F h L Q :=
  fun a w f s => .inr (.inr ⟨wantedF_ok f hw, hl, h1.imp (fun k => k w s.hd) id, by
    unfold Oper.wp
    rw [hq a w f s.hd]
    have s' := s.alloc ob
    exact ⟨(h2 w.heap.size).imp (fun k => k _ s'.hd) id, hx _ _ _ (f.put hd _) s'⟩⟩)
theorem nble {a b : Nat} (h : Nat.ble a b = true) : a ≤ b := Nat.le_of_ble_eq_true h
def CallOf (P : Program) (n : Nat) (F : List (Nat × Value)) (o : Oper) (fn : FuncId) (args : Array Value) : Prop :=
  ∀ a w, Fr n F a → (execOp a.eval o).run P w = .ok (.enter fn args) w
theorem yco {g : Rg} {i : Nat} {dst : Option Nat} {op : Op} {ty : Nat} {pos : String} {af : Array Edge} {gd : Option (Nat × Bool)} {r : List (Nat × Oper)} {fn : FuncId} {args : Array Value} {X : Type} {v : X → Value} {hh : X → View} {LL : X → List Res} {p : X → Prop} (hc : CallOf P n F ⟨dst, op, ty, pos, af, gd⟩ fn args)
    (hsp : ∀ w, St ⟨w, h, []⟩ h [] w → Calls P fn args w fun e w' => ∃ x, e = .returned (v x) ∧ St ⟨w, h, []⟩ (hh x) (LL x) w' ∧ p x)
    (hw : wantedF g.ops F ⟨dst, op, ty, pos, af, gd⟩ = some true) (hd : okd n dst = true) (hl : g.lo i = true) (h1 : Owe g i h L) (h2 : ∀ x, p x → Le h (hh x) → Owe g i (hh x) (LL x ++ L))
    (hx : ∀ x, p x → Le h (hh x) → RX P n K g r (putF dst (v x) F) (hh x) (LL x ++ L) Q) : RX P n K g ((i, ⟨dst, op, ty, pos, af, gd⟩) :: r) F h L Q :=
  fun a w f s => .inr (.inr ⟨wantedF_ok f hw, hl, h1.imp (fun k => k w s.hd) id, by
    unfold Oper.wp
    rw [hc a w f]
    refine (hsp w (St.enter (Li := []) (Lr := L) s)).mono fun e w' he => ?_
    obtain ⟨x, rfl, st, px⟩ := he
    have s' := St.leave (Li := []) (Lr := L) s st
    have hle : Le h (hh x) := st.grow
    exact ⟨(h2 x px hle).imp (fun k => k _ s'.hd) id, hx x px hle _ _ (f.put hd _) s'⟩⟩)
theorem ycn {g : Rg} {i : Nat} {dst : Option Nat} {op : Op} {ty : Nat} {pos : String} {af : Array Edge} {gd : Option (Nat × Bool)} {r : List (Nat × Oper)} {fn : FuncId} {args : Array Value} {v : Value} (hc : CallOf P n F ⟨dst, op, ty, pos, af, gd⟩ fn args)
    (hsp : ∀ w, St ⟨w, h, []⟩ h [] w → Calls P fn args w fun e w' => e = .returned v ∧ St ⟨w, h, []⟩ h [] w')
    (hw : wantedF g.ops F ⟨dst, op, ty, pos, af, gd⟩ = some true) (hd : okd n dst = true) (hl : g.lo i = true) (h1 : Owe g i h L)
    (hx : RX P n K g r (putF dst v F) h L Q) : RX P n K g ((i, ⟨dst, op, ty, pos, af, gd⟩) :: r) F h L Q :=
  yco (X := Unit) (v := fun _ => v) (hh := fun _ => h) (LL := fun _ => []) (p := fun _ => True) hc (fun w s => (hsp w s).mono fun e w' ⟨he, st⟩ => ⟨(), he, st, trivial⟩) hw hd hl h1 (fun _ _ _ => h1) (fun _ _ _ => hx)
theorem rx_call_m {g : Rg} {i : Nat} {dst : Option Nat} {op : Op} {ty : Nat} {pos : String} {af : Array Edge} {gd : Option (Nat × Bool)} {r : List (Nat × Oper)} {fn : FuncId} {args : Array Value} {X : Type} {v : X → Value} {hh : X → View} {LL : X → List Res} {p : X → Prop} {R : Res} {Lr : List Res} (hc : CallOf P n F ⟨dst, op, ty, pos, af, gd⟩ fn args)
    (hp : L.Perm (R :: Lr))
    (hsp : ∀ w, St ⟨w, h, doms [R]⟩ h [R] w → Calls P fn args w fun e w' => ∃ x, e = .returned (v x) ∧ St ⟨w, h, doms [R]⟩ (hh x) (LL x) w' ∧ p x)
    (hw : wantedF g.ops F ⟨dst, op, ty, pos, af, gd⟩ = some true) (hd : okd n dst = true) (hl : g.lo i = true) (h1 : Owe g i h L) (h2 : ∀ x, p x → Le h (hh x) → Owe g i (hh x) (LL x ++ Lr))
    (hx : ∀ x, p x → Le h (hh x) → RX P n K g r (putF dst (v x) F) (hh x) (LL x ++ Lr) Q) : RX P n K g ((i, ⟨dst, op, ty, pos, af, gd⟩) :: r) F h L Q :=
  fun a w f s => .inr (.inr ⟨wantedF_ok f hw, hl, h1.imp (fun k => k w s.hd) id, by
    unfold Oper.wp
    rw [hc a w f]
    have s1 : St K h ([R] ++ Lr) w := s.perm hp
    refine (hsp w (St.enter (Li := [R]) (Lr := Lr) s1)).mono fun e w' he => ?_
    obtain ⟨x, rfl, st, px⟩ := he
    have s' := St.leave (Li := [R]) (Lr := Lr) s1 st
    have hle : Le h (hh x) := st.grow
    exact ⟨(h2 x px hle).imp (fun k => k _ s'.hd) id, hx x px hle _ _ (f.put hd _) s'⟩⟩)
def argsF : Nat → List Value → List (Nat × Value)
  | _, [] => []
  | k, v :: r => (k, v) :: argsF (k + 1) r
theorem lk_argsF : ∀ (l : List Value) (k s : Nat) (v : Value), lk (argsF k l) s = some v → k ≤ s ∧ l[s - k]? = some v
  | [], k, s, v, h => by cases h
  | u :: l, k, s, v, h => by
    simp only [argsF, lk] at h
    by_cases hks : k = s
    · subst hks
      simp at h
      simp [h]
    · have hb : Nat.beq k s = false := by
        cases hx : Nat.beq k s with
        | false => rfl
        | true => exact absurd (Nat.eq_of_beq_eq_true hx) hks
      simp only [hb, cond_false] at h
      obtain ⟨h1, h2⟩ := lk_argsF l (k + 1) s v h
      refine ⟨by omega, ?_⟩
      have : s - k = (s - (k + 1)) + 1 := by omega
      rw [this]; simpa using h2
theorem calls_enter {fn : FuncId} {fu : Func} {c : Code} {l : List Value} {w : World} {A : List Nat} {R : Ending → World → Prop} (hf : P.funcs[fn]? = some fu) (hb : fu.body = some c) (hn : fu.ntmps = n) (hl : Nat.ble l.length n = true)
    (s : St ⟨w, h, A⟩ h L w) (hx : CX P n ⟨w, h, A⟩ c (argsF 0 l) h L (bodyPost P fu R)) : Calls P fn l.toArray w R := by
  have hl : l.length ≤ n := by simpa using hl
  refine calls_of_wp hf hb (hx _ w ⟨?_, rfl, fun t v ht => ?_⟩ s)
  · simp [hn]; omega
  · obtain ⟨_, h2⟩ := lk_argsF l 0 t v ht
    have hlt : t < l.length := by
      have := (List.getElem?_eq_some_iff.1 h2).1
      simpa using this
    simp only [Nat.sub_zero] at h2
    rw [Array.getElem?_append_left (by simpa using hlt)]
    simpa using h2
def RV (P : Program) (F : List (Nat × Value)) (h : View) (L : List Res) : ResultVar → Value → Prop
  | .tmp t, v => lk F t = some v
  | .cell b t, v => ∃ ad, lk F b = some (.pointer (some ad)) ∧ ∀ w, Hd h L w → (loadVar t ad).run P w = .ok v w
def rsem (tmps : Array Value) : ResultVar → Sem Value
  | .tmp t => pure (tmps.getD t undef)
  | .cell b t => do loadVar t (← asAddr (tmps.getD b undef))
theorem RV.run {F : List (Nat × Value)} {h : View} {L : List Res} {x : ResultVar} {v : Value} {a : Act} {w : World} (hv : RV P F h L x v) (f : Fr n F a) (s : Hd h L w) : (rsem a.tmps x).run P w = .ok v w := by
  cases x with
  | tmp t =>
    have hv : lk F t = some v := hv
    simp [rsem, Array.getD_eq_getD_getElem?, f.get t v hv]
  | cell b t =>
    obtain ⟨ad, h1, h2⟩ := hv
    simp [rsem, Array.getD_eq_getD_getElem?, f.get b _ h1, asAddr, h2 w s]
theorem results_eq (fu : Func) (tmps : Array Value) : results fu tmps = (do
    let vs ← fu.results.mapM (rsem tmps)
    pure (if h : vs.size = 1 then vs[0] else .tuple vs)) := by
  unfold results
  congr 1
theorem nx_ret1 {fu : Func} {R : Ending → World → Prop} {x : ResultVar} {v : Value} (hr : fu.results = #[x]) (hv : RV P F h L x v) (hp : ∀ w, St K h L w → R (.returned v) w) : NX n K .ret F h L (bodyPost P fu R) :=
  fun a w f s => by
    refine ⟨f.dfs, v, ?_, hp w s⟩
    rw [results_eq, hr]
    simp [RV.run hv f s.hd]
theorem nx_end0 {fu : Func} {R : Ending → World → Prop} (hr : fu.results = #[]) (hp : ∀ w, St K h L w → R (.returned (.tuple #[])) w) : NX n K .normal F h L (bodyPost P fu R) :=
  fun a w f s => ⟨f.dfs, _, by simp [results, hr], hp w s⟩
theorem nx_ret2 {fu : Func} {R : Ending → World → Prop} {x y : ResultVar} {v u : Value} (hr : fu.results = #[x, y]) (hv : RV P F h L x v) (hu : RV P F h L y u) (hp : ∀ w, St K h L w → R (.returned (.tuple #[v, u])) w) : NX n K .ret F h L (bodyPost P fu R) :=
  fun a w f s => by
    refine ⟨f.dfs, _, ?_, hp w s⟩
    rw [results_eq, hr]
    simp [RV.run hv f s.hd, RV.run hu f s.hd]
theorem nx_ret3 {fu : Func} {R : Ending → World → Prop} {x y z : ResultVar} {v u t : Value} (hr : fu.results = #[x, y, z]) (hv : RV P F h L x v) (hu : RV P F h L y u) (ht : RV P F h L z t) (hp : ∀ w, St K h L w → R (.returned (.tuple #[v, u, t])) w) : NX n K .ret F h L (bodyPost P fu R) :=
  fun a w f s => by
    refine ⟨f.dfs, _, ?_, hp w s⟩
    rw [results_eq, hr]
    simp [RV.run hv f s.hd, RV.run hu f s.hd, RV.run ht f s.hd]
theorem ych {c : Code} (hx : CX P n K c F h L Q) : CX P n K c F h L Q := hx
theorem yci {e : Exit} (hx : NX n K e F h L Q) : NX n K e F h L Q := hx
theorem ycf {g : Rg} {prs : List (Nat × Oper)} (hx : RX P n K g prs F h L Q) : RX P n K g prs F h L Q := hx
theorem cx_bpersist {c : Code} {b : Nat} {o : Obj} (hA : K.A = []) (hx : h b = none → CX P n K c F (addV h b o) L Q) : CX P n K c F h (Res.blk b o :: L) Q := by
  intro a w f s
  exact hx (s.dis b (by rw [doms_cons]; exact List.mem_append_left _ (List.mem_singleton.2 rfl))) a w f (s.persist hA)
theorem rx_bpersist {g : Rg} {prs : List (Nat × Oper)} {b : Nat} {o : Obj} (hA : K.A = []) (hx : h b = none → RX P n K g prs F (addV h b o) L Q) : RX P n K g prs F h (Res.blk b o :: L) Q := by
  intro a w f s
  exact hx (s.dis b (by rw [doms_cons]; exact List.mem_append_left _ (List.mem_singleton.2 rfl))) a w f (s.persist hA)
theorem cx_perm {c : Code} {L' : List Res} (hp : L.Perm L') (hx : CX P n K c F h L' Q) : CX P n K c F h L Q := fun a w f s => hx a w f (s.perm hp)
theorem rx_perm {g : Rg} {prs : List (Nat × Oper)} {L' : List Res} (hp : L.Perm L') (hx : RX P n K g prs F h L' Q) : RX P n K g prs F h L Q := fun a w f s => hx a w f (s.perm hp)
theorem QV.mk {o : Oper} {v : Value} (hx : ∀ a w, Fr n F a → Hd h L w → (execOp a.eval o).run P w = .ok (.value v) w) : QV P n F h L o v := hx
theorem MA.mk {o : Oper} {v : Nat → Value} {ob : Obj} (hx : ∀ a w, Fr n F a → Hd h L w → (execOp a.eval o).run P w = .ok (.value (v w.heap.size)) (w.alloc ob)) : MA P n F h L o v ob := hx
theorem CallOf.mk {o : Oper} {fn : FuncId} {args : Array Value} (hx : ∀ a w, Fr n F a → (execOp a.eval o).run P w = .ok (.enter fn args) w) : CallOf P n F o fn args := hx
end
attribute [irreducible] CX NX RX QV MA WV CallOf
end Go.Ck
end

section
namespace Go.Ck
open Go
class TyU (P : Program) (T : Nat) (d : outParam TypeDesc) : Prop where
  u : P.underlying T = some d
class TyA (P : Program) (T : Nat) (b : outParam Bool) : Prop where
  a : ∀ w, (isAgg T).run P w = .ok b w
class TyS (P : Program) (T : Nat) (k : outParam Nat) : Prop where
  s : ∀ w, (sizeOf T).run P w = .ok k w
class TyZ (P : Program) (T : Nat) (z : outParam Value) : Prop where
  z : ∀ w, (zeroValue T).run P w = .ok z w
class TyF (P : Program) (T i : Nat) (off ft k : outParam Nat) : Prop where
  f : ∃ fs fl, P.underlying T = some (.struct fs) ∧ fs[i]? = some fl ∧ fl.offset = off ∧ fl.type = ft ∧ ∀ w, (sizeOf fl.type).run P w = .ok k w
class TyB (P : Program) (T : Nat) (z : outParam Value) (size bytes : outParam Nat) : Prop where
  b : (P.info? T).map (fun i => (i.zero, i.size, i.bytes)) = some (some z, size, bytes)
theorem TyB.ex {P : Program} {T : Nat} {z : Value} {size bytes : Nat} (t : TyB P T z size bytes) : ∃ i, P.info? T = some i ∧ i.zero = some z ∧ i.size = size ∧ i.bytes = bytes := by
  have := t.b
  cases hi : P.info? T with
  | none => rw [hi] at this; cases this
  | some i =>
    rw [hi] at this
    simp only [Option.map_some, Option.some.injEq, Prod.mk.injEq] at this
    exact ⟨i, rfl, this.1, this.2.1, this.2.2⟩
section
variable {P : Program} {n : Nat} {F : List (Nat × Value)} {h : View} {L : List Res}
variable {dst : Option Nat} {ty : Nat} {pos : String} {af : Array Edge} {gd : Option (Nat × Bool)}
def lget : List Value → Nat → Option Value
  | [], _ => none
  | x :: _, 0 => some x
  | _ :: r, k + 1 => lget r k
theorem lget_eq : ∀ (l : List Value) (k : Nat), lget l k = l[k]?
  | [], k => by simp [lget]
  | x :: l, 0 => by simp [lget]
  | x :: l, k + 1 => by simp [lget, lget_eq l k]
def CellAt (h : View) (L : List Res) (b o : Nat) (v : Value) : Prop := ∀ w, Hd h L w → w.cell? ⟨b, o, none⟩ = some v
def BlkAt (h : View) (L : List Res) (b : Nat) (ob : Obj) : Prop := ∀ w, Hd h L w → w.heap[b]? = some ob
theorem blk_own {k : Nat} {b : Nat} {ob : Obj} (hk : L[k]? = some (Res.blk b ob)) : BlkAt h L b ob := fun w s => s.own _ (List.mem_of_getElem? hk)
theorem blk_view {b : Nat} {ob : Obj} (hb : h b = some ob) : BlkAt h L b ob := fun w s => s.view b ob hb
theorem cell_blk {b o : Nat} {cs : Array Value} {e : TypeId} {fz : Nat × Nat} {v : Value} (hb : BlkAt h L b (.cells cs e fz)) (hv : cs[o]? = some v) : CellAt h L b o v := fun w s => by
  simp [World.cell?, hb w s, hv]
theorem yay {b o : Nat} {cs : Array Value} {e : TypeId} {fz : Nat × Nat} {v : Value} (k : Nat) (hk : L[k]? = some (Res.blk b (.cells cs e fz))) (hv : lget cs.toList o = some v) : CellAt h L b o v := cell_blk (blk_own hk) (by rw [lget_eq] at hv; simpa using hv)
theorem cell_view {b o : Nat} {cs : Array Value} {e : TypeId} {fz : Nat × Nat} {v : Value} (hb : h b = some (.cells cs e fz)) (hv : lget cs.toList o = some v) : CellAt h L b o v := cell_blk (blk_view hb) (by rw [lget_eq] at hv; simpa using hv)
theorem yaa {x : Operand} {v : Value} (hx : ev F x = some v) : QV P n F h L ⟨dst, .move x, ty, pos, af, gd⟩ v := .mk fun a w f s => by
  simp [execOp, f.ev hx]
theorem yab {x : Operand} {v : Value} (hx : ev F x = some v) : QV P n F h L ⟨dst, .assign x, ty, pos, af, gd⟩ v := .mk fun a w f s => by
  simp [execOp, f.ev hx]
theorem yaf {c x y : Operand} {v : Value} (hc : ev F c = some (.bool true)) (hx : ev F x = some v) : QV P n F h L ⟨dst, .pick c x y, ty, pos, af, gd⟩ v := .mk fun a w f s => by
  simp [execOp, f.ev hc, f.ev hx, asBool]
theorem yag {c x y : Operand} {v : Value} (hc : ev F c = some (.bool false)) (hy : ev F y = some v) : QV P n F h L ⟨dst, .pick c x y, ty, pos, af, gd⟩ v := .mk fun a w f s => by
  simp [execOp, f.ev hc, f.ev hy, asBool]
theorem yae {T : Nat} {x : Operand} {b o : Nat} {v : Value} [ta : TyA P T false] (hx : ev F x = some (.pointer (some ⟨b, o, none⟩))) (hc : CellAt h L b o v) : QV P n F h L ⟨dst, .load T x, ty, pos, af, gd⟩ v := .mk fun a w f s => by
  simp [execOp, f.ev hx, Instr.loadAt, Instr.sureAddr, loadVar, ta.a, load, Sem.run, hc w s]
theorem rv_tmp {s : Nat} {v : Value} (hx : lk F s = some v) : RV P F h L (.tmp s) v := hx
theorem yat {x : Operand} {ad : Addr} (hx : ev F x = some (.pointer (some ad))) : QV P n F h L ⟨dst, .nilCheck x, ty, pos, af, gd⟩ (.pointer (some ad)) := .mk fun a w f s => by
  simp [execOp, f.ev hx]
theorem Addr.add_off (b o k : Nat) : (⟨b, o, none⟩ : Addr).add k = ⟨b, o + k, none⟩ := by
  unfold Addr.add; split <;> simp_all
theorem yac {T i : Nat} {x : Operand} {b o off ft k : Nat} [tf : TyF P T i off ft k] (hx : ev F x = some (.pointer (some ⟨b, o, none⟩))) (hk : Nat.beq k 0 = false) :
    QV P n F h L ⟨dst, .fieldAddr T x i, ty, pos, af, gd⟩ (.pointer (some ⟨b, o + off, none⟩)) := .mk fun a w f s => by
  have hk : k ≠ 0 := fun e => by subst e; simp at hk
  obtain ⟨fs, fl, h1, h2, rfl, rfl, h3⟩ := tf.f
  simp [execOp, f.ev hx, Instr.fieldAt, run_underlying h1, h2, Instr.sureAddr, fieldPlace, h3, hk, Addr.add_off]
theorem yas {x : Operand} {i : Nat} {vs : Array Value} {v : Value} (hx : ev F x = some (.tuple vs)) (hi : vs[i]? = some v) : QV P n F h L ⟨dst, .extract x i, ty, pos, af, gd⟩ v := .mk fun a w f s => by
  simp [execOp, f.ev hx, Instr.extract, hi]
theorem yav {T : Nat} {x y : Operand} {b o len cap : Nat} {ki : IntKind} {i : Int} {e k : Nat} [tu : TyU P T (.slice e)] [ts : TyS P e k] (hx : ev F x = some (.slice (some ⟨b, o, none⟩) len cap)) (hy : ev F y = some (.int ki i))
    (h0 : 0 ≤ i) (h1 : i < len) : QV P n F h L ⟨dst, .indexAddr T x y, ty, pos, af, gd⟩ (.pointer (some ⟨b, o + i.toNat * k, none⟩)) := .mk fun a w f s => by
  simp [execOp, f.ev hx, f.ev hy, Instr.indexAt, asIntOf, run_underlying tu.u, h0, h1, ts.s, Addr.add_off]
theorem yaw {T : Nat} {x y : Operand} {b o len : Nat} {ki : IntKind} {i : Int} {e k : Nat} [tu : TyU P T (.array len e)] [ts : TyS P e k] (hx : ev F x = some (.pointer (some ⟨b, o, none⟩))) (hy : ev F y = some (.int ki i))
    (h0 : 0 ≤ i) (h1 : i < len) : QV P n F h L ⟨dst, .indexAddr T x y, ty, pos, af, gd⟩ (.pointer (some ⟨b, o + i.toNat * k, none⟩)) := .mk fun a w f s => by
  simp [execOp, f.ev hx, f.ev hy, Instr.indexAt, Instr.sureAddr, asIntOf, run_underlying tu.u, h0, h1, ts.s, Addr.add_off]
theorem qv_index {T : Nat} {x y : Operand} {cs : Array Value} {len : Nat} {ki : IntKind} {i : Int} {e k : Nat} {v : Value} [tu : TyU P T (.array len e)] [ta : TyA P e false] [ts : TyS P e k] (hx : ev F x = some (.agg cs)) (hy : ev F y = some (.int ki i))
    (h0 : 0 ≤ i) (h1 : i < len) (hv : cs[i.toNat * k]? = some v) : QV P n F h L ⟨dst, .index T x y, ty, pos, af, gd⟩ v := .mk fun a w f s => by
  simp [execOp, f.ev hx, f.ev hy, Instr.index, asIntOf, run_underlying tu.u, h0, h1, ts.s, part, ta.a, hv]
theorem qv_index_str {T : Nat} {x y : Operand} {s : ByteArray} {ki : IntKind} {i : Int} {v : UInt8} [tu : TyU P T .string] (hx : ev F x = some (.string s)) (hy : ev F y = some (.int ki i))
    (h0 : 0 ≤ i) (hv : s[i.toNat]? = some v) : QV P n F h L ⟨dst, .index T x y, ty, pos, af, gd⟩ (.int .u8 v.toNat) := .mk fun a w f _ => by
  simp [execOp, f.ev hx, f.ev hy, Instr.index, asIntOf, run_underlying tu.u, h0, hv]
theorem yaq {T : Nat} {x : Operand} {ad : Option Addr} {len cap e : Nat} [tu : TyU P T (.slice e)] (hx : ev F x = some (.slice ad len cap)) :
    QV P n F h L ⟨dst, .call ⟨.builtin .len, #[x], #[T]⟩, ty, pos, af, gd⟩ (.int .i64 len) := .mk fun a w f s => by
  simp [execOp, resolve, invoke, builtin, Builtin.len_, run_underlying tu.u, f.ev hx, goInt]
theorem yar {T : Nat} {x : Operand} {s : ByteArray} [tu : TyU P T .string] (hx : ev F x = some (.string s)) :
    QV P n F h L ⟨dst, .call ⟨.builtin .len, #[x], #[T]⟩, ty, pos, af, gd⟩ (.int .i64 s.size) := .mk fun a w f _ => by
  simp [execOp, resolve, invoke, builtin, Builtin.len_, run_underlying tu.u, f.ev hx, goInt]
theorem yap {T : Nat} {x : Operand} {t : Bool} (hx : ev F x = some (.bool t)) : QV P n F h L ⟨dst, .unOp .not T x, ty, pos, af, gd⟩ (.bool !t) := .mk fun a w f s => by
  simp [execOp, f.ev hx, Op.unary]
section
variable {T T' : Nat} {x y : Operand} {k : IntKind} {i j : Int}
theorem run_guard_int {op : BinOp} {w : World} : (eqGuard op T x y (.int k i) (.int k j)).run P w = .ok () w := by
  unfold eqGuard
  by_cases hop : op = .eql ∨ op = .neq
  · rcases hop with rfl | rfl <;> simp
  · have : (!(op matches .eql | .neq)) = true := by cases op<;>first|rfl | exact absurd (Or.inl rfl) hop | exact absurd (Or.inr rfl) hop
    simp [this]
theorem yah (hx : ev F x = some (.int k i)) (hy : ev F y = some (.int k j)) : QV P n F h L ⟨dst, .binOp .lss T x y T', ty, pos, af, gd⟩ (.bool (decide (i < j))) := .mk fun a w f s => by
  simp [execOp, f.ev hx, f.ev hy, run_guard_int, binOp, Op.intCmp]
theorem yai (hx : ev F x = some (.int k i)) (hy : ev F y = some (.int k j)) : QV P n F h L ⟨dst, .binOp .leq T x y T', ty, pos, af, gd⟩ (.bool (decide (i ≤ j))) := .mk fun a w f s => by
  simp [execOp, f.ev hx, f.ev hy, run_guard_int, binOp, Op.intCmp]
theorem yaj (hx : ev F x = some (.int k i)) (hy : ev F y = some (.int k j)) : QV P n F h L ⟨dst, .binOp .gtr T x y T', ty, pos, af, gd⟩ (.bool (decide (j < i))) := .mk fun a w f s => by
  simp [execOp, f.ev hx, f.ev hy, run_guard_int, binOp, Op.intCmp]
theorem yak (hx : ev F x = some (.int k i)) (hy : ev F y = some (.int k j)) : QV P n F h L ⟨dst, .binOp .geq T x y T', ty, pos, af, gd⟩ (.bool (decide (j ≤ i))) := .mk fun a w f s => by
  simp [execOp, f.ev hx, f.ev hy, run_guard_int, binOp, Op.intCmp]
theorem yal (hx : ev F x = some (.int k i)) (hy : ev F y = some (.int k j)) : QV P n F h L ⟨dst, .binOp .eql T x y T', ty, pos, af, gd⟩ (.bool (decide (i = j))) := .mk fun a w f s => by
  simp [execOp, f.ev hx, f.ev hy, run_guard_int, binOp, Op.intCmp]
  exact (by rw [Bool.eq_iff_iff]; simp : (i == j) = decide (i = j))
theorem yam (hx : ev F x = some (.int k i)) (hy : ev F y = some (.int k j)) : QV P n F h L ⟨dst, .binOp .neq T x y T', ty, pos, af, gd⟩ (.bool (decide (i ≠ j))) := .mk fun a w f s => by
  have hb : (i != j) = decide (i ≠ j) := by rw [Bool.eq_iff_iff]; simp
  simp [execOp, f.ev hx, f.ev hy, run_guard_int, binOp, Op.intCmp, hb]
theorem qv_add_w (hx : ev F x = some (.int k i)) (hy : ev F y = some (.int k j)) : QV P n F h L ⟨dst, .binOp .add T x y T', ty, pos, af, gd⟩ (.int k (k.wrap (i + j))) := .mk fun a w f s => by
  simp [execOp, f.ev hx, f.ev hy, run_guard_int, binOp, Op.intArith]
theorem qv_sub_w (hx : ev F x = some (.int k i)) (hy : ev F y = some (.int k j)) : QV P n F h L ⟨dst, .binOp .sub T x y T', ty, pos, af, gd⟩ (.int k (k.wrap (i - j))) := .mk fun a w f s => by
  simp [execOp, f.ev hx, f.ev hy, run_guard_int, binOp, Op.intArith]
theorem qv_mul_w (hx : ev F x = some (.int k i)) (hy : ev F y = some (.int k j)) : QV P n F h L ⟨dst, .binOp .mul T x y T', ty, pos, af, gd⟩ (.int k (k.wrap (i * j))) := .mk fun a w f s => by
  simp [execOp, f.ev hx, f.ev hy, run_guard_int, binOp, Op.intArith]
end
def I64 (i : Int) : Prop := -9223372036854775808 ≤ i ∧ i ≤ 9223372036854775807
theorem wrap_i64 {i : Int} (hi : I64 i) : IntKind.i64.wrap i = i := IntWalk.i64_in _ hi
section
variable {T T' : Nat} {x y : Operand} {i j : Int}
theorem yan (hx : ev F x = some (.int .i64 i)) (hy : ev F y = some (.int .i64 j)) (hr : I64 (i + j)) : QV P n F h L ⟨dst, .binOp .add T x y T', ty, pos, af, gd⟩ (.int .i64 (i + j)) := by
  have := qv_add_w (P := P) (n := n) (h := h) (L := L) (dst := dst) (ty := ty) (pos := pos) (af := af) (gd := gd) (T := T) (T' := T') hx hy
  rwa [wrap_i64 hr] at this
theorem yao (hx : ev F x = some (.int .i64 i)) (hy : ev F y = some (.int .i64 j)) (hr : I64 (i - j)) : QV P n F h L ⟨dst, .binOp .sub T x y T', ty, pos, af, gd⟩ (.int .i64 (i - j)) := by
  have := qv_sub_w (P := P) (n := n) (h := h) (L := L) (dst := dst) (ty := ty) (pos := pos) (af := af) (gd := gd) (T := T) (T' := T') hx hy
  rwa [wrap_i64 hr] at this
theorem qv_mul (hx : ev F x = some (.int .i64 i)) (hy : ev F y = some (.int .i64 j)) (hr : I64 (i * j)) : QV P n F h L ⟨dst, .binOp .mul T x y T', ty, pos, af, gd⟩ (.int .i64 (i * j)) := by
  have := qv_mul_w (P := P) (n := n) (h := h) (L := L) (dst := dst) (ty := ty) (pos := pos) (af := af) (gd := gd) (T := T) (T' := T') hx hy
  rwa [wrap_i64 hr] at this
end
theorem ybb {T : Nat} {x : Operand} {v : Value} (hx : ev F x = some v) : MA P n F h L ⟨dst, .box T x, ty, pos, af, gd⟩ (fun b => .pointer (some ⟨b, 0, none⟩)) (.cells v.cells T) := .mk fun a w f s => by
  simp [execOp, f.ev hx, Instr.box, newVar, newRow, newObj, Sem.run]
theorem ybc {T : Nat} {z : Value} [tz : TyZ P T z] : MA P n F h L ⟨dst, .alloc T, ty, pos, af, gd⟩ (fun b => .pointer (some ⟨b, 0, none⟩)) (.cells z.cells T) := .mk fun a w f s => by
  simp [execOp, Instr.alloc, tz.z, newVar, newRow, newObj, Sem.run]
def evs (F : List (Nat × Value)) : List Operand → Option (List Value)
  | [] => some []
  | x :: r => match ev F x, evs F r with
    | some v, some vs => some (v :: vs)
    | _, _ => none
theorem evs_ok {a : Act} (f : Fr n F a) : ∀ (l : List Operand) (vs : List Value), evs F l = some vs → l.map a.eval = vs
  | [], vs, hp => by simp [evs] at hp; subst hp; rfl
  | x :: r, vs, hp => by
    simp only [evs] at hp
    split at hp
    · rename_i v vs' h1 h2
      cases hp
      simp [f.ev h1, evs_ok f r vs' h2]
    · cases hp
theorem ycp {fn : FuncId} {fu : Func} {c : Code} {xs : Array Operand} {ts : Array TypeId} {args : List Value} (hf : P.funcs[fn]? = some fu) (hb : fu.body = some c) (hnm : (fu.name == "runtime.NumGoroutine") = false) (hx : evs F xs.toList = some args) :
    CallOf P n F ⟨dst, .call ⟨.value (.func fn), xs, ts⟩, ty, pos, af, gd⟩ fn args.toArray := .mk fun a w f => by
  have hargs : xs.map a.eval = args.toArray := by
    apply Array.ext'
    rw [Array.toList_map]
    exact evs_ok f _ _ hx
  have hnm' : ¬ fu.name = "runtime.NumGoroutine" := by simpa using hnm
  simp [execOp, resolve, Act.eval, Deferred.ofValue, hargs, invoke, callFunc, program, Sem.run, hf, hnm', hb]
end
attribute [irreducible] CellAt BlkAt
end Go.Ck
end

section
namespace Go.Ck
open Go
section
variable {P : Program} {n : Nat} {K : Bs} {F : List (Nat × Value)} {h : View} {L : List Res} {Q : Exit → Act → World → Prop}
variable {dst : Option Nat} {ty : Nat} {pos : String} {af : Array Edge} {gd : Option (Nat × Bool)}
theorem Owe.out {g : Rg} {i : Nat} (o : Owe g i h L) {w : World} (s : St K h L w) : g.S w ∨ g.bar i = true := o.imp (fun k => k w s.hd) id
def spl (cs : List Value) (o : Nat) (vs : List Value) : List Value := cs.take o ++ vs ++ cs.drop (o + vs.length)
theorem ybh {z vs : List Value} (hl : vs.length = z.length) : spl z 0 vs = vs := by simp [spl, hl]
theorem ybg {g : Rg} {i : Nat} {r : List (Nat × Oper)} {T : Nat} {x y : Operand} {b o sz : Nat} {v : Value} {cs : Array Value} {e : TypeId} (k : Nat) [ts : TyS P T sz] (hx : ev F x = some (.pointer (some ⟨b, o, none⟩))) (hy : ev F y = some v)
    (hk : L[k]? = some (Res.blk b (.cells cs e (0, 0)))) (hsz : v.cells.size = sz) (hfit : o + v.cells.size ≤ cs.size) (h1 : v.cells.toList.all Value.oneCell' = true) {cs' : List Value} (hcs : spl cs.toList o v.cells.toList = cs')
    (hw : wantedF g.ops F ⟨none, .store T x y, ty, pos, af, gd⟩ = some true) (hl : g.lo i = true) (o1 : Owe g i h L) (o2 : Owe g i h (L.set k (Res.blk b (.cells cs'.toArray e (0, 0)))))
    (hn : RX P n K g r F h (L.set k (Res.blk b (.cells cs'.toArray e (0, 0)))) Q) : RX P n K g ((i, ⟨none, .store T x y, ty, pos, af, gd⟩) :: r) F h L Q := by
  unfold RX at *
  intro a w f s
  subst hcs
  have h1 : ∀ u ∈ v.cells.toList, u.oneCell' = true := fun u hu => List.all_eq_true.1 h1 u hu
  have hb : w.heap[b]? = some (.cells cs e (0, 0)) := s.hd.own _ (List.mem_of_getElem? hk)
  have hrun : (execOp a.eval ⟨none, .store T x y, ty, pos, af, gd⟩).run P w = .ok .skip (w.setRow b (spl cs.toList o v.cells.toList).toArray) := by
    have hst := run_storeCells_at P b o e v.cells.toList 0 cs w hb (by simpa using hfit) h1
    simp only [Nat.add_zero] at hst
    simp [execOp, f.ev hx, f.ev hy, Instr.storeAt, Instr.sureAddr, storeVar, ts.s, hsz, hst, spl]
  have s' : St K h (L.set k (Res.blk b (.cells (spl cs.toList o v.cells.toList).toArray e (0, 0)))) (w.setRow b (spl cs.toList o v.cells.toList).toArray) :=
    s.writeAt hk rfl rfl rfl (by simp) (by simp) (fun j hj => setRow_other w b j _ hj) (setRow_heap w b cs _ e _ hb)
  refine .inr (.inr ⟨wantedF_ok f hw, hl, o1.out s, ?_⟩)
  unfold Oper.wp
  rw [hrun]
  exact ⟨o2.out s', hn _ _ f s'⟩
def Res.row (e : TypeId) (k : Nat) (v : Value) (n : Nat) (xs : List Value) : Res where
  dom := v.ownBlock.toList
  sat := fun w => w.ownsRow 0 e k v n xs
  loc := fun w w' hh hs => by
    refine ⟨hs.1, ?_⟩
    rcases hs.2 with hn | ⟨g, cap, cur, rfl, hb, hgg, rest⟩
    · exact .inl hn
    · exact .inr ⟨g, cap, cur, rfl, hb, by rw [hh g (by simp [Value.ownBlock])]; exact hgg, rest⟩
  lt := fun w hs b hb => by
    have hb : v.ownBlock = some b := by simpa using hb
    exact (hs.lt b hb).2
theorem St.rowNil {w : World} (s : St K h L w) (e : TypeId) (k : Nat) : St K h (Res.row e k (.slice none 0 0) 0 [] :: L) w := by
  have hd : doms (Res.row e k (.slice none 0 0) 0 [] :: L) = doms L := by simp [doms_cons, Res.row, Value.ownBlock]
  exact ⟨s.os, s.tape, s.output, s.drawn, s.size, s.keep, ⟨s.hd.view, fun r hr => by
    rcases List.mem_cons.1 hr with rfl | hr
    · exact World.ownsRow_nil w 0 e k
    · exact s.hd.own r hr⟩, by rw [hd]; exact s.nd, fun b hb => s.src b (by rw [← hd]; exact hb), s.grow, s.new, fun b hb => s.dis b (by rw [← hd]; exact hb)⟩
theorem cx_row {c : Code} (e : TypeId) (k : Nat) (hx : CX P n K c F h (Res.row e k (.slice none 0 0) 0 [] :: L) Q) : CX P n K c F h L Q := by
  unfold CX at *
  exact fun a w f s => hx a w f (s.rowNil e k)
theorem St.swap {R R' : Res} {k : Nat} {w w' : World} (s : St K h L w) (hk : L[k]? = some R) (h1 : w'.os = w.os) (h2 : w'.tape = w.tape) (h3 : w'.output = w.output) (hdr : w.drawn ≤ w'.drawn) (h4 : w.heap.size ≤ w'.heap.size)
    (h5 : ∀ j, j < w.heap.size → j ∉ R.dom → w'.heap[j]? = w.heap[j]?) (h6 : R'.sat w') (h7 : R'.dom.Nodup) (h8 : ∀ b ∈ R'.dom, b ∈ R.dom ∨ w.heap.size ≤ b) : St K h (L.set k R') w' := by
  have s1 : St K h ([R] ++ L.eraseIdx k) w := s.perm (perm_at hk)
  have e1 : doms [R] = R.dom := by simp [doms]
  have e2 : doms [R'] = R'.dom := by simp [doms]
  have t : St ⟨w, h, doms [R]⟩ h [R'] w' := by
    refine ⟨h1, h2, h3, hdr, h4, fun j hj hjA => h5 j hj (by rw [e1] at hjA; exact hjA), ⟨fun x ob hx => ?_, fun r hr => ?_⟩, by rw [e2]; exact h7, fun b hb => by rw [e2] at hb; rw [e1]; exact h8 b hb, Le.refl h, fun _ _ hx => hx, fun b hb => ?_⟩
    · have hv := s.hd.view x ob hx
      rw [h5 x (Array.getElem?_eq_some_iff.1 hv).1 (fun hm => ?_)]
      · exact hv
      · have := s1.dis x (by rw [doms_append, e1]; exact List.mem_append_left _ hm)
        rw [this] at hx; cases hx
    · have : r = R' := by simpa using hr
      subst this; exact h6
    · rw [e2] at hb
      rcases h8 b hb with hb | hb
      · exact s1.dis b (by rw [doms_append, e1]; exact List.mem_append_left _ hb)
      · cases hx : h b with
        | none => rfl
        | some ob =>
          have hv := s.hd.view b ob hx
          have := (Array.getElem?_eq_some_iff.1 hv).1
          omega
  exact (St.leave (Li := [R]) (Lo := [R']) s1 t).perm (perm_set hk)
theorem run_append_ck {w : World} (t ty' e : TypeId) {z : Value} {size bytes : Nat} (ht : P.underlying t = some (.slice e)) (tb : TyB P e z size bytes) (hzs : z.cells.size = size) (hsz : 0 < size)
    (v : Value) (m0 : Nat) (xs : List Value) (hown : w.ownsRow 0 e size v m0 xs)
    (ad : Addr) (m c : Nat) (news : List Value) (hl : news.length = m * size) (hnews : ∀ j u, news[j]? = some u → w.cell? (ad.add j) = some u) (h1 : ∀ u ∈ news, u.oneCell' = true)
    (h63 : m0 + m ≤ maxLen) (hbytes : (m0 + m) * bytes ≤ 140737488355328) :
    ∃ v' w', (Builtin.append_ #[t, t] ty' #[v, .slice (some ad) m c]).run P w = .ok v' w' ∧ w'.ownsRow 0 e size v' (m0 + m) (xs ++ news) ∧ w.grownBy w' v.ownBlock ∧
      (v' = .slice none 0 0 ↔ v = .slice none 0 0 ∧ m = 0) ∧ w.drawn ≤ w'.drawn ∧ (v'.ownBlock = v.ownBlock ∨ ∃ b, v'.ownBlock = some b ∧ w.heap.size ≤ b) := by
  obtain ⟨i, hi, hz, hsize, hby⟩ := tb.ex
  subst hsize
  subst hby
  have hsmall : m0 + m ≤ 9223372036854775807 := by simp only [maxLen] at h63; omega
  have hlen : (xs ++ news).length = (m0 + m) * i.size := by rw [List.length_append, hown.1, hl, Nat.add_mul]
  have grown : ∀ (old : Nat), old < m0 + m → ∀ (row : Option Nat),
      (w.drew.alloc (.cells (xs.toArray ++ news.toArray ++ Builtin.zeroCells z.cells (grownCap w (m0 + m) old e - (m0 + m))) e)).ownsRow 0 e i.size
        (.slice (some ⟨w.heap.size, 0, none⟩) (m0 + m) (grownCap w (m0 + m) old e)) (m0 + m) (xs ++ news) ∧
      w.grownBy (w.drew.alloc (.cells (xs.toArray ++ news.toArray ++ Builtin.zeroCells z.cells (grownCap w (m0 + m) old e - (m0 + m))) e)) row := by
    intro old ho row
    have hge := grownCap_ge w (m0 + m) old e
    have hcm : grownCap w (m0 + m) old e ≤ maxLen := grownCap_le_maxLen w (m0 + m) old e h63
    refine ⟨⟨hlen, .inr ⟨w.heap.size, _, _, rfl, Nat.zero_le _, heap_alloc_new w.drew _, hge, hcm, ?_, ?_⟩⟩, ⟨rfl, rfl, rfl, by simp, fun k hk _ => Go.RowKit.Below.heap_alloc w.drew _ k hk⟩⟩
    · simp only [Array.size_append, List.size_toArray, size_zeroCells, hzs, hown.1, hl, ← Nat.add_mul]
      congr 1
      omega
    · simp only [Array.toList_append, List.append_assoc]
      rw [← List.append_assoc, ← hlen]
      exact List.take_left
  rcases hown.2 with ⟨rfl, rfl⟩ | ⟨g, cap, cur, rfl, hbg, hg, hnc, hcm, hcs, htake⟩
  · have hx : xs = [] := List.eq_nil_of_length_eq_zero (by simpa using hown.1)
    subst hx
    by_cases hm : m = 0
    · subst hm
      have hn : news = [] := List.eq_nil_of_length_eq_zero (by simpa using hl)
      subst hn
      refine ⟨.slice none 0 0, w, ?_, World.ownsRow_nil w 0 e i.size, ⟨rfl, rfl, rfl, Nat.le_refl _, fun _ _ _ => rfl⟩, by simp, Nat.le_refl _, .inl rfl⟩
      simp [Builtin.append_, run_underlying ht, sizeOf, typeInfo, hi, Builtin.lenOf, Builtin.firstCells, loadCells, loadCellsFrom]
    · have hr := run_append_nil (P := P) w t ty' e i z ht hi hz ad m c news hl hnews (by omega) (by omega) (by have hb := hbytes; simp only [Nat.zero_add] at hb; omega)
      have hgr := grown 0 (by omega) (Value.ownBlock (.slice none 0 0))
      simp only [Nat.zero_add, List.nil_append, Array.empty_append] at hgr ⊢
      exact ⟨_, _, hr, hgr.1, hgr.2, by simp [hm], Nat.le_succ _, .inr ⟨_, rfl, Nat.le_refl _⟩⟩
  · by_cases hroom : m0 + m ≤ cap
    · have hfit : m0 * i.size + news.length ≤ cur.size := by rw [hl, hcs, ← Nat.add_mul]; exact Nat.mul_le_mul_right _ hroom
      have hr := run_append_room (P := P) w t ty' e i ht hi g m0 cap cur hg ad m c news hl hnews h1 hroom hfit
      refine ⟨_, _, hr, ⟨hlen, .inr ⟨g, cap, _, rfl, hbg, setRow_heap w g cur _ e _ hg, hroom, hcm, ?_, ?_⟩⟩, ⟨rfl, rfl, rfl, by simp, fun k _ hk => setRow_other w g k _ (fun e => hk (by simp [Value.ownBlock, e]))⟩, by simp, by simp, .inl rfl⟩
      · simp only [List.size_toArray, List.length_append, List.length_take, List.length_drop, Array.length_toList]
        omega
      · rw [htake, ← hlen]
        exact List.take_left
    · have holds : ∀ j u, xs[j]? = some u → w.cell? ((⟨g, 0, none⟩ : Addr).add j) = some u := hown.cells (g := g) rfl
      have hr := run_append_grow (P := P) w t ty' e i z ht hi hz ⟨g, 0, none⟩ m0 cap xs hown.1 holds ad m c news hl hnews (by omega) (by omega) (growslice_fits (by omega) hbytes)
      have hgr := grown cap (by omega) (Value.ownBlock (.slice (some ⟨g, 0, none⟩) m0 cap))
      exact ⟨_, _, hr, hgr.1, hgr.2, by simp, Nat.le_succ _, .inr ⟨_, rfl, Nat.le_refl _⟩⟩
def Cells (h : View) (L : List Res) (ad : Addr) (vs : List Value) : Prop := ∀ w, Hd h L w → ∀ j u, vs[j]? = some u → w.cell? (ad.add j) = some u
theorem yaz {b : Nat} {cs : Array Value} {e : TypeId} {fz : Nat × Nat} (k : Nat) (hk : L[k]? = some (Res.blk b (.cells cs e fz))) : Cells h L ⟨b, 0, none⟩ cs.toList := fun w s j u hj => by
  have := s.own _ (List.mem_of_getElem? hk)
  have hb : w.heap[b]? = some (.cells cs e fz) := this
  rw [Addr.add_off]
  simp only [Array.getElem?_toList] at hj
  simp [World.cell?, hb, hj]
theorem rx_append {g : Rg} {i : Nat} {r : List (Nat × Oper)} {T e : Nat} {x y : Operand} {z v : Value} {sz by' m0 m c : Nat} {ad : Addr} {xs news : List Value} (k : Nat) [tu : TyU P T (.slice e)] [tb : TyB P e z sz by'] (hx : ev F x = some v) (hy : ev F y = some (.slice (some ad) m c))
    (hk : L[k]? = some (Res.row e sz v m0 xs)) (hnews : Cells h L ad news) (hl : news.length = m * sz) (h1 : ∀ u ∈ news, u.oneCell' = true) (hzs : z.cells.size = sz) (hsz : 0 < sz) (h63 : m0 + m ≤ maxLen) (hbytes : (m0 + m) * by' ≤ 140737488355328)
    (hw : wantedF g.ops F ⟨dst, .call ⟨.builtin .append, #[x, y], #[T, T]⟩, ty, pos, af, gd⟩ = some true) (hd : okd n dst = true) (hlo : g.lo i = true) (o1 : Owe g i h L)
    (o2 : ∀ v', Owe g i h (L.set k (Res.row e sz v' (m0 + m) (xs ++ news))))
    (hn : ∀ v', (v' = .slice none 0 0 ↔ v = .slice none 0 0 ∧ m = 0) → RX P n K g r (putF dst v' F) h (L.set k (Res.row e sz v' (m0 + m) (xs ++ news))) Q) :
    RX P n K g ((i, ⟨dst, .call ⟨.builtin .append, #[x, y], #[T, T]⟩, ty, pos, af, gd⟩) :: r) F h L Q := by
  unfold RX at *
  intro a w f s
  have hown : w.ownsRow 0 e sz v m0 xs := s.hd.own _ (List.mem_of_getElem? hk)
  obtain ⟨v', w', hrun, how', hgr, hnil, hdr, hblk⟩ := run_append_ck (P := P) T ty e tu.u tb hzs hsz v m0 xs hown ad m c news hl (hnews w s.hd) h1 h63 hbytes
  have s' : St K h (L.set k (Res.row e sz v' (m0 + m) (xs ++ news))) w' := by
    refine s.swap hk hgr.os hgr.tape hgr.output hdr hgr.size (fun j hj hjd => hgr.block j hj (fun hh => hjd ?_)) how' ?_ (fun b hb => ?_)
    · show j ∈ v.ownBlock.toList
      rw [← hh]; simp
    · show v'.ownBlock.toList.Nodup
      cases v'.ownBlock <;> simp
    · have hb : v'.ownBlock = some b := by simpa [Res.row] using hb
      rcases hblk with hh | ⟨b', hh, hge⟩
      · refine .inl ?_
        show b ∈ v.ownBlock.toList
        rw [← hh, hb]; simp
      · rw [hb] at hh; cases hh; exact .inr hge
  refine .inr (.inr ⟨wantedF_ok f hw, hlo, o1.out s, ?_⟩)
  unfold Oper.wp
  have : (execOp a.eval ⟨dst, .call ⟨.builtin .append, #[x, y], #[T, T]⟩, ty, pos, af, gd⟩).run P w = .ok (.value v') w' := by
    simp [execOp, resolve, invoke, builtin, f.ev hx, f.ev hy, hrun]
  rw [this]
  exact ⟨(o2 v').out s', hn v' hnil _ _ (f.put hd v') s'⟩
def fillL (place : Nat → Option (Nat × Nat)) (cells : List Value) : List (Nat × Value) → Option (List Value)
  | [] => some cells
  | (i, v) :: rest => match place i with
    | none => none
    | some (off, size) => if v.cells.size ≠ size || off + v.cells.size > cells.length then none else fillL place (spl cells off v.cells.toList) rest
theorem foldl_set (vs : List Value) : ∀ (k off : Nat) (cells : Array Value), off + k + vs.length ≤ cells.size →
    ((vs.zipIdx k).foldl (fun cs (cj : Value × Nat) => cs.setIfInBounds (off + cj.2) cj.1) cells) = (spl cells.toList (off + k) vs).toArray := by
  induction vs with
  | nil => intro k off cells hl; simp [spl]
  | cons v vs ih =>
    intro k off cells hl
    simp only [List.length_cons] at hl
    simp only [List.zipIdx_cons, List.foldl_cons]
    rw [ih (k + 1) off _ (by simp; omega)]
    congr 1
    simp only [spl, Array.toList_setIfInBounds]
    have h1 : off + k < cells.toList.length := by simp; omega
    rw [← Nat.add_assoc, List.take_set, List.drop_set_of_lt (by omega), List.take_add_one, List.set_append]
    simp only [List.length_take, List.length_cons]
    rw [if_neg (by omega)]
    have h2 : off + k - min (off + k) cells.toList.length = 0 := by omega
    rw [h2, List.getElem?_eq_getElem h1]
    simp only [Option.toList_some, List.set_cons_zero]
    have h3 : off + k + 1 + vs.length = off + k + (vs.length + 1) := by omega
    rw [h3]
    simp [List.append_assoc]
theorem fill_eq (place : Nat → Option (Nat × Nat)) : ∀ (ps : List (Nat × Value)) (cells : Array Value), (Instr.fill place cells ps) = (fillL place cells.toList ps).map List.toArray
  | [], cells => by simp [Instr.fill, fillL]
  | (i, v) :: rest, cells => by
    simp only [Instr.fill, fillL]
    cases hp : place i with
    | none => rfl
    | some os =>
      obtain ⟨off, size⟩ := os
      simp only [Array.length_toList]
      split
      · rfl
      · rename_i hc
        simp only [Bool.or_eq_true, decide_eq_true_eq, not_or, Nat.not_lt] at hc
        have hfold : (v.cells.zipIdx.foldl (fun cs (x : Value × Nat) => cs.setIfInBounds (off + x.2) x.1) cells) = (spl cells.toList off v.cells.toList).toArray := by
          have := foldl_set v.cells.toList 0 off cells (by simpa using hc.2)
          rw [← Array.foldl_toList, Array.toList_zipIdx]
          simpa using this
        rw [fill_eq place rest]
        congr 2
        exact congrArg Array.toList hfold
end
end Go.Ck
end
