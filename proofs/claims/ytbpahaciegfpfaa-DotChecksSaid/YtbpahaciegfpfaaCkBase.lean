/-
  CkBase: a small logic for the walk: a frame as a list of known slots, memory as a list of resources that the call owns and a view of what stays as it is.
  Conditions: none; each law states its own.
-/
import Derived.Test.YtbpahaciegfpfaaCkLex
import Derived.Laws.AppendOwn
import Derived.Tactics
namespace Go.Ck
open Go
set_option linter.unusedVariables false
set_option linter.unusedSimpArgs false

/-! ### frames -/
def lk : List (Nat × Value) → Nat → Option Value
  | [], _ => none
  | (k, v) :: r, s => bif Nat.beq k s then some v else lk r s

structure Fr (n : Nat) (F : List (Nat × Value)) (a : Act) : Prop where
  size : a.tmps.size = n
  dfs : a.defers = []
  get : ∀ s v, lk F s = some v → a.tmps[s]? = some v

def ev (F : List (Nat × Value)) : Operand → Option Value
  | .tmp t => lk F t
  | .const v => some v
  | .global g => some (.pointer (some ⟨g, 0, none⟩))
  | .func f => some (.func (.func f) #[] #[])

theorem Fr.ev {n : Nat} {F : List (Nat × Value)} {a : Act} (h : Fr n F a) {x : Operand} {v : Value} (he : Ck.ev F x = some v) : a.eval x = v := by
  cases x with
  | tmp t => simp [Act.eval, Array.getD_eq_getD_getElem?, h.get t v he]
  | const v => simpa [Ck.ev, Act.eval] using he
  | global g => simpa [Ck.ev, Act.eval] using he
  | func f => simpa [Ck.ev, Act.eval] using he

def putF (dst : Option Nat) (v : Value) (F : List (Nat × Value)) : List (Nat × Value) :=
  match dst with
  | some d => (d, v) :: F
  | none => F
def okd (n : Nat) (dst : Option Nat) : Bool :=
  match dst with
  | some d => Nat.blt d n
  | none => true

theorem Fr.put {n : Nat} {F : List (Nat × Value)} {a : Act} (h : Fr n F a) {dst : Option Nat} (hd : okd n dst = true) (v : Value) : Fr n (putF dst v F) (a.put dst v) := by
  cases dst with
  | none => exact h
  | some d =>
    have hd : d < n := by simpa [okd, Nat.blt_eq] using hd
    refine ⟨by simp [Act.put, h.size], h.dfs, fun s u hs => ?_⟩
    simp only [putF, lk] at hs
    by_cases hds : d = s
    · subst hds
      simp only [Nat.beq_refl, cond_true, Option.some.injEq] at hs
      subst hs
      simp [Act.put, Array.getElem?_setIfInBounds, h.size, hd]
    · have hb : Nat.beq d s = false := by
        cases hx : Nat.beq d s with
        | false => rfl
        | true => exact absurd (Nat.eq_of_beq_eq_true hx) hds
      simp only [hb, cond_false] at hs
      simp [Act.put, Array.getElem?_setIfInBounds_ne hds, h.get s u hs]

/-- what is known less is known -/
def Sub (F' F : List (Nat × Value)) : Prop := ∀ s v, lk F' s = some v → lk F s = some v
theorem Sub.nil {F : List (Nat × Value)} : Sub [] F := fun s v h => by cases h
theorem Sub.cons {F' F : List (Nat × Value)} {s : Nat} {v v' : Value} (h1 : lk F s = some v') (h2 : v' = v) (h3 : Sub F' F) : Sub ((s, v) :: F') F := by
  subst h2
  intro t u ht
  simp only [lk] at ht
  by_cases hst : s = t
  · subst hst
    simp only [Nat.beq_refl, cond_true, Option.some.injEq] at ht
    subst ht
    exact h1
  · have hb : Nat.beq s t = false := by
      cases hx : Nat.beq s t with
      | false => rfl
      | true => exact absurd (Nat.eq_of_beq_eq_true hx) hst
    simp only [hb, cond_false] at ht
    exact h3 t u ht
theorem Sub.refl (F : List (Nat × Value)) : Sub F F := fun _ _ h => h
theorem Fr.sub {n : Nat} {F F' : List (Nat × Value)} {a : Act} (h : Fr n F a) (hs : Sub F' F) : Fr n F' a := ⟨h.size, h.dfs, fun s v hv => h.get s v (hs s v hv)⟩

/-! ### memory -/
abbrev View := Nat → Option Obj
def Le (h h' : View) : Prop := ∀ b o, h b = some o → h' b = some o
theorem Le.refl (h : View) : Le h h := fun _ _ x => x
theorem Le.trans {a b c : View} (h : Le a b) (k : Le b c) : Le a c := fun x o hx => k x o (h x o hx)

structure Res where
  dom : List Nat
  sat : World → Prop
  loc : ∀ w w' : World, (∀ b ∈ dom, w'.heap[b]? = w.heap[b]?) → sat w → sat w'
  lt : ∀ w, sat w → ∀ b ∈ dom, b < w.heap.size

def Res.blk (b : Nat) (o : Obj) : Res where
  dom := [b]
  sat := fun w => w.heap[b]? = some o
  loc := fun w w' h hs => by rw [h b (List.mem_singleton.2 rfl)]; exact hs
  lt := fun w hs b' hb => by
    have : b' = b := by simpa using hb
    subst this
    exact (Array.getElem?_eq_some_iff.1 hs).1

def doms (L : List Res) : List Nat := L.flatMap Res.dom

structure Hd (h : View) (L : List Res) (w : World) : Prop where
  view : ∀ b o, h b = some o → w.heap[b]? = some o
  own : ∀ r ∈ L, r.sat w

structure Bs where
  w0 : World
  h0 : View
  A : List Nat

structure St (K : Bs) (h : View) (L : List Res) (w : World) : Prop where
  os : w.os = K.w0.os
  tape : w.tape = K.w0.tape
  output : w.output = K.w0.output
  drawn : K.w0.drawn ≤ w.drawn
  size : K.w0.heap.size ≤ w.heap.size
  keep : ∀ k, k < K.w0.heap.size → k ∉ K.A → w.heap[k]? = K.w0.heap[k]?
  hd : Hd h L w
  nd : (doms L).Nodup
  src : ∀ b ∈ doms L, b ∈ K.A ∨ K.w0.heap.size ≤ b
  grow : Le K.h0 h
  new : ∀ b, b < K.w0.heap.size → K.h0 b = none → h b = none
  dis : ∀ b ∈ doms L, h b = none

theorem mem_doms {L : List Res} {b : Nat} : b ∈ doms L ↔ ∃ r ∈ L, b ∈ r.dom := by simp [doms, List.mem_flatMap]

theorem Hd.lt {h : View} {L : List Res} {w : World} (hh : Hd h L w) {b : Nat} (hb : b ∈ doms L) : b < w.heap.size := by
  obtain ⟨r, hr, hb⟩ := mem_doms.1 hb
  exact r.lt w (hh.own r hr) b hb

theorem Hd.sub {h h' : View} {L L' : List Res} {w : World} (hh : Hd h L w) (h1 : Le h' h) (h2 : ∀ r ∈ L', r ∈ L) : Hd h' L' w := ⟨fun b o hb => hh.view b o (h1 b o hb), fun r hr => hh.own r (h2 r hr)⟩
theorem Hd.tl {h : View} {r : Res} {L : List Res} {w : World} (hh : Hd h (r :: L) w) : Hd h L w := hh.sub (Le.refl h) fun _ hr => List.mem_cons_of_mem _ hr

/-- the beginning of a call -/
theorem St.start {w : World} {h : View} {L : List Res} (hd : Hd h L w) (nd : (doms L).Nodup) (dis : ∀ b ∈ doms L, h b = none) : St ⟨w, h, doms L⟩ h L w :=
  ⟨rfl, rfl, rfl, Nat.le_refl _, Nat.le_refl _, fun _ _ _ => rfl, hd, nd, fun _ hb => .inl hb, Le.refl h, fun _ _ hb => hb, dis⟩

theorem St.alloc {K : Bs} {h : View} {L : List Res} {w : World} (s : St K h L w) (o : Obj) : St K h (Res.blk w.heap.size o :: L) (w.alloc o) := by
  have hpush : ∀ k, k < w.heap.size → (w.alloc o).heap[k]? = w.heap[k]? := fun k hk => by
    show (w.heap.push o)[k]? = _
    rw [Array.getElem?_push, if_neg (by omega)]
  have hnone : h w.heap.size = none := by
    cases hx : h w.heap.size with
    | none => rfl
    | some o' =>
      have := s.hd.view _ _ hx
      simp at this
  refine ⟨s.os, s.tape, s.output, s.drawn, ?_, fun k hk hkA => ?_, ⟨fun b o' hb => ?_, fun r hr => ?_⟩, ?_, fun b hb => ?_, s.grow, s.new, fun b hb => ?_⟩
  · exact Nat.le_trans s.size (by show w.heap.size ≤ (w.heap.push o).size; simp)
  · rw [hpush k (Nat.lt_of_lt_of_le hk s.size)]; exact s.keep k hk hkA
  · have hv := s.hd.view b o' hb
    rw [hpush b (Array.getElem?_eq_some_iff.1 hv).1]; exact hv
  · rcases List.mem_cons.1 hr with rfl | hr
    · show (w.heap.push o)[w.heap.size]? = some o
      simp
    · exact r.loc w _ (fun b hb => hpush b (r.lt w (s.hd.own r hr) b hb)) (s.hd.own r hr)
  · show (w.heap.size :: doms L).Nodup
    refine List.nodup_cons.2 ⟨fun hm => ?_, s.nd⟩
    exact Nat.lt_irrefl _ (s.hd.lt hm)
  · have hb' : b ∈ w.heap.size :: doms L := hb
    rcases List.mem_cons.1 hb' with rfl | hb'
    · exact .inr s.size
    · exact s.src b hb'
  · have hb' : b ∈ w.heap.size :: doms L := hb
    rcases List.mem_cons.1 hb' with rfl | hb'
    · exact hnone
    · exact s.dis b hb'

theorem St.drew {K : Bs} {h : View} {L : List Res} {w : World} (s : St K h L w) : St K h L w.drew :=
  ⟨s.os, s.tape, s.output, Nat.le_succ_of_le s.drawn, s.size, s.keep, ⟨s.hd.view, fun r hr => r.loc w _ (fun _ _ => rfl) (s.hd.own r hr)⟩, s.nd, s.src, s.grow, s.new, s.dis⟩

theorem doms_append (L L' : List Res) : doms (L ++ L') = doms L ++ doms L' := by simp [doms]
theorem doms_cons (r : Res) (L : List Res) : doms (r :: L) = r.dom ++ doms L := by simp [doms]
theorem doms_nil : doms [] = [] := rfl

theorem St.perm {K : Bs} {h : View} {L L' : List Res} {w : World} (s : St K h L w) (p : L.Perm L') : St K h L' w := by
  have pd : (doms L).Perm (doms L') := List.Perm.flatMap_right _ p
  exact ⟨s.os, s.tape, s.output, s.drawn, s.size, s.keep, ⟨s.hd.view, fun r hr => s.hd.own r (p.mem_iff.2 hr)⟩, pd.nodup_iff.1 s.nd, fun b hb => s.src b (pd.mem_iff.2 hb), s.grow, s.new, fun b hb => s.dis b (pd.mem_iff.2 hb)⟩

/-- resources are let go -/
theorem St.drop {K : Bs} {h : View} {L L' : List Res} {w : World} (s : St K h (L ++ L') w) : St K h L' w :=
  ⟨s.os, s.tape, s.output, s.drawn, s.size, s.keep, s.hd.sub (Le.refl h) (fun r hr => List.mem_append_right _ hr), by have := s.nd; rw [doms_append] at this; exact (List.nodup_append.1 this).2.1,
   fun b hb => s.src b (by rw [doms_append]; exact List.mem_append_right _ hb), s.grow, s.new, fun b hb => s.dis b (by rw [doms_append]; exact List.mem_append_right _ hb)⟩
theorem St.nil {K : Bs} {h : View} {L : List Res} {w : World} (s : St K h L w) : St K h [] w := St.drop (L := L) (L' := []) (by simpa using s)
theorem St.base {K : Bs} {h : View} {L : List Res} {w : World} (s : St K h L w) : St K K.h0 [] w :=
  ⟨s.os, s.tape, s.output, s.drawn, s.size, s.keep, ⟨fun b o hb => s.hd.view b o (s.grow b o hb), fun r hr => by cases hr⟩, by simp [doms], fun b hb => by simp [doms] at hb, Le.refl _, fun _ _ hb => hb, fun b hb => by simp [doms] at hb⟩
theorem St.tl {K : Bs} {h : View} {r : Res} {L : List Res} {w : World} (s : St K h (r :: L) w) : St K h L w := St.drop (L := [r]) (L' := L) s
theorem St.keep1 {K : Bs} {h : View} {r : Res} {L : List Res} {w : World} (s : St K h (r :: L) w) : St K h [r] w := St.drop (L := L) (L' := [r]) (s.perm (List.perm_append_comm (l₁ := [r]) (l₂ := L)))

/-- what a callee is handed -/
theorem St.enter {K : Bs} {h : View} {Li Lr : List Res} {w : World} (s : St K h (Li ++ Lr) w) : St ⟨w, h, doms Li⟩ h Li w :=
  St.start (s.hd.sub (Le.refl h) fun r hr => List.mem_append_left _ hr) (by have := s.nd; rw [doms_append] at this; exact (List.nodup_append.1 this).1)
    (fun b hb => s.dis b (by rw [doms_append]; exact List.mem_append_left _ hb))

/-- the frame rule -/
theorem St.leave {K : Bs} {h h' : View} {Li Lo Lr : List Res} {w w' : World} (s : St K h (Li ++ Lr) w) (t : St ⟨w, h, doms Li⟩ h' Lo w') : St K h' (Lo ++ Lr) w' := by
  have nd := s.nd
  rw [doms_append] at nd
  obtain ⟨n1, n2, n3⟩ := List.nodup_append.1 nd
  have hrest : ∀ r ∈ Lr, ∀ b ∈ r.dom, b < w.heap.size ∧ b ∉ doms Li := fun r hr b hb => by
    have hm : b ∈ doms Lr := mem_doms.2 ⟨r, hr, hb⟩
    exact ⟨r.lt w (s.hd.own r (List.mem_append_right _ hr)) b hb, fun hi => n3 b hi b hm rfl⟩
  have hLr : ∀ b ∈ doms Lr, b < w.heap.size ∧ b ∉ doms Li := fun b hb => by
    obtain ⟨r, hr, hb⟩ := mem_doms.1 hb
    exact hrest r hr b hb
  refine ⟨t.os.trans s.os, t.tape.trans s.tape, t.output.trans s.output, Nat.le_trans s.drawn t.drawn, Nat.le_trans s.size t.size, fun k hk hkA => ?_, ⟨t.hd.view, fun r hr => ?_⟩, ?_, fun b hb => ?_, s.grow.trans t.grow, fun b hb hb0 => ?_, fun b hb => ?_⟩
  · rw [t.keep k (Nat.lt_of_lt_of_le hk s.size) (fun hi => ?_)]
    · exact s.keep k hk hkA
    · rcases s.src k (by rw [doms_append]; exact List.mem_append_left _ hi) with h1 | h1
      · exact hkA h1
      · omega
  · rcases List.mem_append.1 hr with hr | hr
    · exact t.hd.own r hr
    · exact r.loc w w' (fun b hb => t.keep b (hrest r hr b hb).1 (hrest r hr b hb).2) (s.hd.own r (List.mem_append_right _ hr))
  · rw [doms_append]
    refine List.nodup_append.2 ⟨t.nd, n2, fun a ha b hb hab => ?_⟩
    subst hab
    obtain ⟨q1, q2⟩ := hLr a hb
    rcases t.src a ha with h1 | h1
    · exact q2 h1
    · exact absurd q1 (Nat.not_lt.2 h1)
  · rw [doms_append] at hb
    rcases List.mem_append.1 hb with hb | hb
    · rcases t.src b hb with h1 | h1
      · exact s.src b (by rw [doms_append]; exact List.mem_append_left _ h1)
      · exact .inr (Nat.le_trans s.size h1)
    · exact s.src b (by rw [doms_append]; exact List.mem_append_right _ hb)
  · exact t.new b (Nat.lt_of_lt_of_le hb s.size) (s.new b hb hb0)
  · rw [doms_append] at hb
    rcases List.mem_append.1 hb with hb | hb
    · exact t.dis b hb
    · exact t.new b (hLr b hb).1 (s.dis b (by rw [doms_append]; exact List.mem_append_right _ hb))

/-- an owned block becomes one that stays as it is -/
def addV (h : View) (b : Nat) (o : Obj) : View := fun x => if x = b then some o else h x
theorem St.persist {K : Bs} {h : View} {b : Nat} {o : Obj} {L : List Res} {w : World} (s : St K h (Res.blk b o :: L) w) (hA : K.A = []) : St K (addV h b o) L w := by
  have hmem : b ∈ doms (Res.blk b o :: L) := by rw [doms_cons]; exact List.mem_append_left _ (List.mem_singleton.2 rfl)
  have hb0 : K.w0.heap.size ≤ b := by
    rcases s.src b hmem with h1 | h1
    · rw [hA] at h1; cases h1
    · exact h1
  have nd := s.nd
  rw [doms_cons] at nd
  obtain ⟨_, n2, n3⟩ := List.nodup_append.1 nd
  have hnot : b ∉ doms L := fun hb => n3 b (List.mem_singleton.2 rfl) b hb rfl
  refine ⟨s.os, s.tape, s.output, s.drawn, s.size, s.keep, ⟨fun x o' hx => ?_, fun r hr => s.hd.own r (List.mem_cons_of_mem _ hr)⟩, n2, fun x hx => s.src x (by rw [doms_cons]; exact List.mem_append_right _ hx), fun x o' hx => ?_, fun x hx hx0 => ?_, fun x hx => ?_⟩
  · unfold addV at hx
    split at hx
    · rename_i e; subst e; cases hx
      exact s.hd.own _ (List.mem_cons_self ..)
    · exact s.hd.view x o' hx
  · unfold addV
    split
    · rename_i e; subst e
      have h1 := s.grow x o' hx
      rw [s.dis x hmem] at h1; cases h1
    · exact s.grow x o' hx
  · unfold addV
    rw [if_neg (by omega)]
    exact s.new x hx hx0
  · unfold addV
    rw [if_neg (fun e => hnot (by rw [← e]; exact hx))]
    exact s.dis x (by rw [doms_cons]; exact List.mem_append_right _ hx)
theorem Le.addV {h : View} {b : Nat} {o : Obj} (hb : h b = none) : Le h (Ck.addV h b o) := fun x o' hx => by
  unfold Ck.addV
  split
  · rename_i e; subst e; rw [hb] at hx; cases hx
  · exact hx
theorem addV_same {h : View} {b : Nat} {o : Obj} : addV h b o b = some o := by simp [addV]

/-- one owned block is written -/
theorem St.write {K : Bs} {h : View} {b : Nat} {o o' : Obj} {L : List Res} {w w' : World} (s : St K h (Res.blk b o :: L) w) (h1 : w'.os = w.os) (h2 : w'.tape = w.tape) (h3 : w'.output = w.output) (hdr : w.drawn ≤ w'.drawn)
    (h4 : w'.heap.size = w.heap.size) (h5 : ∀ k, k ≠ b → w'.heap[k]? = w.heap[k]?) (h6 : w'.heap[b]? = some o') : St K h (Res.blk b o' :: L) w' := by
  have t : St ⟨w, h, doms [Res.blk b o]⟩ h [Res.blk b o'] w' := by
    have hdis := s.dis b (by rw [doms_cons]; exact List.mem_append_left _ (List.mem_singleton.2 rfl))
    have hd1 : ∀ x, x ∈ doms [Res.blk b o'] → x = b := fun x hx => by simpa [doms, Res.blk] using hx
    refine ⟨h1, h2, h3, hdr, by rw [h4]; exact Nat.le_refl _, fun k hk hkA => h5 k (fun e => hkA (by subst e; simp [doms, Res.blk])), ⟨fun x ob hx => ?_, fun r hr => ?_⟩, ?_, fun x hx => .inl (by rw [hd1 x hx]; simp [doms, Res.blk]), Le.refl h, fun _ _ hx => hx, fun x hx => by rw [hd1 x hx]; exact hdis⟩
    · rw [h5 x (fun e => by subst e; rw [hdis] at hx; cases hx)]
      exact s.hd.view x ob hx
    · have : r = Res.blk b o' := by simpa using hr
      subst this
      exact h6
    · simp [doms, Res.blk]
  exact St.leave (Li := [Res.blk b o]) (Lo := [Res.blk b o']) (Lr := L) s t

theorem perm_at {L : List Res} {k : Nat} {R : Res} (hk : L[k]? = some R) : L.Perm (R :: L.eraseIdx k) := by
  induction L generalizing k with
  | nil => simp at hk
  | cons r L ih =>
    cases k with
    | zero => simp at hk; subst hk; exact List.Perm.refl _
    | succ k =>
      simp only [List.getElem?_cons_succ] at hk
      exact ((ih hk).cons r).trans (List.Perm.swap R r _)
theorem perm_set {L : List Res} {k : Nat} {R R' : Res} (hk : L[k]? = some R) : (R' :: L.eraseIdx k).Perm (L.set k R') := by
  induction L generalizing k with
  | nil => simp at hk
  | cons r L ih =>
    cases k with
    | zero => exact List.Perm.refl _
    | succ k =>
      simp only [List.getElem?_cons_succ] at hk
      exact (List.Perm.swap r R' _).trans ((ih hk).cons r)
/-- one owned block, at its place, is written -/
theorem St.writeAt {K : Bs} {h : View} {b k : Nat} {o o' : Obj} {L : List Res} {w w' : World} (s : St K h L w) (hk : L[k]? = some (Res.blk b o)) (h1 : w'.os = w.os) (h2 : w'.tape = w.tape) (h3 : w'.output = w.output) (hdr : w.drawn ≤ w'.drawn)
    (h4 : w'.heap.size = w.heap.size) (h5 : ∀ k, k ≠ b → w'.heap[k]? = w.heap[k]?) (h6 : w'.heap[b]? = some o') : St K h (L.set k (Res.blk b o')) w' :=
  (St.write (s.perm (perm_at hk)) h1 h2 h3 hdr h4 h5 h6).perm (perm_set hk)

/-! ### judgements -/
section
variable {P : Program} {n : Nat} {K : Bs}

def CX (P : Program) (n : Nat) (K : Bs) (c : Code) (F : List (Nat × Value)) (h : View) (L : List Res) (Q : Exit → Act → World → Prop) : Prop :=
  ∀ a w, Fr n F a → St K h L w → c.wp P Q a w
def NX (n : Nat) (K : Bs) (e : Exit) (F : List (Nat × Value)) (h : View) (L : List Res) (Q : Exit → Act → World → Prop) : Prop :=
  ∀ a w, Fr n F a → St K h L w → Q e a w
structure Rg where
  ops : Array Oper
  S : World → Prop
  lo : Nat → Bool
  bar : Nat → Bool
def RX (P : Program) (n : Nat) (K : Bs) (g : Rg) (prs : List (Nat × Oper)) (F : List (Nat × Value)) (h : View) (L : List Res) (Q : Exit → Act → World → Prop) : Prop :=
  ∀ a w, Fr n F a → St K h L w → wpX P g.ops g.S g.lo g.bar (Q .normal) prs a w

variable {F : List (Nat × Value)} {h : View} {L : List Res} {Q : Exit → Act → World → Prop}

theorem ybo {x y : Code} (hx : CX P n K x F h L (Exit.then (fun a w => y.wp P Q a w) Q)) : CX P n K (.seq x y) F h L Q := fun a w f s => wp_seq (hx a w f s)
theorem ybs (hx : NX n K .normal F h L Q) : CX P n K .skip F h L Q := fun a w f s => wp_skip (hx a w f s)
theorem ybr (hx : NX n K .ret F h L Q) : CX P n K .ret F h L Q := fun a w f s => wp_ret (hx a w f s)
theorem ybt {id : Nat} (hx : NX n K (.exit id) F h L Q) : CX P n K (.exit id) F h L Q := fun a w f s => wp_exit (hx a w f s)
theorem ybq {id : Nat} {c : Code} (hx : CX P n K c F h L (Exit.inBlock id Q)) : CX P n K (.block id c) F h L Q := fun a w f s => wp_block (hx a w f s)
theorem ybu {x : Operand} {c d : Code} (hv : ev F x = some (.bool true)) (hx : CX P n K c F h L Q) : CX P n K (.cond x c d) F h L Q :=
  fun a w f s => wp_cond_true (f.ev hv) (hx a w f s)
theorem ybv {x : Operand} {c d : Code} (hv : ev F x = some (.bool false)) (hx : CX P n K d F h L Q) : CX P n K (.cond x c d) F h L Q :=
  fun a w f s => wp_cond_false (f.ev hv) (hx a w f s)
theorem ybx {x : Operand} {c d : Code} {t : Bool} (hv : ev F x = some (.bool t)) (hx : t = true → CX P n K c F h L Q) (hy : t = false → CX P n K d F h L Q) : CX P n K (.cond x c d) F h L Q :=
  fun a w f s => wp_cond_split (f.ev hv) (fun ht => hx ht a w f s) (fun ht => hy ht a w f s)
theorem ybw {x : Operand} {c d : Code} {p : Prop} [Decidable p] (hv : ev F x = some (.bool (decide p))) (hx : p → CX P n K c F h L Q) (hy : ¬ p → CX P n K d F h L Q) : CX P n K (.cond x c d) F h L Q :=
  ybx hv (fun ht => hx (of_decide_eq_true ht)) (fun ht => hy (of_decide_eq_false ht))

theorem cx_loop {X : Type} {c : Code} (FI : X → List (Nat × Value)) (hI : X → View) (LI : X → List Res) (p : X → Prop) (m : X → Nat) (x0 : X) (hp : p x0) (hF : Sub (FI x0) F)
    (hS : ∀ w, St K h L w → St K (hI x0) (LI x0) w)
    (round : ∀ x, p x → CX P n K c (FI x) (hI x) (LI x) (Exit.then (fun a w => ∃ y, p y ∧ m y < m x ∧ Fr n (FI y) a ∧ St K (hI y) (LI y) w) Q)) : CX P n K (.loop c) F h L Q := fun a w f s => by
  intro b k cs
  have key : ∀ j, ∀ x a w, p x → m x = j → Fr n (FI x) a → St K (hI x) (LI x) w →
      ∃ e a' w', Q e a' w' ∧ Arrives P (lone (b.at a (.code c :: .inLoop c :: k)) cs w) b k cs e a' w' := by
    intro j
    induction j using Nat.strongRecOn with
    | _ j ih =>
      intro x a w hx hj f s
      obtain ⟨e, a₁, w₁, hq, harr⟩ := round x hx a w f s b (.inLoop c :: k) cs
      cases e with
      | normal =>
        obtain ⟨y, hy, hlt, fy, sy⟩ := hq
        obtain ⟨e₂, a₂, w₂, hq₂, harr₂⟩ := ih (m y) (hj ▸ hlt) y a₁ w₁ hy rfl fy sy
        exact ⟨e₂, a₂, w₂, hq₂, .of_steps (Steps.trans harr (.one step_inLoop)) harr₂⟩
      | exit id => exact ⟨_, a₁, w₁, hq, .pass (x := .inLoop c) rfl (fun _ _ => .inl (by simp)) harr⟩
      | goto l => exact ⟨_, a₁, w₁, hq, .pass (x := .inLoop c) rfl (fun _ _ => .inl (by simp)) harr⟩
      | ret => exact ⟨_, a₁, w₁, hq, .pass (x := .inLoop c) rfl (fun _ _ => .inl (by simp)) harr⟩
      | panic ch => exact ⟨_, a₁, w₁, hq, .pass (x := .inLoop c) rfl (fun _ _ => .inl (by simp)) harr⟩
      | outgrown => exact ⟨_, a₁, w₁, hq, .pass (x := .inLoop c) rfl (fun _ _ => .inl (by simp)) harr⟩
  obtain ⟨e, a', w', hq, harr⟩ := key _ x0 a w hp rfl (f.sub hF) (hS w s)
  exact ⟨e, a', w', hq, .of_steps (.one step_loop) harr⟩

/-- the round's end -/
theorem nx_round {X : Type} {FI : X → List (Nat × Value)} {hI : X → View} {LI : X → List Res} {p : X → Prop} {m : X → Nat} {k : Nat} {Q' : Exit → Act → World → Prop} (y : X) (hp : p y) (hm : m y < k) (hF : Sub (FI y) F)
    (hS : ∀ w, St K h L w → St K (hI y) (LI y) w) : NX n K .normal F h L (Exit.then (fun a w => ∃ y, p y ∧ m y < k ∧ Fr n (FI y) a ∧ St K (hI y) (LI y) w) Q') :=
  fun a w f s => ⟨y, hp, hm, f.sub hF, hS w s⟩

/-- a cut: the ways meet again -/
theorem cx_cut {X : Type} {x : Code} (FI : X → List (Nat × Value)) (hI : X → View) (LI : X → List Res) (p : X → Prop)
    (h1 : CX P n K x F h L (fun e a w => match e with | .normal => ∃ y, p y ∧ Fr n (FI y) a ∧ St K (hI y) (LI y) w | e => Q e a w))
    (h2 : ∀ y, p y → NX n K .normal (FI y) (hI y) (LI y) Q) : CX P n K x F h L Q := fun a w f s => by
  refine wp_mono (h1 a w f s) fun e a w hq => ?_
  cases e with
  | normal => obtain ⟨y, hy, fy, sy⟩ := hq; exact h2 y hy a w fy sy
  | _ => exact hq
theorem nx_cut {X : Type} {FI : X → List (Nat × Value)} {hI : X → View} {LI : X → List Res} {p : X → Prop} {Q' : Exit → Act → World → Prop} (y : X) (hp : p y) (hF : Sub (FI y) F) (hS : ∀ w, St K h L w → St K (hI y) (LI y) w) :
    NX n K .normal F h L (fun e a w => match e with | .normal => ∃ y, p y ∧ Fr n (FI y) a ∧ St K (hI y) (LI y) w | e => Q' e a w) := fun a w f s => ⟨y, hp, f.sub hF, hS w s⟩
theorem nx_cut_ret {X : Type} {FI : X → List (Nat × Value)} {hI : X → View} {LI : X → List Res} {p : X → Prop} {Q' : Exit → Act → World → Prop} (hx : NX n K .ret F h L Q') :
    NX n K .ret F h L (fun e a w => match e with | .normal => ∃ y, p y ∧ Fr n (FI y) a ∧ St K (hI y) (LI y) w | e => Q' e a w) := hx
theorem nx_cut_exit {X : Type} {id : Nat} {FI : X → List (Nat × Value)} {hI : X → View} {LI : X → List Res} {p : X → Prop} {Q' : Exit → Act → World → Prop} (hx : NX n K (.exit id) F h L Q') :
    NX n K (.exit id) F h L (fun e a w => match e with | .normal => ∃ y, p y ∧ Fr n (FI y) a ∧ St K (hI y) (LI y) w | e => Q' e a w) := hx

theorem nx_then {next : Act → World → Prop} (hx : ∀ a w, Fr n F a → St K h L w → next a w) : NX n K .normal F h L (Exit.then next Q) := hx
theorem yby {c : Code} (hx : CX P n K c F h L Q) : NX n K .normal F h L (Exit.then (fun a w => c.wp P Q a w) Q) := hx
theorem ybz {next : Act → World → Prop} (hx : NX n K .ret F h L Q) : NX n K .ret F h L (Exit.then next Q) := hx
theorem yca {next : Act → World → Prop} {id : Nat} (hx : NX n K (.exit id) F h L Q) : NX n K (.exit id) F h L (Exit.then next Q) := hx
theorem ycb {id : Nat} (hx : NX n K .normal F h L Q) : NX n K .normal F h L (Exit.inBlock id Q) := hx
theorem ycc {id : Nat} (hx : NX n K .ret F h L Q) : NX n K .ret F h L (Exit.inBlock id Q) := hx
theorem ycd {id : Nat} (hx : NX n K .normal F h L Q) : NX n K (.exit id) F h L (Exit.inBlock id Q) := fun a w f s => by
  simp only [Exit.inBlock, if_true]; exact hx a w f s
theorem yce {id id' : Nat} (hne : Nat.beq id' id = false) (hx : NX n K (.exit id') F h L Q) : NX n K (.exit id') F h L (Exit.inBlock id Q) := fun a w f s => by
  have : id' ≠ id := fun e => by subst e; simp at hne
  simp only [Exit.inBlock, this, if_false]; exact hx a w f s

/-! ### regions -/
theorem ybp {id : Nat} {ops : Array Oper} (hx : RX P n K ⟨ops, fun _ => True, fun _ => true, fun _ => false⟩ (enumFrom 0 ops.toList) F h L Q) : CX P n K (.region id ops false) F h L Q :=
  fun a w f s => wp_region_seq (hx a w f s)
theorem cx_region_draw' {id : Nat} {ops : Array Oper} (hm : P.follows .mixedOrders = true) (hB : lexOkAt ops (masks ops) (loOf ops) (barOf ops) = true)
    (hx : RX P n K ⟨ops, Hd h L, loOf ops, barOf ops⟩ (enumFrom 0 ops.toList) F h L Q) : CX P n K (.region id ops true) F h L Q :=
  fun a w f s => wp_region_lex hm hB (hx a w.drew ⟨f.size, f.dfs, f.get⟩ s.drew)
theorem cx_region_draw {id : Nat} {ops : Array Oper} (LS : List Res) (hm : P.follows .mixedOrders = true) (hB : lexOkAt ops (masks ops) (loOf ops) (barOf ops) = true)
    (hx : RX P n K ⟨ops, Hd h LS, loOf ops, barOf ops⟩ (enumFrom 0 ops.toList) F h L Q) : CX P n K (.region id ops true) F h L Q :=
  fun a w f s => wp_region_lex hm hB (hx a w.drew ⟨f.size, f.dfs, f.get⟩ s.drew)

theorem ycg {g : Rg} (hx : NX n K .normal F h L Q) : RX P n K g [] F h L Q := hx

def wantedF (ops : Array Oper) (F : List (Nat × Value)) (o : Oper) : Option Bool :=
  match o.guard with
  | none => some true
  | some (j, want) => match ((ops[j]?).bind (·.dst)).bind (lk F) with
    | some (.bool b) => some (b == want)
    | some _ => some false
    | none => none

theorem wantedF_ok {ops : Array Oper} {o : Oper} {a : Act} {t : Bool} (f : Fr n F a) (hw : wantedF ops F o = some t) : Region.wanted o (yielded ops a.tmps) = t := by
  unfold wantedF at hw
  unfold Region.wanted
  split at hw
  · rename_i hg; rw [hg]; cases hw; rfl
  · rename_i j want hg
    rw [hg]
    dsimp only
    cases hd : (ops[j]?).bind (·.dst) with
    | none => rw [hd] at hw; cases hw
    | some d =>
      rw [hd] at hw
      simp only [Option.bind_some] at hw
      cases hv : lk F d with
      | none => rw [hv] at hw; cases hw
      | some v =>
        have hy : yielded ops a.tmps j = (match some v with | some (.bool b) => some b | _ => none) := by
          unfold yielded
          rw [hd]
          simp only [Option.bind_some]
          rw [f.get d _ hv]
          cases v <;> rfl
        rw [hy]
        rw [hv] at hw
        cases v <;> simp only at hw ⊢ <;> cases hw
        case bool.refl b => cases b <;> cases want <;> rfl
        all_goals rfl

theorem ybl {g : Rg} {i : Nat} {dst : Option Nat} {op : Op} {ty : Nat} {pos : String} {af : Array Edge} {gd : Option (Nat × Bool)} {r : List (Nat × Oper)} (hw : wantedF g.ops F ⟨dst, op, ty, pos, af, gd⟩ = some false) (hd : okd n dst = true) (hx : RX P n K g r (putF dst undef F) h L Q) : RX P n K g ((i, ⟨dst, op, ty, pos, af, gd⟩) :: r) F h L Q :=
  fun a w f s => .inl ⟨wantedF_ok f hw, hx _ _ (f.put hd undef) s⟩

def gval (ops : Array Oper) (F : List (Nat × Value)) (o : Oper) : Option Bool :=
  match o.guard with
  | none => none
  | some (j, _) => match ((ops[j]?).bind (·.dst)).bind (lk F) with
    | some (.bool b) => some b
    | _ => none
/-- a guard is decided -/
theorem ybj {g : Rg} {i : Nat} {o : Oper} {r : List (Nat × Oper)} {t : Bool} (hv : gval g.ops F o = some t) (h1 : t = true → RX P n K g ((i, o) :: r) F h L Q) (h2 : t = false → RX P n K g ((i, o) :: r) F h L Q) : RX P n K g ((i, o) :: r) F h L Q := by
  cases t
  · exact h2 rfl
  · exact h1 rfl

theorem ybi {g : Rg} {i : Nat} {o : Oper} {r : List (Nat × Oper)} (hw : wantedF g.ops F o = some true) (hx : RX P n K g ((i, o) :: r) F h L Q) : RX P n K g ((i, o) :: r) F h L Q := hx

/-- what an operation yields, in every world that the facts fit -/
def QV (P : Program) (n : Nat) (F : List (Nat × Value)) (h : View) (L : List Res) (o : Oper) (v : Value) : Prop :=
  ∀ a w, Fr n F a → Hd h L w → (execOp a.eval o).run P w = .ok (.value v) w

/-- a step in a region that draws nothing -/
theorem ybk {ops : Array Oper} {i : Nat} {dst : Option Nat} {op : Op} {ty : Nat} {pos : String} {af : Array Edge} {gd : Option (Nat × Bool)} {r : List (Nat × Oper)} {v : Value} (hq : QV P n F h L ⟨dst, op, ty, pos, af, gd⟩ v) (hw : wantedF ops F ⟨dst, op, ty, pos, af, gd⟩ = some true) (hd : okd n dst = true)
    (hx : RX P n K ⟨ops, fun _ => True, fun _ => true, fun _ => false⟩ r (putF dst v F) h L Q) : RX P n K ⟨ops, fun _ => True, fun _ => true, fun _ => false⟩ ((i, ⟨dst, op, ty, pos, af, gd⟩) :: r) F h L Q :=
  fun a w f s => .inr (.inr ⟨wantedF_ok f hw, rfl, .inl trivial, by
    unfold Oper.wp
    rw [hq a w f s.hd]
    exact ⟨.inl trivial, hx _ _ (f.put hd v) s⟩⟩)
/-- a quiet step in a region that draws -/
theorem ybm {ops : Array Oper} {lo bar : Nat → Bool} {hS : View} {LS : List Res} {i : Nat} {dst : Option Nat} {op : Op} {ty : Nat} {pos : String} {af : Array Edge} {gd : Option (Nat × Bool)} {r : List (Nat × Oper)} {v : Value} (hq : QV P n F hS LS ⟨dst, op, ty, pos, af, gd⟩ v) (hw : wantedF ops F ⟨dst, op, ty, pos, af, gd⟩ = some true) (hd : okd n dst = true)
    (hh : ∀ w, Hd h L w → Hd hS LS w) (hx : RX P n K ⟨ops, Hd hS LS, lo, bar⟩ r (putF dst v F) h L Q) : RX P n K ⟨ops, Hd hS LS, lo, bar⟩ ((i, ⟨dst, op, ty, pos, af, gd⟩) :: r) F h L Q :=
  fun a w f s => .inr (.inl ⟨wantedF_ok f hw, hh w s.hd, v, fun w' hw' => hq a w' f hw', hx _ _ (f.put hd v) s⟩)
/-- a value in the world at hand, in a region that draws -/
theorem ybn {ops : Array Oper} {lo bar : Nat → Bool} {S : World → Prop} {i : Nat} {dst : Option Nat} {op : Op} {ty : Nat} {pos : String} {af : Array Edge} {gd : Option (Nat × Bool)} {r : List (Nat × Oper)} {v : Value} (hq : QV P n F h L ⟨dst, op, ty, pos, af, gd⟩ v) (hw : wantedF ops F ⟨dst, op, ty, pos, af, gd⟩ = some true) (hd : okd n dst = true)
    (hl : lo i = true) (hh : (∀ w, Hd h L w → S w) ∨ bar i = true) (hx : RX P n K ⟨ops, S, lo, bar⟩ r (putF dst v F) h L Q) : RX P n K ⟨ops, S, lo, bar⟩ ((i, ⟨dst, op, ty, pos, af, gd⟩) :: r) F h L Q :=
  fun a w f s => .inr (.inr ⟨wantedF_ok f hw, hl, hh.imp (fun k => k w s.hd) id, by
    unfold Oper.wp
    rw [hq a w f s.hd]
    exact ⟨hh.imp (fun k => k w s.hd) id, hx _ _ (f.put hd v) s⟩⟩)

/-- an operation that changes the world, in one step -/
def WV (P : Program) (n : Nat) (K : Bs) (F : List (Nat × Value)) (h : View) (L : List Res) (o : Oper) (R : Value → World → Prop) : Prop :=
  ∀ a w, Fr n F a → St K h L w → ∃ v w', ((execOp a.eval o).run P w = .ok (.value v) w' ∨ (execOp a.eval o).run P w = .ok .skip w' ∧ v = undef) ∧ R v w'

/-- S at the beginning and behind: what a loud step owes -/
def Owe (g : Rg) (i : Nat) (h : View) (L : List Res) : Prop := (∀ w, Hd h L w → g.S w) ∨ g.bar i = true
theorem ybf {ops : Array Oper} {i : Nat} : Owe ⟨ops, fun _ => True, fun _ => true, fun _ => false⟩ i h L := .inl fun _ _ => trivial

theorem rx_w {g : Rg} {i : Nat} {o : Oper} {r : List (Nat × Oper)} {R : Value → World → Prop} (hq : WV P n K F h L o R) (hw : wantedF g.ops F o = some true) (hd : okd n o.dst = true) (hl : g.lo i = true)
    (h1 : Owe g i h L) (hx : ∀ v w, R v w → (g.S w ∨ g.bar i = true) ∧ ∀ a, Fr n (putF o.dst v F) a → wpX P g.ops g.S g.lo g.bar (Q .normal) r a w) : RX P n K g ((i, o) :: r) F h L Q :=
  fun a w f s => .inr (.inr ⟨wantedF_ok f hw, hl, h1.imp (fun k => k w s.hd) id, by
    obtain ⟨v, w', hrun, hR⟩ := hq a w f s
    obtain ⟨h2, h3⟩ := hx v w' hR
    unfold Oper.wp
    rcases hrun with hrun | ⟨hrun, rfl⟩
    · rw [hrun]; exact ⟨h2, h3 _ (f.put hd v)⟩
    · rw [hrun]; exact ⟨h2, h3 _ (f.put hd undef)⟩⟩)

/-- memory is made -/
def MA (P : Program) (n : Nat) (F : List (Nat × Value)) (h : View) (L : List Res) (o : Oper) (v : Nat → Value) (ob : Obj) : Prop :=
  ∀ a w, Fr n F a → Hd h L w → (execOp a.eval o).run P w = .ok (.value (v w.heap.size)) (w.alloc ob)
theorem yba {g : Rg} {i : Nat} {dst : Option Nat} {op : Op} {ty : Nat} {pos : String} {af : Array Edge} {gd : Option (Nat × Bool)} {r : List (Nat × Oper)} {v : Nat → Value} {ob : Obj} (hq : MA P n F h L ⟨dst, op, ty, pos, af, gd⟩ v ob) (hw : wantedF g.ops F ⟨dst, op, ty, pos, af, gd⟩ = some true) (hd : okd n dst = true) (hl : g.lo i = true)
    (h1 : Owe g i h L) (h2 : ∀ b, Owe g i h (Res.blk b ob :: L)) (hx : ∀ b, RX P n K g r (putF dst (v b) F) h (Res.blk b ob :: L) Q) : RX P n K g ((i, ⟨dst, op, ty, pos, af, gd⟩) :: r) F h L Q :=
  fun a w f s => .inr (.inr ⟨wantedF_ok f hw, hl, h1.imp (fun k => k w s.hd) id, by
    unfold Oper.wp
    rw [hq a w f s.hd]
    have s' := s.alloc ob
    exact ⟨(h2 w.heap.size).imp (fun k => k _ s'.hd) id, hx _ _ _ (f.put hd _) s'⟩⟩)

theorem nble {a b : Nat} (h : Nat.ble a b = true) : a ≤ b := Nat.le_of_ble_eq_true h
/-! ### calls -/
/-- what a call of a function is, once resolved -/
def CallOf (P : Program) (n : Nat) (F : List (Nat × Value)) (o : Oper) (fn : FuncId) (args : Array Value) : Prop :=
  ∀ a w, Fr n F a → (execOp a.eval o).run P w = .ok (.enter fn args) w

/-- a call that leaves all resources as they are: one result, known -/
theorem yco {g : Rg} {i : Nat} {dst : Option Nat} {op : Op} {ty : Nat} {pos : String} {af : Array Edge} {gd : Option (Nat × Bool)} {r : List (Nat × Oper)} {fn : FuncId} {args : Array Value} {X : Type} {v : X → Value} {hh : X → View} {LL : X → List Res} {p : X → Prop} (hc : CallOf P n F ⟨dst, op, ty, pos, af, gd⟩ fn args)
    (hsp : ∀ w, St ⟨w, h, []⟩ h [] w → Calls P fn args w fun e w' => ∃ x, e = .returned (v x) ∧ St ⟨w, h, []⟩ (hh x) (LL x) w' ∧ p x)
    (hw : wantedF g.ops F ⟨dst, op, ty, pos, af, gd⟩ = some true) (hd : okd n dst = true) (hl : g.lo i = true) (h1 : Owe g i h L) (h2 : ∀ x, p x → Le h (hh x) → Owe g i (hh x) (LL x ++ L))
    (hx : ∀ x, p x → Le h (hh x) → RX P n K g r (putF dst (v x) F) (hh x) (LL x ++ L) Q) : RX P n K g ((i, ⟨dst, op, ty, pos, af, gd⟩) :: r) F h L Q :=
  fun a w f s => .inr (.inr ⟨wantedF_ok f hw, hl, h1.imp (fun k => k w s.hd) id, by
    unfold Oper.wp
    rw [hc a w f]
    refine (hsp w (St.enter (Li := []) (Lr := L) s)).mono fun e w' he => ?_
    obtain ⟨x, rfl, st, px⟩ := he
    have s' := St.leave (Li := []) (Lr := L) s st
    have hle : Le h (hh x) := st.grow
    exact ⟨(h2 x px hle).imp (fun k => k _ s'.hd) id, hx x px hle _ _ (f.put hd _) s'⟩⟩)
theorem ycn {g : Rg} {i : Nat} {dst : Option Nat} {op : Op} {ty : Nat} {pos : String} {af : Array Edge} {gd : Option (Nat × Bool)} {r : List (Nat × Oper)} {fn : FuncId} {args : Array Value} {v : Value} (hc : CallOf P n F ⟨dst, op, ty, pos, af, gd⟩ fn args)
    (hsp : ∀ w, St ⟨w, h, []⟩ h [] w → Calls P fn args w fun e w' => e = .returned v ∧ St ⟨w, h, []⟩ h [] w')
    (hw : wantedF g.ops F ⟨dst, op, ty, pos, af, gd⟩ = some true) (hd : okd n dst = true) (hl : g.lo i = true) (h1 : Owe g i h L)
    (hx : RX P n K g r (putF dst v F) h L Q) : RX P n K g ((i, ⟨dst, op, ty, pos, af, gd⟩) :: r) F h L Q :=
  yco (X := Unit) (v := fun _ => v) (hh := fun _ => h) (LL := fun _ => []) (p := fun _ => True) hc (fun w s => (hsp w s).mono fun e w' ⟨he, st⟩ => ⟨(), he, st, trivial⟩) hw hd hl h1 (fun _ _ _ => h1) (fun _ _ _ => hx)
/-- a call that takes one resource -/
theorem rx_call_m {g : Rg} {i : Nat} {dst : Option Nat} {op : Op} {ty : Nat} {pos : String} {af : Array Edge} {gd : Option (Nat × Bool)} {r : List (Nat × Oper)} {fn : FuncId} {args : Array Value} {X : Type} {v : X → Value} {hh : X → View} {LL : X → List Res} {p : X → Prop} {R : Res} {Lr : List Res} (hc : CallOf P n F ⟨dst, op, ty, pos, af, gd⟩ fn args)
    (hp : L.Perm (R :: Lr))
    (hsp : ∀ w, St ⟨w, h, doms [R]⟩ h [R] w → Calls P fn args w fun e w' => ∃ x, e = .returned (v x) ∧ St ⟨w, h, doms [R]⟩ (hh x) (LL x) w' ∧ p x)
    (hw : wantedF g.ops F ⟨dst, op, ty, pos, af, gd⟩ = some true) (hd : okd n dst = true) (hl : g.lo i = true) (h1 : Owe g i h L) (h2 : ∀ x, p x → Le h (hh x) → Owe g i (hh x) (LL x ++ Lr))
    (hx : ∀ x, p x → Le h (hh x) → RX P n K g r (putF dst (v x) F) (hh x) (LL x ++ Lr) Q) : RX P n K g ((i, ⟨dst, op, ty, pos, af, gd⟩) :: r) F h L Q :=
  fun a w f s => .inr (.inr ⟨wantedF_ok f hw, hl, h1.imp (fun k => k w s.hd) id, by
    unfold Oper.wp
    rw [hc a w f]
    have s1 : St K h ([R] ++ Lr) w := s.perm hp
    refine (hsp w (St.enter (Li := [R]) (Lr := Lr) s1)).mono fun e w' he => ?_
    obtain ⟨x, rfl, st, px⟩ := he
    have s' := St.leave (Li := [R]) (Lr := Lr) s1 st
    have hle : Le h (hh x) := st.grow
    exact ⟨(h2 x px hle).imp (fun k => k _ s'.hd) id, hx x px hle _ _ (f.put hd _) s'⟩⟩)

/-! ### beginning and end -/
def argsF : Nat → List Value → List (Nat × Value)
  | _, [] => []
  | k, v :: r => (k, v) :: argsF (k + 1) r
theorem lk_argsF : ∀ (l : List Value) (k s : Nat) (v : Value), lk (argsF k l) s = some v → k ≤ s ∧ l[s - k]? = some v
  | [], k, s, v, h => by cases h
  | u :: l, k, s, v, h => by
    simp only [argsF, lk] at h
    by_cases hks : k = s
    · subst hks
      simp at h
      simp [h]
    · have hb : Nat.beq k s = false := by
        cases hx : Nat.beq k s with
        | false => rfl
        | true => exact absurd (Nat.eq_of_beq_eq_true hx) hks
      simp only [hb, cond_false] at h
      obtain ⟨h1, h2⟩ := lk_argsF l (k + 1) s v h
      refine ⟨by omega, ?_⟩
      have : s - k = (s - (k + 1)) + 1 := by omega
      rw [this]; simpa using h2
theorem calls_enter {fn : FuncId} {fu : Func} {c : Code} {l : List Value} {w : World} {A : List Nat} {R : Ending → World → Prop} (hf : P.funcs[fn]? = some fu) (hb : fu.body = some c) (hn : fu.ntmps = n) (hl : Nat.ble l.length n = true)
    (s : St ⟨w, h, A⟩ h L w) (hx : CX P n ⟨w, h, A⟩ c (argsF 0 l) h L (bodyPost P fu R)) : Calls P fn l.toArray w R := by
  have hl : l.length ≤ n := by simpa using hl
  refine calls_of_wp hf hb (hx _ w ⟨?_, rfl, fun t v ht => ?_⟩ s)
  · simp [hn]; omega
  · obtain ⟨_, h2⟩ := lk_argsF l 0 t v ht
    have hlt : t < l.length := by
      have := (List.getElem?_eq_some_iff.1 h2).1
      simpa using this
    simp only [Nat.sub_zero] at h2
    rw [Array.getElem?_append_left (by simpa using hlt)]
    simpa using h2

def RV (P : Program) (F : List (Nat × Value)) (h : View) (L : List Res) : ResultVar → Value → Prop
  | .tmp t, v => lk F t = some v
  | .cell b t, v => ∃ ad, lk F b = some (.pointer (some ad)) ∧ ∀ w, Hd h L w → (loadVar t ad).run P w = .ok v w
def rsem (tmps : Array Value) : ResultVar → Sem Value
  | .tmp t => pure (tmps.getD t undef)
  | .cell b t => do loadVar t (← asAddr (tmps.getD b undef))
theorem RV.run {F : List (Nat × Value)} {h : View} {L : List Res} {x : ResultVar} {v : Value} {a : Act} {w : World} (hv : RV P F h L x v) (f : Fr n F a) (s : Hd h L w) : (rsem a.tmps x).run P w = .ok v w := by
  cases x with
  | tmp t =>
    have hv : lk F t = some v := hv
    simp [rsem, Array.getD_eq_getD_getElem?, f.get t v hv]
  | cell b t =>
    obtain ⟨ad, h1, h2⟩ := hv
    simp [rsem, Array.getD_eq_getD_getElem?, f.get b _ h1, asAddr, h2 w s]
theorem results_eq (fu : Func) (tmps : Array Value) : results fu tmps = (do
    let vs ← fu.results.mapM (rsem tmps)
    pure (if h : vs.size = 1 then vs[0] else .tuple vs)) := by
  unfold results
  congr 1

theorem nx_ret0 {fu : Func} {R : Ending → World → Prop} (hr : fu.results = #[]) (hp : ∀ w, St K h L w → R (.returned (.tuple #[])) w) : NX n K .ret F h L (bodyPost P fu R) :=
  fun a w f s => ⟨f.dfs, _, by simp [results, hr], hp w s⟩
theorem nx_ret1 {fu : Func} {R : Ending → World → Prop} {x : ResultVar} {v : Value} (hr : fu.results = #[x]) (hv : RV P F h L x v) (hp : ∀ w, St K h L w → R (.returned v) w) : NX n K .ret F h L (bodyPost P fu R) :=
  fun a w f s => by
    refine ⟨f.dfs, v, ?_, hp w s⟩
    rw [results_eq, hr]
    simp [RV.run hv f s.hd]
theorem nx_end0 {fu : Func} {R : Ending → World → Prop} (hr : fu.results = #[]) (hp : ∀ w, St K h L w → R (.returned (.tuple #[])) w) : NX n K .normal F h L (bodyPost P fu R) :=
  fun a w f s => ⟨f.dfs, _, by simp [results, hr], hp w s⟩
theorem nx_ret2 {fu : Func} {R : Ending → World → Prop} {x y : ResultVar} {v u : Value} (hr : fu.results = #[x, y]) (hv : RV P F h L x v) (hu : RV P F h L y u) (hp : ∀ w, St K h L w → R (.returned (.tuple #[v, u])) w) : NX n K .ret F h L (bodyPost P fu R) :=
  fun a w f s => by
    refine ⟨f.dfs, _, ?_, hp w s⟩
    rw [results_eq, hr]
    simp [RV.run hv f s.hd, RV.run hu f s.hd]
theorem nx_ret3 {fu : Func} {R : Ending → World → Prop} {x y z : ResultVar} {v u t : Value} (hr : fu.results = #[x, y, z]) (hv : RV P F h L x v) (hu : RV P F h L y u) (ht : RV P F h L z t) (hp : ∀ w, St K h L w → R (.returned (.tuple #[v, u, t])) w) : NX n K .ret F h L (bodyPost P fu R) :=
  fun a w f s => by
    refine ⟨f.dfs, _, ?_, hp w s⟩
    rw [results_eq, hr]
    simp [RV.run hv f s.hd, RV.run hu f s.hd, RV.run ht f s.hd]
theorem ych {c : Code} (hx : CX P n K c F h L Q) : CX P n K c F h L Q := hx
theorem yci {e : Exit} (hx : NX n K e F h L Q) : NX n K e F h L Q := hx
theorem ycf {g : Rg} {prs : List (Nat × Oper)} (hx : RX P n K g prs F h L Q) : RX P n K g prs F h L Q := hx
theorem cx_bpersist {c : Code} {b : Nat} {o : Obj} (hA : K.A = []) (hx : h b = none → CX P n K c F (addV h b o) L Q) : CX P n K c F h (Res.blk b o :: L) Q := by
  intro a w f s
  exact hx (s.dis b (by rw [doms_cons]; exact List.mem_append_left _ (List.mem_singleton.2 rfl))) a w f (s.persist hA)
theorem rx_bpersist {g : Rg} {prs : List (Nat × Oper)} {b : Nat} {o : Obj} (hA : K.A = []) (hx : h b = none → RX P n K g prs F (addV h b o) L Q) : RX P n K g prs F h (Res.blk b o :: L) Q := by
  intro a w f s
  exact hx (s.dis b (by rw [doms_cons]; exact List.mem_append_left _ (List.mem_singleton.2 rfl))) a w f (s.persist hA)
theorem cx_perm {c : Code} {L' : List Res} (hp : L.Perm L') (hx : CX P n K c F h L' Q) : CX P n K c F h L Q := fun a w f s => hx a w f (s.perm hp)
theorem rx_perm {g : Rg} {prs : List (Nat × Oper)} {L' : List Res} (hp : L.Perm L') (hx : RX P n K g prs F h L' Q) : RX P n K g prs F h L Q := fun a w f s => hx a w f (s.perm hp)
theorem QV.mk {o : Oper} {v : Value} (hx : ∀ a w, Fr n F a → Hd h L w → (execOp a.eval o).run P w = .ok (.value v) w) : QV P n F h L o v := hx
theorem MA.mk {o : Oper} {v : Nat → Value} {ob : Obj} (hx : ∀ a w, Fr n F a → Hd h L w → (execOp a.eval o).run P w = .ok (.value (v w.heap.size)) (w.alloc ob)) : MA P n F h L o v ob := hx
theorem WV.mk {o : Oper} {R : Value → World → Prop} (hx : ∀ a w, Fr n F a → St K h L w → ∃ v w', ((execOp a.eval o).run P w = .ok (.value v) w' ∨ (execOp a.eval o).run P w = .ok .skip w' ∧ v = undef) ∧ R v w') : WV P n K F h L o R := hx
theorem CallOf.mk {o : Oper} {fn : FuncId} {args : Array Value} (hx : ∀ a w, Fr n F a → (execOp a.eval o).run P w = .ok (.enter fn args) w) : CallOf P n F o fn args := hx
end
attribute [irreducible] CX NX RX QV MA WV CallOf
end Go.Ck
