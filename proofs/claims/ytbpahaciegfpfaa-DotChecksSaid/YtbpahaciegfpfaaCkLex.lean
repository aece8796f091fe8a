/-
  CkLex: a region that draws its order, walked in the order of the text. An operation is 'quiet' (in every world that meets S it yields one value and changes nothing) or 'loud' (carried out in the world at hand, S holds behind it, or the operation is a 'bar': it can be compared with every other one).
  Conditions: the Bool 'lexOk' holds of the region; the program follows mixed orders.
-/
import Derived.Orders
import Derived.Below
namespace Go.Ck
open Go
section
variable {P : Program} {ops : Array Oper} {S : World → Prop}

/-- nothing but a normal end -/
abbrev NoQ : Exit → Act → World → Prop := fun _ _ _ => False

theorem wp_any {o : Oper} {a : Act} {w : World} {K : Act → World → Prop} {Q : Exit → Act → World → Prop} (h : o.wp P a w K NoQ) : o.wp P a w K Q := by
  unfold Oper.wp at *
  generalize (execOp a.eval o).run P w = r at *
  cases r with
  | ok n w' =>
    cases n <;> simp only [Oper.upon] at h ⊢ <;>
      first
        | exact h
        | exact Calls.mono h (fun e w'' he => by
            cases e
            · exact he
            · exact he.elim
            · obtain ⟨_, _, he⟩ := he; exact he.elim)
  | halt x w' => cases x <;> simp only [Oper.upon] at h; exact h.elim

theorem wp_ex {o : Oper} {a : Act} {w : World} {K : Act → World → Prop} (h : o.wp P a w K NoQ) : ∃ a' w', K a' w' := by
  unfold Oper.wp at *
  generalize (execOp a.eval o).run P w = r at *
  cases r with
  | ok n w' =>
    cases n <;> simp only [Oper.upon] at h
    case value => exact ⟨_, _, h⟩
    case skip => exact ⟨_, _, h⟩
    case defer => exact ⟨_, _, h⟩
    case enter f args =>
      obtain ⟨e, w', fr, r, _⟩ := h []
      cases e with
      | returned v => exact ⟨_, _, r⟩
      | panicked c => exact r.elim
      | outgrown => obtain ⟨_, _, r⟩ := r; exact r.elim
    case row row args =>
      obtain ⟨v, w', r, _⟩ := h default []
      exact ⟨_, _, r⟩
  | halt x w' => cases x <;> simp only [Oper.upon] at h; exact h.elim

/-- what an operation may do to the frame -/
theorem wp_tag {o : Oper} {a : Act} {w : World} {K : Act → World → Prop} (h : o.wp P a w K NoQ) :
    o.wp P a w (fun a' w' => K a' w' ∧ ∃ ds v, a' = (Act.mk a.tmps ds).put o.dst v) NoQ := by
  unfold Oper.wp at *
  generalize (execOp a.eval o).run P w = r at *
  cases r with
  | ok n w' =>
    cases n <;> simp only [Oper.upon] at h ⊢
    case value v => exact ⟨h, a.defers, v, rfl⟩
    case skip => exact ⟨h, a.defers, undef, rfl⟩
    case defer d => exact ⟨h, d :: a.defers, undef, rfl⟩
    case enter f args =>
      exact Calls.mono h fun e w'' he => by
        cases e with
        | returned v => exact ⟨he, a.defers, v, rfl⟩
        | panicked c => exact he
        | outgrown => obtain ⟨_, _, he⟩ := he; exact he.elim
    case row row args => exact Rows.mono h fun v w'' he => ⟨he, a.defers, v, rfl⟩
  | halt x w' => cases x <;> simp only [Oper.upon] at h; exact h.elim

theorem put_comm' (a : Act) {x d : Option Tmp} (v u : Value) (h : ∀ t, d = some t → x ≠ some t) : (a.put d u).put x v = (a.put x v).put d u :=
  Act.put_comm a u v (fun t ht => h t ht)

theorem wp_put {o : Oper} {a : Act} {w : World} {K : Act → World → Prop} {d : Option Tmp} {u : Value} (hs : ∀ cs b, o.op ≠ .select cs b)
    (h1 : ∀ t, d = some t → t ∉ o.looksAt ops) (h2 : ∀ t, d = some t → o.dst ≠ some t) :
    o.wp P (a.put d u) w K NoQ ↔ o.wp P a w (fun a' w' => K (a'.put d u) w') NoQ := by
  unfold Oper.wp
  rw [execOp_put o hs a d u h1]
  have hc : ∀ (ds : List Deferred) v, ({ a.put d u with defers := ds } : Act).put o.dst v = (({ a with defers := ds } : Act).put o.dst v).put d u := fun ds v => by
    rw [← put_comm' _ v u h2]
    cases d <;> rfl
  have hv : ∀ v, (a.put d u).put o.dst v = (a.put o.dst v).put d u := fun v => put_comm' a v u h2
  have hdf : (a.put d u).defers = a.defers := by cases d <;> rfl
  generalize (execOp a.eval o).run P w = r
  cases r with
  | ok n w' =>
    cases n <;> simp only [Oper.upon, hv]
    case defer x => rw [← hc]; simp only [hdf]
  | halt x w' => cases x <;> simp only [Oper.upon]

/-- One operation comes up. -/
def R1 (P : Program) (ops : Array Oper) (S : World → Prop) (lo bar : Bool) (o : Oper) (K : Act → World → Prop) (a : Act) (w : World) : Prop :=
  (Region.wanted o (yielded ops a.tmps) = false ∧ K (a.put o.dst undef) w) ∨
  (Region.wanted o (yielded ops a.tmps) = true ∧ S w ∧ ∃ v, (∀ w', S w' → (execOp a.eval o).run P w' = .ok (.value v) w') ∧ K (a.put o.dst v) w) ∨
  (Region.wanted o (yielded ops a.tmps) = true ∧ lo = true ∧ (S w ∨ bar = true) ∧ o.wp P a w (fun a' w' => (S w' ∨ bar = true) ∧ K a' w') NoQ)

def wpX (P : Program) (ops : Array Oper) (S : World → Prop) (lo bar : Nat → Bool) (Q : Act → World → Prop) : List (Nat × Oper) → Act → World → Prop
  | [], a, w => Q a w
  | (i, o) :: r, a, w => R1 P ops S (lo i) (bar i) o (wpX P ops S lo bar Q r) a w

theorem R1.mono {lo bar : Bool} {o : Oper} {K K' : Act → World → Prop} {a : Act} {w : World} (hk : ∀ a w, K a w → K' a w) (h : R1 P ops S lo bar o K a w) : R1 P ops S lo bar o K' a w := by
  rcases h with ⟨h0, h1⟩ | ⟨h0, h1, v, h2, h3⟩ | ⟨h0, h1, h2, h3⟩
  · exact .inl ⟨h0, hk _ _ h1⟩
  · exact .inr (.inl ⟨h0, h1, v, h2, hk _ _ h3⟩)
  · exact .inr (.inr ⟨h0, h1, h2, Oper.wp_mono (fun a w h => ⟨h.1, hk _ _ h.2⟩) h3⟩)

theorem R1.op {lo bar : Bool} {i : Nat} {o : Oper} {K : Act → World → Prop} {Q : Exit → Act → World → Prop} {a : Act} {w : World} (hi : ops[i]? = some o) (h : R1 P ops S lo bar o K a w) : wpOp P ops Q i K a w := by
  unfold wpOp
  simp only [hi]
  rcases h with ⟨h0, h1⟩ | ⟨h0, h1, v, h2, h3⟩ | ⟨h0, h1, h2, h3⟩
  · simp only [h0]; exact h1
  · simp only [h0, if_true]
    exact .inl (by unfold Oper.wp; rw [h2 w h1]; exact h3)
  · simp only [h0, if_true]
    exact .inl (wp_any (Oper.wp_mono (fun a w h => h.2) h3))

theorem swap {loi loj bari barj : Bool} {oi oj : Oper} (hap : oj.apart ops oi = true) (hsi : ∀ cs b, oi.op ≠ .select cs b) (hsj : ∀ cs b, oj.op ≠ .select cs b)
    (hlo : (loi && loj) = false) (hbi : bari = false) (hbj : barj = false) {K : Act → World → Prop} {a : Act} {w : World}
    (h : R1 P ops S loj barj oj (fun a w => R1 P ops S loi bari oi K a w) a w) : R1 P ops S loi bari oi (fun a w => R1 P ops S loj barj oj K a w) a w := by
  subst hbi hbj
  obtain ⟨h1, h2, h3⟩ := Oper.apart_spec hap
  have h2' : ∀ d, oi.dst = some d → oj.dst ≠ some d := fun d hd hj => h2 d hj hd
  have wi : ∀ (a : Act) u, Region.wanted oi (yielded ops (a.put oj.dst u).tmps) = Region.wanted oi (yielded ops a.tmps) := fun a u => wanted_put oi a oj.dst u h1
  have wj : ∀ (a : Act) u, Region.wanted oj (yielded ops (a.put oi.dst u).tmps) = Region.wanted oj (yielded ops a.tmps) := fun a u => wanted_put oj a oi.dst u h3
  have ei : ∀ (a : Act) u, execOp (a.put oj.dst u).eval oi = execOp a.eval oi := fun a u => execOp_put oi hsi a oj.dst u h1
  have ej : ∀ (a : Act) u, execOp (a.put oi.dst u).eval oj = execOp a.eval oj := fun a u => execOp_put oj hsj a oi.dst u h3
  have cm : ∀ (a : Act) u v, (a.put oj.dst u).put oi.dst v = (a.put oi.dst v).put oj.dst u := fun a u v => put_comm' a v u h2
  -- j leaves the frame as (a with defers).put
  rcases h with ⟨g0, g1⟩ | ⟨g0, g1, u, g2, g3⟩ | ⟨g0, g1, g2, g3⟩
  · rcases g1 with ⟨k0, k1⟩ | ⟨k0, k1, v, k2, k3⟩ | ⟨k0, k1, k2, k3⟩
    · rw [wi] at k0
      exact .inl ⟨k0, .inl ⟨by rw [wj]; exact g0, by rw [← cm]; exact k1⟩⟩
    · rw [wi] at k0; rw [ei] at k2
      exact .inr (.inl ⟨k0, k1, v, k2, .inl ⟨by rw [wj]; exact g0, by rw [← cm]; exact k3⟩⟩)
    · rw [wi] at k0
      refine .inr (.inr ⟨k0, k1, k2, ?_⟩)
      rw [wp_put (ops := ops) hsi h1 (fun t ht => h2 t ht)] at k3
      refine Oper.wp_mono (fun a' w' hh => ?_) (wp_tag k3)
      obtain ⟨⟨hS, hK⟩, ds, v, rfl⟩ := hh
      exact ⟨hS, .inl ⟨by rw [wj]; exact g0, hK⟩⟩
  · rcases g3 with ⟨k0, k1⟩ | ⟨k0, k1, v, k2, k3⟩ | ⟨k0, k1, k2, k3⟩
    · rw [wi] at k0
      exact .inl ⟨k0, .inr (.inl ⟨by rw [wj]; exact g0, g1, u, by rw [ej]; exact g2, by rw [← cm]; exact k1⟩)⟩
    · rw [wi] at k0; rw [ei] at k2
      exact .inr (.inl ⟨k0, k1, v, k2, .inr (.inl ⟨by rw [wj]; exact g0, g1, u, by rw [ej]; exact g2, by rw [← cm]; exact k3⟩)⟩)
    · rw [wi] at k0
      refine .inr (.inr ⟨k0, k1, k2, ?_⟩)
      rw [wp_put (ops := ops) hsi h1 (fun t ht => h2 t ht)] at k3
      refine Oper.wp_mono (fun a' w' hh => ?_) (wp_tag k3)
      obtain ⟨⟨hS, hK⟩, ds, v, rfl⟩ := hh
      have hS' : S w' := hS.resolve_right (by simp)
      refine ⟨hS, .inr (.inl ⟨by rw [wj]; exact g0, hS', u, ?_, hK⟩)⟩
      rw [ej]; exact g2
  · have hli : loi = false := by cases loi <;> simp_all
    have hSw : S w := g2.resolve_right (by simp)
    have tg := wp_tag g3
    by_cases k0 : Region.wanted oi (yielded ops a.tmps) = true
    · -- one value, in every outcome
      obtain ⟨a1, w1, ⟨⟨hS1, hR1⟩, ds, u1, rfl⟩⟩ := wp_ex tg
      have hS1 : S w1 := hS1.resolve_right (by simp)
      have hw1 : Region.wanted oi (yielded ops ((Act.mk a.tmps ds).put oj.dst u1).tmps) = true := by rw [wi]; exact k0
      rcases hR1 with ⟨q0, _⟩ | ⟨_, _, v, q2, _⟩ | ⟨_, q1, _⟩
      · rw [hw1] at q0; cases q0
      · have hev : execOp (Act.mk a.tmps ds).eval oi = execOp a.eval oi := rfl
        rw [ei, hev] at q2
        refine .inr (.inl ⟨k0, hSw, v, q2, .inr (.inr ⟨by rw [wj]; exact g0, g1, g2, ?_⟩)⟩)
        rw [wp_put (ops := ops) hsj h3 (fun t ht => h2' t ht)]
        refine Oper.wp_mono (fun a' w' hh => ?_) tg
        obtain ⟨⟨hS, hR⟩, ds', u', rfl⟩ := hh
        refine ⟨hS, ?_⟩
        have hw2 : Region.wanted oi (yielded ops ((Act.mk a.tmps ds').put oj.dst u').tmps) = true := by rw [wi]; exact k0
        rcases hR with ⟨q0, _⟩ | ⟨_, _, v', q2', q3'⟩ | ⟨_, q1, _⟩
        · rw [hw2] at q0; cases q0
        · have hev' : execOp (Act.mk a.tmps ds').eval oi = execOp a.eval oi := rfl
          rw [ei, hev'] at q2'
          have : v' = v := by
            have e1 := q2' w1 hS1
            rw [q2 w1 hS1] at e1
            cases e1; rfl
          subst this
          exact q3'
        · rw [hli] at q1; cases q1
      · rw [hli] at q1; cases q1
    · have k0 : Region.wanted oi (yielded ops a.tmps) = false := by simpa using k0
      refine .inl ⟨k0, .inr (.inr ⟨by rw [wj]; exact g0, g1, g2, ?_⟩)⟩
      rw [wp_put (ops := ops) hsj h3 (fun t ht => h2' t ht)]
      refine Oper.wp_mono (fun a' w' hh => ?_) tg
      obtain ⟨⟨hS, hR⟩, ds', u', rfl⟩ := hh
      refine ⟨hS, ?_⟩
      have hw2 : Region.wanted oi (yielded ops ((Act.mk a.tmps ds').put oj.dst u').tmps) = false := by rw [wi]; exact k0
      rcases hR with ⟨_, q1⟩ | ⟨q0, _⟩ | ⟨q0, _⟩
      · exact q1
      · rw [hw2] at q0; cases q0
      · rw [hw2] at q0; cases q0

/-! ### the check -/
def maskAt (ms : List Nat) (o : Oper) : Nat :=
  o.after.toList.foldl (fun s e => if Region.binds .any e then s ||| 2 ^ e.on ||| ms.getD e.on 0 else s) 0
def masksFrom : List Oper → List Nat → List Nat
  | [], ms => ms
  | o :: r, ms => masksFrom r (ms ++ [maskAt ms o])
def masks (ops : Array Oper) : List Nat := masksFrom ops.toList []
def barAt (n : Nat) (ms : List Nat) (i : Nat) : Bool :=
  (List.range n).all fun j => if j < i then (ms.getD i 0).testBit j else if i < j then (ms.getD j 0).testBit i else true
def loudKind : Op → Bool
  | .move _ | .pick .. | .load .. | .binOp .. | .unOp .. | .fieldAddr .. | .field .. | .indexAddr .. | .index .. | .extract .. | .nilCheck _ | .slice .. | .makeFunc .. => false
  | .call { callee := .builtin .len, .. } => false
  | .convert .. => false
  | .lookup .. => false
  | _ => true
def barOf (ops : Array Oper) : Nat → Bool := barAt ops.size (masks ops)
def loOf (ops : Array Oper) (i : Nat) : Bool := (match ops[i]? with | some o => loudKind o.op | none => false) || barOf ops i
def maskOk (ops : Array Oper) (ms : List Nat) : Bool :=
  (List.range ops.size).all fun i => match ops[i]? with
    | some o => ms.getD i 0 == maskAt ms o && o.after.toList.all fun e => !Region.binds .any e || decide (e.on < i)
    | none => true
def pairOk (ops : Array Oper) (ms : List Nat) (lo bar : Nat → Bool) (j i : Nat) : Bool :=
  (ms.getD i 0).testBit j || match ops[j]?, ops[i]? with
    | some oj, some oi => oj.apart ops oi && !(lo i && lo j) && !bar i && !bar j
    | _, _ => true
def lexOkAt (ops : Array Oper) (ms : List Nat) (lo bar : Nat → Bool) : Bool :=
  maskOk ops ms && Region.noSelect ops && (List.range ops.size).all fun i => (List.range i).all fun j => pairOk ops ms lo bar j i

theorem maskAt_bit {ms : List Nat} {o : Oper} {j : Nat} (h : (maskAt ms o).testBit j = true) : ∃ e ∈ o.after, Region.binds .any e = true ∧ (e.on = j ∨ (ms.getD e.on 0).testBit j = true) := by
  unfold maskAt at h
  have key : ∀ (l : List Edge) (s : Nat), (l.foldl (fun s e => if Region.binds .any e then s ||| 2 ^ e.on ||| ms.getD e.on 0 else s) s).testBit j = true →
      s.testBit j = true ∨ ∃ e ∈ l, Region.binds .any e = true ∧ (e.on = j ∨ (ms.getD e.on 0).testBit j = true) := by
    intro l
    induction l with
    | nil => intro s h; exact .inl h
    | cons e l ih =>
      intro s h
      simp only [List.foldl_cons] at h
      rcases ih _ h with h | ⟨e', he', hb⟩
      · by_cases hb : Region.binds .any e = true
        · simp only [hb, if_true, Nat.testBit_or, Bool.or_eq_true, Nat.testBit_two_pow] at h
          rcases h with (h | h) | h
          · exact .inl h
          · exact .inr ⟨e, List.mem_cons_self .., hb, .inl (by simpa using h)⟩
          · exact .inr ⟨e, List.mem_cons_self .., hb, .inr h⟩
        · simp only [hb] at h
          exact .inl h
      · exact .inr ⟨e', List.mem_cons_of_mem _ he', hb⟩
  rcases key _ _ h with h | ⟨e, he, hb⟩
  · simp at h
  · exact ⟨e, Array.mem_toList_iff.1 he, hb⟩

theorem maskOk_spec {ms : List Nat} (h : maskOk ops ms = true) {i : Nat} {o : Oper} (hi : ops[i]? = some o) :
    ms.getD i 0 = maskAt ms o ∧ ∀ e ∈ o.after, Region.binds .any e = true → e.on < i := by
  have hlt : i < ops.size := (Array.getElem?_eq_some_iff.1 hi).1
  have h1 := List.all_eq_true.1 h i (List.mem_range.2 hlt)
  simp only [hi, Bool.and_eq_true, beq_iff_eq] at h1
  refine ⟨h1.1, fun e he hb => ?_⟩
  have h2 := List.all_eq_true.1 h1.2 e (Array.mem_toList_iff.2 he)
  simpa [hb] using h2

theorem mask_listed {ms : List Nat} (hm : maskOk ops ms = true) {listed : Array Bool}
    (hc : ∀ i o, ops[i]? = some o → listed.getD i false = true → ∀ e ∈ o.after, Region.binds .any e = true → listed.getD e.on false = true) :
    ∀ (i : Nat) (o : Oper), ops[i]? = some o → (∀ e ∈ o.after, Region.binds .any e = true → listed.getD e.on false = true) → ∀ j, (ms.getD i 0).testBit j = true → listed.getD j false = true := by
  intro i
  induction i using Nat.strongRecOn with
  | _ i ih =>
    intro o ho hr j hj
    obtain ⟨e1, e2⟩ := maskOk_spec hm ho
    rw [e1] at hj
    obtain ⟨e, he, hb, hh⟩ := maskAt_bit hj
    have hl := hr e he hb
    rcases hh with hh | hh
    · rw [← hh]; exact hl
    · cases hoe : ops[e.on]? with
      | some oe => exact ih e.on (e2 e he hb) oe hoe (hc e.on oe hoe hl) j hh
      | none =>
        have hge : ops.size ≤ e.on := by
          rcases Nat.lt_or_ge e.on ops.size with h' | h'
          · simp [h'] at hoe
          · exact h'
        have := e2 e he hb
        have hlt : i < ops.size := (Array.getElem?_eq_some_iff.1 ho).1
        omega

structure Inv (ops : Array Oper) (listed : Array Bool) (prs : List (Nat × Oper)) : Prop where
  pr : ∀ p ∈ prs, ops[p.1]? = some p.2
  sorted : prs.Pairwise (fun p q => p.1 < q.1)
  left : ∀ i, i < ops.size → (listed.getD i true = false ↔ ∃ o, (i, o) ∈ prs)
  closed : ∀ i o, ops[i]? = some o → listed.getD i false = true → ∀ e ∈ o.after, Region.binds .any e = true → listed.getD e.on false = true
  size : listed.size = ops.size

theorem getD_tf {listed : Array Bool} {i : Nat} (hi : i < listed.size) : listed.getD i true = listed.getD i false := by simp [hi]

theorem Inv.step {listed : Array Bool} {l1 l2 : List (Nat × Oper)} {i : Nat} {o : Oper} (inv : Inv ops listed (l1 ++ (i, o) :: l2)) (hr : i ∈ Region.ready .any ops listed) :
    Inv ops (listed.setIfInBounds i true) (l1 ++ l2) := by
  have hio : ops[i]? = some o := inv.pr (i, o) (by simp)
  have hlt : i < ops.size := (Array.getElem?_eq_some_iff.1 hio).1
  obtain ⟨hun, o', ho', hall⟩ := mem_ready.1 hr
  have hoo : o' = o := by rw [hio] at ho'; cases ho'; rfl
  subst hoo
  refine ⟨fun p hp => inv.pr p ?_, ?_, fun k hk => ?_, fun k ok hok hl e he hb => ?_, by simp [inv.size]⟩
  · rcases List.mem_append.1 hp with hp | hp
    · exact List.mem_append_left _ hp
    · exact List.mem_append_right _ (List.mem_cons_of_mem _ hp)
  · exact inv.sorted.sublist (List.Sublist.append_left (List.sublist_cons_self _ _) _)
  · by_cases hki : i = k
    · subst hki
      have : (listed.setIfInBounds i true).getD i true = true := by simp [inv.size, hlt]
      rw [this]
      simp only [Bool.true_eq_false, false_iff, not_exists]
      intro o2 hm
      have hs := inv.sorted
      rw [List.pairwise_append] at hs
      obtain ⟨_, s2, s3⟩ := hs
      rcases List.mem_append.1 hm with hm | hm
      · have := s3 _ hm (i, o') (List.mem_cons_self ..)
        simp at this
      · have := (List.pairwise_cons.1 s2).1 _ hm
        simp at this
    · rw [getD_set_ne true hki, inv.left k hk]
      constructor
      · rintro ⟨o2, hm⟩
        refine ⟨o2, ?_⟩
        rcases List.mem_append.1 hm with hm | hm
        · exact List.mem_append_left _ hm
        · rcases List.mem_cons.1 hm with hm | hm
          · cases hm; exact absurd rfl hki
          · exact List.mem_append_right _ hm
      · rintro ⟨o2, hm⟩
        refine ⟨o2, ?_⟩
        rcases List.mem_append.1 hm with hm | hm
        · exact List.mem_append_left _ hm
        · exact List.mem_append_right _ (List.mem_cons_of_mem _ hm)
  · by_cases hki : i = k
    · subst hki
      have : ok = o' := by rw [hio] at hok; cases hok; rfl
      subst this
      exact getD_set_true (hall e he hb)
    · rw [getD_set_ne false hki] at hl
      exact getD_set_true (inv.closed k ok hok hl e he hb)

theorem bring {lo bar : Nat → Bool} {Q : Act → World → Prop} {i : Nat} {o : Oper} (l2 : List (Nat × Oper)) : ∀ (l1 : List (Nat × Oper)),
    (∀ p ∈ l1, p.2.apart ops o = true ∧ (lo i && lo p.1) = false ∧ bar i = false ∧ bar p.1 = false ∧ (∀ cs b, o.op ≠ .select cs b) ∧ (∀ cs b, p.2.op ≠ .select cs b)) →
    ∀ a w, wpX P ops S lo bar Q (l1 ++ (i, o) :: l2) a w → R1 P ops S (lo i) (bar i) o (wpX P ops S lo bar Q (l1 ++ l2)) a w
  | [], _, a, w, h => h
  | (j, oj) :: l1, hp, a, w, h => by
    obtain ⟨e1, e2, e3, e4, e5, e6⟩ := hp (j, oj) (List.mem_cons_self ..)
    exact swap e1 e5 e6 e2 e3 e4 (R1.mono (fun a w h => bring l2 l1 (fun p hm => hp p (List.mem_cons_of_mem _ hm)) a w h) h)

theorem lex_any {lo bar : Nat → Bool} {ms : List Nat} {Q : Exit → Act → World → Prop} (hB : lexOkAt ops ms lo bar = true) :
    ∀ (fuel : Nat) (prs : List (Nat × Oper)) (listed : Array Bool) (a : Act) (w : World), prs.length ≤ fuel → Inv ops listed prs →
      wpX P ops S lo bar (Q .normal) prs a w → wpAny P .any ops Q fuel listed a w := by
  simp only [lexOkAt, Bool.and_eq_true] at hB
  obtain ⟨⟨hm, hsel⟩, hpair⟩ := hB
  have head : ∀ (prs : List (Nat × Oper)) (listed : Array Bool), Inv ops listed prs → Region.ready .any ops listed = [] → prs = [] := by
    intro prs listed inv hr
    cases prs with
    | nil => rfl
    | cons p r =>
      obtain ⟨i, o⟩ := p
      have hio : ops[i]? = some o := inv.pr (i, o) (List.mem_cons_self ..)
      have hlt : i < ops.size := (Array.getElem?_eq_some_iff.1 hio).1
      have : i ∈ Region.ready .any ops listed := by
        refine mem_ready.2 ⟨(inv.left i hlt).2 ⟨o, List.mem_cons_self ..⟩, o, hio, fun e he hb => ?_⟩
        have hei := (maskOk_spec hm hio).2 e he hb
        have hel : e.on < ops.size := by omega
        rw [← getD_tf (by rw [inv.size]; exact hel)]
        cases hg : listed.getD e.on true with
        | true => rfl
        | false =>
          obtain ⟨o2, hm2⟩ := (inv.left _ hel).1 hg
          rcases List.mem_cons.1 hm2 with hm2 | hm2
          · cases hm2; omega
          · have h9 : i < e.on := (List.pairwise_cons.1 inv.sorted).1 _ hm2
            omega
      rw [hr] at this
      cases this
  intro fuel
  induction fuel with
  | zero =>
    intro prs listed a w hl inv h
    have : prs = [] := List.eq_nil_of_length_eq_zero (by omega)
    subst this
    refine ⟨?_, h⟩
    cases hr : Region.ready .any ops listed with
    | nil => rfl
    | cons i r =>
      have hi : i ∈ Region.ready .any ops listed := by rw [hr]; exact List.mem_cons_self ..
      obtain ⟨hun, o, ho, _⟩ := mem_ready.1 hi
      obtain ⟨_, hm2⟩ := (inv.left i (Array.getElem?_eq_some_iff.1 ho).1).1 hun
      cases hm2
  | succ fuel ih =>
    intro prs listed a w hl inv h
    refine ⟨fun hr => by rw [head prs listed inv hr] at h; exact h, fun i hi => ?_⟩
    obtain ⟨hun, o, ho, hall⟩ := mem_ready.1 hi
    have hlt := (Array.getElem?_eq_some_iff.1 ho).1
    obtain ⟨o', hm2⟩ := (inv.left i hlt).1 hun
    have : o' = o := by have := inv.pr _ hm2; rw [ho] at this; cases this; rfl
    subst this
    obtain ⟨l1, l2, rfl⟩ := List.append_of_mem hm2
    have hb := bring (P := P) (S := S) (lo := lo) (bar := bar) (Q := Q .normal) (i := i) (o := o') l2 l1 (fun p hp => ?_) a w h
    · refine (R1.mono (fun a' w' h' => ih (l1 ++ l2) (listed.setIfInBounds i true) a' w' (by simp at hl ⊢; omega) (inv.step hi) h') hb).op ho
    · have hs := inv.sorted
      rw [List.pairwise_append] at hs
      have hpi : p.1 < i := hs.2.2 p hp (i, o') (List.mem_cons_self ..)
      have hpo : ops[p.1]? = some p.2 := inv.pr p (List.mem_append_left _ hp)
      have hpair' := List.all_eq_true.1 (List.all_eq_true.1 hpair i (List.mem_range.2 hlt)) p.1 (List.mem_range.2 hpi)
      unfold pairOk at hpair'
      simp only [hpo, ho, Bool.or_eq_true, Bool.and_eq_true, Bool.not_eq_true'] at hpair'
      rcases hpair' with hp1 | ⟨⟨⟨q1, q2⟩, q3⟩, q4⟩
      · exfalso
        have hlj := mask_listed hm inv.closed i o' ho hall p.1 hp1
        have hpl : p.1 < ops.size := by omega
        have := (inv.left p.1 hpl).2 ⟨p.2, List.mem_append_left _ hp⟩
        rw [getD_tf (by rw [inv.size]; exact hpl)] at this
        rw [this] at hlj
        cases hlj
      · exact ⟨q1, q2, q3, q4, fun cs b => Region.noSelect_spec hsel i o' cs b ho, fun cs b => Region.noSelect_spec hsel p.1 p.2 cs b hpo⟩

def enumFrom : Nat → List Oper → List (Nat × Oper)
  | _, [] => []
  | k, o :: r => (k, o) :: enumFrom (k + 1) r

theorem enumFrom_mem : ∀ (l : List Oper) (k : Nat) (p : Nat × Oper), p ∈ enumFrom k l ↔ ∃ j, l[j]? = some p.2 ∧ p.1 = k + j
  | [], k, p => by simp [enumFrom]
  | o :: l, k, p => by
    simp only [enumFrom, List.mem_cons, enumFrom_mem l (k + 1) p]
    constructor
    · rintro (rfl | ⟨j, h1, h2⟩)
      · exact ⟨0, rfl, rfl⟩
      · exact ⟨j + 1, by simpa using h1, by omega⟩
    · rintro ⟨j, h1, h2⟩
      cases j with
      | zero =>
        refine .inl ?_
        simp at h1
        obtain ⟨a, b⟩ := p
        simp_all
      | succ j => exact .inr ⟨j, by simpa using h1, by omega⟩

theorem enumFrom_length : ∀ (l : List Oper) (k : Nat), (enumFrom k l).length = l.length
  | [], _ => rfl
  | _ :: l, k => by simp [enumFrom, enumFrom_length l]

theorem enumFrom_sorted : ∀ (l : List Oper) (k : Nat), (enumFrom k l).Pairwise (fun p q => p.1 < q.1)
  | [], _ => List.Pairwise.nil
  | o :: l, k => by
    refine List.Pairwise.cons (fun p hp => ?_) (enumFrom_sorted l (k + 1))
    obtain ⟨j, _, h2⟩ := (enumFrom_mem l (k + 1) p).1 hp
    show k < p.1
    omega

/-- **ONE WALK IN THE ORDER OF THE TEXT.** -/
theorem wp_region_lex {id : Nat} {Q : Exit → Act → World → Prop} {a : Act} {w : World} (hm : P.follows .mixedOrders = true)
    (hB : lexOkAt ops (masks ops) (loOf ops) (barOf ops) = true)
    (h : wpX P ops S (loOf ops) (barOf ops) (Q .normal) (enumFrom 0 ops.toList) a w.drew) : (Code.region id ops true).wp P Q a w := by
  refine wp_region_any hm (lex_any hB _ (enumFrom 0 ops.toList) _ a _ (by simp [enumFrom_length]) ⟨?_, ?_, ?_, ?_, ?_⟩ h)
  · intro p hp
    obtain ⟨j, h1, h2⟩ := (enumFrom_mem _ _ _).1 hp
    have : p.1 = j := by omega
    rw [this]; simpa using h1
  · exact enumFrom_sorted _ _
  · intro i hi
    simp only [Array.getD_eq_getD_getElem?, Array.getElem?_replicate, hi, if_true, Option.getD_some, true_iff]
    exact ⟨ops[i], (enumFrom_mem _ _ _).2 ⟨i, by simp [hi], by simp⟩⟩
  · intro i o ho hl
    simp only [Array.getD_eq_getD_getElem?, Array.getElem?_replicate] at hl
    split at hl <;> simp at hl
  · simp

/-- The same steps serve a region that draws nothing. -/
theorem seq_ops {Q : Exit → Act → World → Prop} : ∀ (l : List Oper) (k : Nat) (a : Act) (w : World), (∀ j, l[j]? = ops[k + j]?) →
    wpX P ops (fun _ => True) (fun _ => true) (fun _ => false) (Q .normal) (enumFrom k l) a w → wpOps P ops Q (List.range' k l.length) a w
  | [], _, a, w, _, h => h
  | o :: l, k, a, w, hl, h => by
    have h0 : ops[k]? = some o := by simpa using (hl 0).symm
    simp only [List.length_cons, List.range'_succ, wpOps_cons]
    refine (R1.mono (fun a w h => seq_ops l (k + 1) a w (fun j => by have := hl (j + 1); simpa [Nat.add_assoc, Nat.add_comm 1 j] using this) h) h).op h0

theorem wp_region_seq {id : Nat} {Q : Exit → Act → World → Prop} {a : Act} {w : World}
    (h : wpX P ops (fun _ => True) (fun _ => true) (fun _ => false) (Q .normal) (enumFrom 0 ops.toList) a w) : (Code.region id ops false).wp P Q a w := by
  refine wp_region ?_
  have := seq_ops (Q := Q) ops.toList 0 a w (by simp) h
  rw [List.range_eq_range']
  simpa using this
end
end Go.Ck
