/-
  Part 0 of a proof: CkLex CkBase.
  Conditions: each theorem states its own.
-/
import Derived.Orders
import Derived.Below
import Derived.Laws.AppendOwn
import Derived.Tactics
set_option maxRecDepth 100000
set_option linter.unusedVariables false
set_option linter.unusedSimpArgs false
section
namespace Go.Ck
open Go
section
variable {P : Program} {ops : Array Oper} {S : World → Prop}
abbrev NoQ : Exit → Act → World → Prop := fun _ _ _ => False
theorem wp_any {o : Oper} {a : Act} {w : World} {K : Act → World → Prop} {Q : Exit → Act → World → Prop} (h : o.wp P a w K NoQ) : o.wp P a w K Q := by
  unfold Oper.wp at *
  generalize (execOp a.eval o).run P w = r at *
  cases r with
  | ok n w' =>
    cases n <;> simp only [Oper.upon] at h ⊢ <;>
      first
        | exact h
        | exact Calls.mono h (fun e w'' he => by
            cases e
            · exact he
            · exact he.elim
            · obtain ⟨_, _, he⟩ := he; exact he.elim)
  | halt x w' => cases x <;> simp only [Oper.upon] at h; exact h.elim
theorem wp_ex {o : Oper} {a : Act} {w : World} {K : Act → World → Prop} (h : o.wp P a w K NoQ) : ∃ a' w', K a' w' := by
  unfold Oper.wp at *
  generalize (execOp a.eval o).run P w = r at *
  cases r with
  | ok n w' =>
    cases n <;> simp only [Oper.upon] at h
    case value => exact ⟨_, _, h⟩
    case skip => exact ⟨_, _, h⟩
    case defer => exact ⟨_, _, h⟩
    case enter f args =>
      obtain ⟨e, w', fr, r, _⟩ := h []
      cases e with
      | returned v => exact ⟨_, _, r⟩
      | panicked c => exact r.elim
      | outgrown => obtain ⟨_, _, r⟩ := r; exact r.elim
    case row row args =>
      obtain ⟨v, w', r, _⟩ := h default []
      exact ⟨_, _, r⟩
  | halt x w' => cases x <;> simp only [Oper.upon] at h; exact h.elim
theorem wp_tag {o : Oper} {a : Act} {w : World} {K : Act → World → Prop} (h : o.wp P a w K NoQ) :
    o.wp P a w (fun a' w' => K a' w' ∧ ∃ ds v, a' = (Act.mk a.tmps ds).put o.dst v) NoQ := by
  unfold Oper.wp at *
  generalize (execOp a.eval o).run P w = r at *
  cases r with
  | ok n w' =>
    cases n <;> simp only [Oper.upon] at h ⊢
    case value v => exact ⟨h, a.defers, v, rfl⟩
    case skip => exact ⟨h, a.defers, undef, rfl⟩
    case defer d => exact ⟨h, d :: a.defers, undef, rfl⟩
    case enter f args =>
      exact Calls.mono h fun e w'' he => by
        cases e with
        | returned v => exact ⟨he, a.defers, v, rfl⟩
        | panicked c => exact he
        | outgrown => obtain ⟨_, _, he⟩ := he; exact he.elim
    case row row args => exact Rows.mono h fun v w'' he => ⟨he, a.defers, v, rfl⟩
  | halt x w' => cases x <;> simp only [Oper.upon] at h; exact h.elim
theorem put_comm' (a : Act) {x d : Option Tmp} (v u : Value) (h : ∀ t, d = some t → x ≠ some t) : (a.put d u).put x v = (a.put x v).put d u :=
  Act.put_comm a u v (fun t ht => h t ht)
theorem wp_put {o : Oper} {a : Act} {w : World} {K : Act → World → Prop} {d : Option Tmp} {u : Value} (hs : ∀ cs b, o.op ≠ .select cs b)
    (h1 : ∀ t, d = some t → t ∉ o.looksAt ops) (h2 : ∀ t, d = some t → o.dst ≠ some t) :
    o.wp P (a.put d u) w K NoQ ↔ o.wp P a w (fun a' w' => K (a'.put d u) w') NoQ := by
  unfold Oper.wp
  rw [execOp_put o hs a d u h1]
  have hc : ∀ (ds : List Deferred) v, ({ a.put d u with defers := ds } : Act).put o.dst v = (({ a with defers := ds } : Act).put o.dst v).put d u := fun ds v => by
    rw [← put_comm' _ v u h2]
    cases d <;> rfl
  have hv : ∀ v, (a.put d u).put o.dst v = (a.put o.dst v).put d u := fun v => put_comm' a v u h2
  have hdf : (a.put d u).defers = a.defers := by cases d <;> rfl
  generalize (execOp a.eval o).run P w = r
  cases r with
  | ok n w' =>
    cases n <;> simp only [Oper.upon, hv]
    case defer x => rw [← hc]; simp only [hdf]
  | halt x w' => cases x <;> simp only [Oper.upon]
def R1 (P : Program) (ops : Array Oper) (S : World → Prop) (lo bar : Bool) (o : Oper) (K : Act → World → Prop) (a : Act) (w : World) : Prop :=
  (Region.wanted o (yielded ops a.tmps) = false ∧ K (a.put o.dst undef) w) ∨
  (Region.wanted o (yielded ops a.tmps) = true ∧ S w ∧ ∃ v, (∀ w', S w' → (execOp a.eval o).run P w' = .ok (.value v) w') ∧ K (a.put o.dst v) w) ∨
  (Region.wanted o (yielded ops a.tmps) = true ∧ lo = true ∧ (S w ∨ bar = true) ∧ o.wp P a w (fun a' w' => (S w' ∨ bar = true) ∧ K a' w') NoQ)
def wpX (P : Program) (ops : Array Oper) (S : World → Prop) (lo bar : Nat → Bool) (Q : Act → World → Prop) : List (Nat × Oper) → Act → World → Prop
  | [], a, w => Q a w
  | (i, o) :: r, a, w => R1 P ops S (lo i) (bar i) o (wpX P ops S lo bar Q r) a w
theorem R1.mono {lo bar : Bool} {o : Oper} {K K' : Act → World → Prop} {a : Act} {w : World} (hk : ∀ a w, K a w → K' a w) (h : R1 P ops S lo bar o K a w) : R1 P ops S lo bar o K' a w := by
  rcases h with ⟨h0, h1⟩ | ⟨h0, h1, v, h2, h3⟩ | ⟨h0, h1, h2, h3⟩
  · exact .inl ⟨h0, hk _ _ h1⟩
  · exact .inr (.inl ⟨h0, h1, v, h2, hk _ _ h3⟩)
  · exact .inr (.inr ⟨h0, h1, h2, Oper.wp_mono (fun a w h => ⟨h.1, hk _ _ h.2⟩) h3⟩)
theorem R1.op {lo bar : Bool} {i : Nat} {o : Oper} {K : Act → World → Prop} {Q : Exit → Act → World → Prop} {a : Act} {w : World} (hi : ops[i]? = some o) (h : R1 P ops S lo bar o K a w) : wpOp P ops Q i K a w := by
  unfold wpOp
  simp only [hi]
  rcases h with ⟨h0, h1⟩ | ⟨h0, h1, v, h2, h3⟩ | ⟨h0, h1, h2, h3⟩
  · simp only [h0]; exact h1
  · simp only [h0, if_true]
    exact .inl (by unfold Oper.wp; rw [h2 w h1]; exact h3)
  · simp only [h0, if_true]
    exact .inl (wp_any (Oper.wp_mono (fun a w h => h.2) h3))
theorem swap {loi loj bari barj : Bool} {oi oj : Oper} (hap : oj.apart ops oi = true) (hsi : ∀ cs b, oi.op ≠ .select cs b) (hsj : ∀ cs b, oj.op ≠ .select cs b)
    (hlo : (loi && loj) = false) (hbi : bari = false) (hbj : barj = false) {K : Act → World → Prop} {a : Act} {w : World}
    (h : R1 P ops S loj barj oj (fun a w => R1 P ops S loi bari oi K a w) a w) : R1 P ops S loi bari oi (fun a w => R1 P ops S loj barj oj K a w) a w := by
  subst hbi hbj
  obtain ⟨h1, h2, h3⟩ := Oper.apart_spec hap
  have h2' : ∀ d, oi.dst = some d → oj.dst ≠ some d := fun d hd hj => h2 d hj hd
  have wi : ∀ (a : Act) u, Region.wanted oi (yielded ops (a.put oj.dst u).tmps) = Region.wanted oi (yielded ops a.tmps) := fun a u => wanted_put oi a oj.dst u h1
  have wj : ∀ (a : Act) u, Region.wanted oj (yielded ops (a.put oi.dst u).tmps) = Region.wanted oj (yielded ops a.tmps) := fun a u => wanted_put oj a oi.dst u h3
  have ei : ∀ (a : Act) u, execOp (a.put oj.dst u).eval oi = execOp a.eval oi := fun a u => execOp_put oi hsi a oj.dst u h1
  have ej : ∀ (a : Act) u, execOp (a.put oi.dst u).eval oj = execOp a.eval oj := fun a u => execOp_put oj hsj a oi.dst u h3
  have cm : ∀ (a : Act) u v, (a.put oj.dst u).put oi.dst v = (a.put oi.dst v).put oj.dst u := fun a u v => put_comm' a v u h2
  rcases h with ⟨g0, g1⟩ | ⟨g0, g1, u, g2, g3⟩ | ⟨g0, g1, g2, g3⟩
  · rcases g1 with ⟨k0, k1⟩ | ⟨k0, k1, v, k2, k3⟩ | ⟨k0, k1, k2, k3⟩
    · rw [wi] at k0
      exact .inl ⟨k0, .inl ⟨by rw [wj]; exact g0, by rw [← cm]; exact k1⟩⟩
    · rw [wi] at k0; rw [ei] at k2
      exact .inr (.inl ⟨k0, k1, v, k2, .inl ⟨by rw [wj]; exact g0, by rw [← cm]; exact k3⟩⟩)
    · rw [wi] at k0
      refine .inr (.inr ⟨k0, k1, k2, ?_⟩)
      rw [wp_put (ops := ops) hsi h1 (fun t ht => h2 t ht)] at k3
      refine Oper.wp_mono (fun a' w' hh => ?_) (wp_tag k3)
      obtain ⟨⟨hS, hK⟩, ds, v, rfl⟩ := hh
      exact ⟨hS, .inl ⟨by rw [wj]; exact g0, hK⟩⟩
  · rcases g3 with ⟨k0, k1⟩ | ⟨k0, k1, v, k2, k3⟩ | ⟨k0, k1, k2, k3⟩
    · rw [wi] at k0
      exact .inl ⟨k0, .inr (.inl ⟨by rw [wj]; exact g0, g1, u, by rw [ej]; exact g2, by rw [← cm]; exact k1⟩)⟩
    · rw [wi] at k0; rw [ei] at k2
      exact .inr (.inl ⟨k0, k1, v, k2, .inr (.inl ⟨by rw [wj]; exact g0, g1, u, by rw [ej]; exact g2, by rw [← cm]; exact k3⟩)⟩)
    · rw [wi] at k0
      refine .inr (.inr ⟨k0, k1, k2, ?_⟩)
      rw [wp_put (ops := ops) hsi h1 (fun t ht => h2 t ht)] at k3
      refine Oper.wp_mono (fun a' w' hh => ?_) (wp_tag k3)
      obtain ⟨⟨hS, hK⟩, ds, v, rfl⟩ := hh
      have hS' : S w' := hS.resolve_right (by simp)
      refine ⟨hS, .inr (.inl ⟨by rw [wj]; exact g0, hS', u, ?_, hK⟩)⟩
      rw [ej]; exact g2
  · have hli : loi = false := by cases loi <;> simp_all
    have hSw : S w := g2.resolve_right (by simp)
    have tg := wp_tag g3
    by_cases k0 : Region.wanted oi (yielded ops a.tmps) = true
    ·
      obtain ⟨a1, w1, ⟨⟨hS1, hR1⟩, ds, u1, rfl⟩⟩ := wp_ex tg
      have hS1 : S w1 := hS1.resolve_right (by simp)
      have hw1 : Region.wanted oi (yielded ops ((Act.mk a.tmps ds).put oj.dst u1).tmps) = true := by rw [wi]; exact k0
      rcases hR1 with ⟨q0, _⟩ | ⟨_, _, v, q2, _⟩ | ⟨_, q1, _⟩
      · rw [hw1] at q0; cases q0
      · have hev : execOp (Act.mk a.tmps ds).eval oi = execOp a.eval oi := rfl
        rw [ei, hev] at q2
        refine .inr (.inl ⟨k0, hSw, v, q2, .inr (.inr ⟨by rw [wj]; exact g0, g1, g2, ?_⟩)⟩)
        rw [wp_put (ops := ops) hsj h3 (fun t ht => h2' t ht)]
        refine Oper.wp_mono (fun a' w' hh => ?_) tg
        obtain ⟨⟨hS, hR⟩, ds', u', rfl⟩ := hh
        refine ⟨hS, ?_⟩
        have hw2 : Region.wanted oi (yielded ops ((Act.mk a.tmps ds').put oj.dst u').tmps) = true := by rw [wi]; exact k0
        rcases hR with ⟨q0, _⟩ | ⟨_, _, v', q2', q3'⟩ | ⟨_, q1, _⟩
        · rw [hw2] at q0; cases q0
        · have hev' : execOp (Act.mk a.tmps ds').eval oi = execOp a.eval oi := rfl
          rw [ei, hev'] at q2'
          have : v' = v := by
            have e1 := q2' w1 hS1
            rw [q2 w1 hS1] at e1
            cases e1; rfl
          subst this
          exact q3'
        · rw [hli] at q1; cases q1
      · rw [hli] at q1; cases q1
    · have k0 : Region.wanted oi (yielded ops a.tmps) = false := by simpa using k0
      refine .inl ⟨k0, .inr (.inr ⟨by rw [wj]; exact g0, g1, g2, ?_⟩)⟩
      rw [wp_put (ops := ops) hsj h3 (fun t ht => h2' t ht)]
      refine Oper.wp_mono (fun a' w' hh => ?_) tg
      obtain ⟨⟨hS, hR⟩, ds', u', rfl⟩ := hh
      refine ⟨hS, ?_⟩
      have hw2 : Region.wanted oi (yielded ops ((Act.mk a.tmps ds').put oj.dst u').tmps) = false := by rw [wi]; exact k0
      rcases hR with ⟨_, q1⟩ | ⟨q0, _⟩ | ⟨q0, _⟩
      · exact q1
      · rw [hw2] at q0; cases q0
      · rw [hw2] at q0; cases q0
def maskAt (ms : List Nat) (o : Oper) : Nat :=
  o.after.toList.foldl (fun s e => if Region.binds .any e then s ||| 2 ^ e.on ||| ms.getD e.on 0 else s) 0
def masksFrom : List Oper → List Nat → List Nat
  | [], ms => ms
  | o :: r, ms => masksFrom r (ms ++ [maskAt ms o])
def masks (ops : Array Oper) : List Nat := masksFrom ops.toList []
def barAt (n : Nat) (ms : List Nat) (i : Nat) : Bool :=
  (List.range n).all fun j => if j < i then (ms.getD i 0).testBit j else if i < j then (ms.getD j 0).testBit i else true
def loudKind : Op → Bool
  | .move _ | .pick .. | .load .. | .binOp .. | .unOp .. | .fieldAddr .. | .field .. | .indexAddr .. | .index .. | .extract .. | .nilCheck _ | .slice .. | .makeFunc .. => false
  | .call { callee := .builtin .len, .. } => false
  | .convert .. => false
  | .lookup .. => false
  | _ => true
def barOf (ops : Array Oper) : Nat → Bool := barAt ops.size (masks ops)
def loOf (ops : Array Oper) (i : Nat) : Bool := (match ops[i]? with | some o => loudKind o.op | none => false) || barOf ops i
def maskOk (ops : Array Oper) (ms : List Nat) : Bool :=
  (List.range ops.size).all fun i => match ops[i]? with
    | some o => ms.getD i 0 == maskAt ms o && o.after.toList.all fun e => !Region.binds .any e || decide (e.on < i)
    | none => true
def pairOk (ops : Array Oper) (ms : List Nat) (lo bar : Nat → Bool) (j i : Nat) : Bool :=
  (ms.getD i 0).testBit j || match ops[j]?, ops[i]? with
    | some oj, some oi => oj.apart ops oi && !(lo i && lo j) && !bar i && !bar j
    | _, _ => true
def lexOkAt (ops : Array Oper) (ms : List Nat) (lo bar : Nat → Bool) : Bool :=
  maskOk ops ms && Region.noSelect ops && (List.range ops.size).all fun i => (List.range i).all fun j => pairOk ops ms lo bar j i
theorem maskAt_bit {ms : List Nat} {o : Oper} {j : Nat} (h : (maskAt ms o).testBit j = true) : ∃ e ∈ o.after, Region.binds .any e = true ∧ (e.on = j ∨ (ms.getD e.on 0).testBit j = true) := by
  unfold maskAt at h
  have key : ∀ (l : List Edge) (s : Nat), (l.foldl (fun s e => if Region.binds .any e then s ||| 2 ^ e.on ||| ms.getD e.on 0 else s) s).testBit j = true →
      s.testBit j = true ∨ ∃ e ∈ l, Region.binds .any e = true ∧ (e.on = j ∨ (ms.getD e.on 0).testBit j = true) := by
    intro l
    induction l with
    | nil => intro s h; exact .inl h
    | cons e l ih =>
      intro s h
      simp only [List.foldl_cons] at h
      rcases ih _ h with h | ⟨e', he', hb⟩
      · by_cases hb : Region.binds .any e = true
        · simp only [hb, if_true, Nat.testBit_or, Bool.or_eq_true, Nat.testBit_two_pow] at h
          rcases h with (h | h) | h
          · exact .inl h
          · exact .inr ⟨e, List.mem_cons_self .., hb, .inl (by simpa using h)⟩
          · exact .inr ⟨e, List.mem_cons_self .., hb, .inr h⟩
        · simp only [hb] at h
          exact .inl h
      · exact .inr ⟨e', List.mem_cons_of_mem _ he', hb⟩
  rcases key _ _ h with h | ⟨e, he, hb⟩
  · simp at h
  · exact ⟨e, Array.mem_toList_iff.1 he, hb⟩
theorem maskOk_spec {ms : List Nat} (h : maskOk ops ms = true) {i : Nat} {o : Oper} (hi : ops[i]? = some o) :
    ms.getD i 0 = maskAt ms o ∧ ∀ e ∈ o.after, Region.binds .any e = true → e.on < i := by
  have hlt : i < ops.size := (Array.getElem?_eq_some_iff.1 hi).1
  have h1 := List.all_eq_true.1 h i (List.mem_range.2 hlt)
  simp only [hi, Bool.and_eq_true, beq_iff_eq] at h1
  refine ⟨h1.1, fun e he hb => ?_⟩
  have h2 := List.all_eq_true.1 h1.2 e (Array.mem_toList_iff.2 he)
  simpa [hb] using h2
theorem mask_listed {ms : List Nat} (hm : maskOk ops ms = true) {listed : Array Bool}
    (hc : ∀ i o, ops[i]? = some o → listed.getD i false = true → ∀ e ∈ o.after, Region.binds .any e = true → listed.getD e.on false = true) :
    ∀ (i : Nat) (o : Oper), ops[i]? = some o → (∀ e ∈ o.after, Region.binds .any e = true → listed.getD e.on false = true) → ∀ j, (ms.getD i 0).testBit j = true → listed.getD j false = true := by
  intro i
  induction i using Nat.strongRecOn with
  | _ i ih =>
    intro o ho hr j hj
    obtain ⟨e1, e2⟩ := maskOk_spec hm ho
    rw [e1] at hj
    obtain ⟨e, he, hb, hh⟩ := maskAt_bit hj
    have hl := hr e he hb
    rcases hh with hh | hh
    · rw [← hh]; exact hl
    · cases hoe : ops[e.on]? with
      | some oe => exact ih e.on (e2 e he hb) oe hoe (hc e.on oe hoe hl) j hh
      | none =>
        have hge : ops.size ≤ e.on := by
          rcases Nat.lt_or_ge e.on ops.size with h' | h'
          · simp [h'] at hoe
          · exact h'
        have := e2 e he hb
        have hlt : i < ops.size := (Array.getElem?_eq_some_iff.1 ho).1
        omega
structure Inv (ops : Array Oper) (listed : Array Bool) (prs : List (Nat × Oper)) : Prop where
  pr : ∀ p ∈ prs, ops[p.1]? = some p.2
  sorted : prs.Pairwise (fun p q => p.1 < q.1)
  left : ∀ i, i < ops.size → (listed.getD i true = false ↔ ∃ o, (i, o) ∈ prs)
  closed : ∀ i o, ops[i]? = some o → listed.getD i false = true → ∀ e ∈ o.after, Region.binds .any e = true → listed.getD e.on false = true
  size : listed.size = ops.size
theorem getD_tf {listed : Array Bool} {i : Nat} (hi : i < listed.size) : listed.getD i true = listed.getD i false := by simp [hi]
theorem Inv.step {listed : Array Bool} {l1 l2 : List (Nat × Oper)} {i : Nat} {o : Oper} (inv : Inv ops listed (l1 ++ (i, o) :: l2)) (hr : i ∈ Region.ready .any ops listed) :
    Inv ops (listed.setIfInBounds i true) (l1 ++ l2) := by
  have hio : ops[i]? = some o := inv.pr (i, o) (by simp)
  have hlt : i < ops.size := (Array.getElem?_eq_some_iff.1 hio).1
  obtain ⟨hun, o', ho', hall⟩ := mem_ready.1 hr
  have hoo : o' = o := by rw [hio] at ho'; cases ho'; rfl
  subst hoo
  refine ⟨fun p hp => inv.pr p ?_, ?_, fun k hk => ?_, fun k ok hok hl e he hb => ?_, by simp [inv.size]⟩
  · rcases List.mem_append.1 hp with hp | hp
    · exact List.mem_append_left _ hp
    · exact List.mem_append_right _ (List.mem_cons_of_mem _ hp)
  · exact inv.sorted.sublist (List.Sublist.append_left (List.sublist_cons_self _ _) _)
  · by_cases hki : i = k
    · subst hki
      have : (listed.setIfInBounds i true).getD i true = true := by simp [inv.size, hlt]
      rw [this]
      simp only [Bool.true_eq_false, false_iff, not_exists]
      intro o2 hm
      have hs := inv.sorted
      rw [List.pairwise_append] at hs
      obtain ⟨_, s2, s3⟩ := hs
      rcases List.mem_append.1 hm with hm | hm
      · have := s3 _ hm (i, o') (List.mem_cons_self ..)
        simp at this
      · have := (List.pairwise_cons.1 s2).1 _ hm
        simp at this
    · rw [getD_set_ne true hki, inv.left k hk]
      constructor
      · rintro ⟨o2, hm⟩
        refine ⟨o2, ?_⟩
        rcases List.mem_append.1 hm with hm | hm
        · exact List.mem_append_left _ hm
        · rcases List.mem_cons.1 hm with hm | hm
          · cases hm; exact absurd rfl hki
          · exact List.mem_append_right _ hm
      · rintro ⟨o2, hm⟩
        refine ⟨o2, ?_⟩
        rcases List.mem_append.1 hm with hm | hm
        · exact List.mem_append_left _ hm
        · exact List.mem_append_right _ (List.mem_cons_of_mem _ hm)
  · by_cases hki : i = k
    · subst hki
      have : ok = o' := by rw [hio] at hok; cases hok; rfl
      subst this
      exact getD_set_true (hall e he hb)
    · rw [getD_set_ne false hki] at hl
      exact getD_set_true (inv.closed k ok hok hl e he hb)
theorem bring {lo bar : Nat → Bool} {Q : Act → World → Prop} {i : Nat} {o : Oper} (l2 : List (Nat × Oper)) : ∀ (l1 : List (Nat × Oper)),
    (∀ p ∈ l1, p.2.apart ops o = true ∧ (lo i && lo p.1) = false ∧ bar i = false ∧ bar p.1 = false ∧ (∀ cs b, o.op ≠ .select cs b) ∧ (∀ cs b, p.2.op ≠ .select cs b)) →
    ∀ a w, wpX P ops S lo bar Q (l1 ++ (i, o) :: l2) a w → R1 P ops S (lo i) (bar i) o (wpX P ops S lo bar Q (l1 ++ l2)) a w
  | [], _, a, w, h => h
  | (j, oj) :: l1, hp, a, w, h => by
    obtain ⟨e1, e2, e3, e4, e5, e6⟩ := hp (j, oj) (List.mem_cons_self ..)
    exact swap e1 e5 e6 e2 e3 e4 (R1.mono (fun a w h => bring l2 l1 (fun p hm => hp p (List.mem_cons_of_mem _ hm)) a w h) h)
theorem lex_any {lo bar : Nat → Bool} {ms : List Nat} {Q : Exit → Act → World → Prop} (hB : lexOkAt ops ms lo bar = true) :
    ∀ (fuel : Nat) (prs : List (Nat × Oper)) (listed : Array Bool) (a : Act) (w : World), prs.length ≤ fuel → Inv ops listed prs →
      wpX P ops S lo bar (Q .normal) prs a w → wpAny P .any ops Q fuel listed a w := by
  simp only [lexOkAt, Bool.and_eq_true] at hB
  obtain ⟨⟨hm, hsel⟩, hpair⟩ := hB
  have head : ∀ (prs : List (Nat × Oper)) (listed : Array Bool), Inv ops listed prs → Region.ready .any ops listed = [] → prs = [] := by
    intro prs listed inv hr
    cases prs with
    | nil => rfl
    | cons p r =>
      obtain ⟨i, o⟩ := p
      have hio : ops[i]? = some o := inv.pr (i, o) (List.mem_cons_self ..)
      have hlt : i < ops.size := (Array.getElem?_eq_some_iff.1 hio).1
      have : i ∈ Region.ready .any ops listed := by
        refine mem_ready.2 ⟨(inv.left i hlt).2 ⟨o, List.mem_cons_self ..⟩, o, hio, fun e he hb => ?_⟩
        have hei := (maskOk_spec hm hio).2 e he hb
        have hel : e.on < ops.size := by omega
        rw [← getD_tf (by rw [inv.size]; exact hel)]
        cases hg : listed.getD e.on true with
        | true => rfl
        | false =>
          obtain ⟨o2, hm2⟩ := (inv.left _ hel).1 hg
          rcases List.mem_cons.1 hm2 with hm2 | hm2
          · cases hm2; omega
          · have h9 : i < e.on := (List.pairwise_cons.1 inv.sorted).1 _ hm2
            omega
      rw [hr] at this
      cases this
  intro fuel
  induction fuel with
  | zero =>
    intro prs listed a w hl inv h
    have : prs = [] := List.eq_nil_of_length_eq_zero (by omega)
    subst this
    refine ⟨?_, h⟩
    cases hr : Region.ready .any ops listed with
    | nil => rfl
    | cons i r =>
      have hi : i ∈ Region.ready .any ops listed := by rw [hr]; exact List.mem_cons_self ..
      obtain ⟨hun, o, ho, _⟩ := mem_ready.1 hi
      obtain ⟨_, hm2⟩ := (inv.left i (Array.getElem?_eq_some_iff.1 ho).1).1 hun
      cases hm2
  | succ fuel ih =>
    intro prs listed a w hl inv h
    refine ⟨fun hr => by rw [head prs listed inv hr] at h; exact h, fun i hi => ?_⟩
    obtain ⟨hun, o, ho, hall⟩ := mem_ready.1 hi
    have hlt := (Array.getElem?_eq_some_iff.1 ho).1
    obtain ⟨o', hm2⟩ := (inv.left i hlt).1 hun
    have : o' = o := by have := inv.pr _ hm2; rw [ho] at this; cases this; rfl
    subst this
    obtain ⟨l1, l2, rfl⟩ := List.append_of_mem hm2
    have hb := bring (P := P) (S := S) (lo := lo) (bar := bar) (Q := Q .normal) (i := i) (o := o') l2 l1 (fun p hp => ?_) a w h
    · refine (R1.mono (fun a' w' h' => ih (l1 ++ l2) (listed.setIfInBounds i true) a' w' (by simp at hl ⊢; omega) (inv.step hi) h') hb).op ho
    · have hs := inv.sorted
      rw [List.pairwise_append] at hs
      have hpi : p.1 < i := hs.2.2 p hp (i, o') (List.mem_cons_self ..)
      have hpo : ops[p.1]? = some p.2 := inv.pr p (List.mem_append_left _ hp)
      have hpair' := List.all_eq_true.1 (List.all_eq_true.1 hpair i (List.mem_range.2 hlt)) p.1 (List.mem_range.2 hpi)
      unfold pairOk at hpair'
      simp only [hpo, ho, Bool.or_eq_true, Bool.and_eq_true, Bool.not_eq_true'] at hpair'
      rcases hpair' with hp1 | ⟨⟨⟨q1, q2⟩, q3⟩, q4⟩
      · exfalso
        have hlj := mask_listed hm inv.closed i o' ho hall p.1 hp1
        have hpl : p.1 < ops.size := by omega
        have := (inv.left p.1 hpl).2 ⟨p.2, List.mem_append_left _ hp⟩
        rw [getD_tf (by rw [inv.size]; exact hpl)] at this
        rw [this] at hlj
        cases hlj
      · exact ⟨q1, q2, q3, q4, fun cs b => Region.noSelect_spec hsel i o' cs b ho, fun cs b => Region.noSelect_spec hsel p.1 p.2 cs b hpo⟩
def enumFrom : Nat → List Oper → List (Nat × Oper)
  | _, [] => []
  | k, o :: r => (k, o) :: enumFrom (k + 1) r
theorem enumFrom_mem : ∀ (l : List Oper) (k : Nat) (p : Nat × Oper), p ∈ enumFrom k l ↔ ∃ j, l[j]? = some p.2 ∧ p.1 = k + j
  | [], k, p => by simp [enumFrom]
  | o :: l, k, p => by
    simp only [enumFrom, List.mem_cons, enumFrom_mem l (k + 1) p]
    constructor
    · rintro (rfl | ⟨j, h1, h2⟩)
      · exact ⟨0, rfl, rfl⟩
      · exact ⟨j + 1, by simpa using h1, by omega⟩
    · rintro ⟨j, h1, h2⟩
      cases j with
      | zero =>
        refine .inl ?_
        simp at h1
        obtain ⟨a, b⟩ := p
        simp_all
      | succ j => exact .inr ⟨j, by simpa using h1, by omega⟩
theorem enumFrom_length : ∀ (l : List Oper) (k : Nat), (enumFrom k l).length = l.length
  | [], _ => rfl
  | _ :: l, k => by simp [enumFrom, enumFrom_length l]
theorem enumFrom_sorted : ∀ (l : List Oper) (k : Nat), (enumFrom k l).Pairwise (fun p q => p.1 < q.1)
  | [], _ => List.Pairwise.nil
  | o :: l, k => by
    refine List.Pairwise.cons (fun p hp => ?_) (enumFrom_sorted l (k + 1))
    obtain ⟨j, _, h2⟩ := (enumFrom_mem l (k + 1) p).1 hp
    show k < p.1
    omega
theorem wp_region_lex {id : Nat} {Q : Exit → Act → World → Prop} {a : Act} {w : World} (hm : P.follows .mixedOrders = true)
    (hB : lexOkAt ops (masks ops) (loOf ops) (barOf ops) = true)
    (h : wpX P ops S (loOf ops) (barOf ops) (Q .normal) (enumFrom 0 ops.toList) a w.drew) : (Code.region id ops true).wp P Q a w := by
  refine wp_region_any hm (lex_any hB _ (enumFrom 0 ops.toList) _ a _ (by simp [enumFrom_length]) ⟨?_, ?_, ?_, ?_, ?_⟩ h)
  · intro p hp
    obtain ⟨j, h1, h2⟩ := (enumFrom_mem _ _ _).1 hp
    have : p.1 = j := by omega
    rw [this]; simpa using h1
  · exact enumFrom_sorted _ _
  · intro i hi
    simp only [Array.getD_eq_getD_getElem?, Array.getElem?_replicate, hi, if_true, Option.getD_some, true_iff]
    exact ⟨ops[i], (enumFrom_mem _ _ _).2 ⟨i, by simp [hi], by simp⟩⟩
  · intro i o ho hl
    simp only [Array.getD_eq_getD_getElem?, Array.getElem?_replicate] at hl
    split at hl <;> simp at hl
  · simp
theorem seq_ops {Q : Exit → Act → World → Prop} : ∀ (l : List Oper) (k : Nat) (a : Act) (w : World), (∀ j, l[j]? = ops[k + j]?) →
    wpX P ops (fun _ => True) (fun _ => true) (fun _ => false) (Q .normal) (enumFrom k l) a w → wpOps P ops Q (List.range' k l.length) a w
  | [], _, a, w, _, h => h
  | o :: l, k, a, w, hl, h => by
    have h0 : ops[k]? = some o := by simpa using (hl 0).symm
    simp only [List.length_cons, List.range'_succ, wpOps_cons]
    refine (R1.mono (fun a w h => seq_ops l (k + 1) a w (fun j => by have := hl (j + 1); simpa [Nat.add_assoc, Nat.add_comm 1 j] using this) h) h).op h0
theorem wp_region_seq {id : Nat} {Q : Exit → Act → World → Prop} {a : Act} {w : World}
    (h : wpX P ops (fun _ => True) (fun _ => true) (fun _ => false) (Q .normal) (enumFrom 0 ops.toList) a w) : (Code.region id ops false).wp P Q a w := by
  refine wp_region ?_
  have := seq_ops (Q := Q) ops.toList 0 a w (by simp) h
  rw [List.range_eq_range']
  simpa using this
end
end Go.Ck
namespace Go.Ck
theorem oet_ {p : Prop} [Decidable p] : decide p = true → p := of_decide_eq_true
theorem oef_ {p : Prop} [Decidable p] : decide p = false → ¬p := of_decide_eq_false
end Go.Ck
end

section
namespace Go.Ck
open Go
def lk : List (Nat × Value) → Nat → Option Value
  | [], _ => none
  | (k, v) :: r, s => bif Nat.beq k s then some v else lk r s
structure Fr (n : Nat) (F : List (Nat × Value)) (a : Act) : Prop where
  size : a.tmps.size = n
  dfs : a.defers = []
  get : ∀ s v, lk F s = some v → a.tmps[s]? = some v
def ev (F : List (Nat × Value)) : Operand → Option Value
  | .tmp t => lk F t
  | .const v => some v
  | .global g => some (.pointer (some ⟨g, 0, none⟩))
  | .func f => some (.func (.func f) #[] #[])
theorem Fr.ev {n : Nat} {F : List (Nat × Value)} {a : Act} (h : Fr n F a) {x : Operand} {v : Value} (he : Ck.ev F x = some v) : a.eval x = v := by
  cases x with
  | tmp t => simp [Act.eval, Array.getD_eq_getD_getElem?, h.get t v he]
  | const v => simpa [Ck.ev, Act.eval] using he
  | global g => simpa [Ck.ev, Act.eval] using he
  | func f => simpa [Ck.ev, Act.eval] using he
def putF (dst : Option Nat) (v : Value) (F : List (Nat × Value)) : List (Nat × Value) :=
  match dst with
  | some d => (d, v) :: F
  | none => F
def okd (n : Nat) (dst : Option Nat) : Bool :=
  match dst with
  | some d => Nat.blt d n
  | none => true
theorem Fr.put {n : Nat} {F : List (Nat × Value)} {a : Act} (h : Fr n F a) {dst : Option Nat} (hd : okd n dst = true) (v : Value) : Fr n (putF dst v F) (a.put dst v) := by
  cases dst with
  | none => exact h
  | some d =>
    have hd : d < n := by simpa [okd, Nat.blt_eq] using hd
    refine ⟨by simp [Act.put, h.size], h.dfs, fun s u hs => ?_⟩
    simp only [putF, lk] at hs
    by_cases hds : d = s
    · subst hds
      simp only [Nat.beq_refl, cond_true, Option.some.injEq] at hs
      subst hs
      simp [Act.put, Array.getElem?_setIfInBounds, h.size, hd]
    · have hb : Nat.beq d s = false := by
        cases hx : Nat.beq d s with
        | false => rfl
        | true => exact absurd (Nat.eq_of_beq_eq_true hx) hds
      simp only [hb, cond_false] at hs
      simp [Act.put, Array.getElem?_setIfInBounds_ne hds, h.get s u hs]
def Sub (F' F : List (Nat × Value)) : Prop := ∀ s v, lk F' s = some v → lk F s = some v
theorem Sub.nil {F : List (Nat × Value)} : Sub [] F := fun s v h => by cases h
theorem Sub.cons {F' F : List (Nat × Value)} {s : Nat} {v v' : Value} (h1 : lk F s = some v') (h2 : v' = v) (h3 : Sub F' F) : Sub ((s, v) :: F') F := by
  subst h2
  intro t u ht
  simp only [lk] at ht
  by_cases hst : s = t
  · subst hst
    simp only [Nat.beq_refl, cond_true, Option.some.injEq] at ht
    subst ht
    exact h1
  · have hb : Nat.beq s t = false := by
      cases hx : Nat.beq s t with
      | false => rfl
      | true => exact absurd (Nat.eq_of_beq_eq_true hx) hst
    simp only [hb, cond_false] at ht
    exact h3 t u ht
theorem Sub.refl (F : List (Nat × Value)) : Sub F F := fun _ _ h => h
theorem Fr.sub {n : Nat} {F F' : List (Nat × Value)} {a : Act} (h : Fr n F a) (hs : Sub F' F) : Fr n F' a := ⟨h.size, h.dfs, fun s v hv => h.get s v (hs s v hv)⟩
abbrev View := Nat → Option Obj
def Le (h h' : View) : Prop := ∀ b o, h b = some o → h' b = some o
theorem Le.refl (h : View) : Le h h := fun _ _ x => x
theorem Le.trans {a b c : View} (h : Le a b) (k : Le b c) : Le a c := fun x o hx => k x o (h x o hx)
structure Res where
  dom : List Nat
  sat : World → Prop
  loc : ∀ w w' : World, (∀ b ∈ dom, w'.heap[b]? = w.heap[b]?) → sat w → sat w'
  lt : ∀ w, sat w → ∀ b ∈ dom, b < w.heap.size
def Res.blk (b : Nat) (o : Obj) : Res where
  dom := [b]
  sat := fun w => w.heap[b]? = some o
  loc := fun w w' h hs => by rw [h b (List.mem_singleton.2 rfl)]; exact hs
  lt := fun w hs b' hb => by
    have : b' = b := by simpa using hb
    subst this
    exact (Array.getElem?_eq_some_iff.1 hs).1
def doms (L : List Res) : List Nat := L.flatMap Res.dom
structure Hd (h : View) (L : List Res) (w : World) : Prop where
  view : ∀ b o, h b = some o → w.heap[b]? = some o
  own : ∀ r ∈ L, r.sat w
structure Bs where
  w0 : World
  h0 : View
  A : List Nat
structure St (K : Bs) (h : View) (L : List Res) (w : World) : Prop where
  os : w.os = K.w0.os
  tape : w.tape = K.w0.tape
  output : w.output = K.w0.output
  drawn : K.w0.drawn ≤ w.drawn
  size : K.w0.heap.size ≤ w.heap.size
  keep : ∀ k, k < K.w0.heap.size → k ∉ K.A → w.heap[k]? = K.w0.heap[k]?
  hd : Hd h L w
  nd : (doms L).Nodup
  src : ∀ b ∈ doms L, b ∈ K.A ∨ K.w0.heap.size ≤ b
  grow : Le K.h0 h
  new : ∀ b, b < K.w0.heap.size → K.h0 b = none → h b = none
  dis : ∀ b ∈ doms L, h b = none
theorem mem_doms {L : List Res} {b : Nat} : b ∈ doms L ↔ ∃ r ∈ L, b ∈ r.dom := by simp [doms, List.mem_flatMap]
theorem Hd.lt {h : View} {L : List Res} {w : World} (hh : Hd h L w) {b : Nat} (hb : b ∈ doms L) : b < w.heap.size := by
  obtain ⟨r, hr, hb⟩ := mem_doms.1 hb
  exact r.lt w (hh.own r hr) b hb
theorem Hd.sub {h h' : View} {L L' : List Res} {w : World} (hh : Hd h L w) (h1 : Le h' h) (h2 : ∀ r ∈ L', r ∈ L) : Hd h' L' w := ⟨fun b o hb => hh.view b o (h1 b o hb), fun r hr => hh.own r (h2 r hr)⟩
theorem Hd.tl {h : View} {r : Res} {L : List Res} {w : World} (hh : Hd h (r :: L) w) : Hd h L w := hh.sub (Le.refl h) fun _ hr => List.mem_cons_of_mem _ hr
theorem St.start {w : World} {h : View} {L : List Res} (hd : Hd h L w) (nd : (doms L).Nodup) (dis : ∀ b ∈ doms L, h b = none) : St ⟨w, h, doms L⟩ h L w :=
  ⟨rfl, rfl, rfl, Nat.le_refl _, Nat.le_refl _, fun _ _ _ => rfl, hd, nd, fun _ hb => .inl hb, Le.refl h, fun _ _ hb => hb, dis⟩
theorem St.alloc {K : Bs} {h : View} {L : List Res} {w : World} (s : St K h L w) (o : Obj) : St K h (Res.blk w.heap.size o :: L) (w.alloc o) := by
  have hpush : ∀ k, k < w.heap.size → (w.alloc o).heap[k]? = w.heap[k]? := fun k hk => by
    show (w.heap.push o)[k]? = _
    rw [Array.getElem?_push, if_neg (by omega)]
  have hnone : h w.heap.size = none := by
    cases hx : h w.heap.size with
    | none => rfl
    | some o' =>
      have := s.hd.view _ _ hx
      simp at this
  refine ⟨s.os, s.tape, s.output, s.drawn, ?_, fun k hk hkA => ?_, ⟨fun b o' hb => ?_, fun r hr => ?_⟩, ?_, fun b hb => ?_, s.grow, s.new, fun b hb => ?_⟩
  · exact Nat.le_trans s.size (by show w.heap.size ≤ (w.heap.push o).size; simp)
  · rw [hpush k (Nat.lt_of_lt_of_le hk s.size)]; exact s.keep k hk hkA
  · have hv := s.hd.view b o' hb
    rw [hpush b (Array.getElem?_eq_some_iff.1 hv).1]; exact hv
  · rcases List.mem_cons.1 hr with rfl | hr
    · show (w.heap.push o)[w.heap.size]? = some o
      simp
    · exact r.loc w _ (fun b hb => hpush b (r.lt w (s.hd.own r hr) b hb)) (s.hd.own r hr)
  · show (w.heap.size :: doms L).Nodup
    refine List.nodup_cons.2 ⟨fun hm => ?_, s.nd⟩
    exact Nat.lt_irrefl _ (s.hd.lt hm)
  · have hb' : b ∈ w.heap.size :: doms L := hb
    rcases List.mem_cons.1 hb' with rfl | hb'
    · exact .inr s.size
    · exact s.src b hb'
  · have hb' : b ∈ w.heap.size :: doms L := hb
    rcases List.mem_cons.1 hb' with rfl | hb'
    · exact hnone
    · exact s.dis b hb'
theorem St.drew {K : Bs} {h : View} {L : List Res} {w : World} (s : St K h L w) : St K h L w.drew :=
  ⟨s.os, s.tape, s.output, Nat.le_succ_of_le s.drawn, s.size, s.keep, ⟨s.hd.view, fun r hr => r.loc w _ (fun _ _ => rfl) (s.hd.own r hr)⟩, s.nd, s.src, s.grow, s.new, s.dis⟩
theorem doms_append (L L' : List Res) : doms (L ++ L') = doms L ++ doms L' := by simp [doms]
theorem doms_cons (r : Res) (L : List Res) : doms (r :: L) = r.dom ++ doms L := by simp [doms]
theorem St.perm {K : Bs} {h : View} {L L' : List Res} {w : World} (s : St K h L w) (p : L.Perm L') : St K h L' w := by
  have pd : (doms L).Perm (doms L') := List.Perm.flatMap_right _ p
  exact ⟨s.os, s.tape, s.output, s.drawn, s.size, s.keep, ⟨s.hd.view, fun r hr => s.hd.own r (p.mem_iff.2 hr)⟩, pd.nodup_iff.1 s.nd, fun b hb => s.src b (pd.mem_iff.2 hb), s.grow, s.new, fun b hb => s.dis b (pd.mem_iff.2 hb)⟩
theorem St.drop {K : Bs} {h : View} {L L' : List Res} {w : World} (s : St K h (L ++ L') w) : St K h L' w :=
  ⟨s.os, s.tape, s.output, s.drawn, s.size, s.keep, s.hd.sub (Le.refl h) (fun r hr => List.mem_append_right _ hr), by have := s.nd; rw [doms_append] at this; exact (List.nodup_append.1 this).2.1,
   fun b hb => s.src b (by rw [doms_append]; exact List.mem_append_right _ hb), s.grow, s.new, fun b hb => s.dis b (by rw [doms_append]; exact List.mem_append_right _ hb)⟩
theorem St.nil {K : Bs} {h : View} {L : List Res} {w : World} (s : St K h L w) : St K h [] w := St.drop (L := L) (L' := []) (by simpa using s)
theorem St.base {K : Bs} {h : View} {L : List Res} {w : World} (s : St K h L w) : St K K.h0 [] w :=
  ⟨s.os, s.tape, s.output, s.drawn, s.size, s.keep, ⟨fun b o hb => s.hd.view b o (s.grow b o hb), fun r hr => by cases hr⟩, by simp [doms], fun b hb => by simp [doms] at hb, Le.refl _, fun _ _ hb => hb, fun b hb => by simp [doms] at hb⟩
theorem St.tl {K : Bs} {h : View} {r : Res} {L : List Res} {w : World} (s : St K h (r :: L) w) : St K h L w := St.drop (L := [r]) (L' := L) s
theorem St.enter {K : Bs} {h : View} {Li Lr : List Res} {w : World} (s : St K h (Li ++ Lr) w) : St ⟨w, h, doms Li⟩ h Li w :=
  St.start (s.hd.sub (Le.refl h) fun r hr => List.mem_append_left _ hr) (by have := s.nd; rw [doms_append] at this; exact (List.nodup_append.1 this).1)
    (fun b hb => s.dis b (by rw [doms_append]; exact List.mem_append_left _ hb))
theorem St.leave {K : Bs} {h h' : View} {Li Lo Lr : List Res} {w w' : World} (s : St K h (Li ++ Lr) w) (t : St ⟨w, h, doms Li⟩ h' Lo w') : St K h' (Lo ++ Lr) w' := by
  have nd := s.nd
  rw [doms_append] at nd
  obtain ⟨n1, n2, n3⟩ := List.nodup_append.1 nd
  have hrest : ∀ r ∈ Lr, ∀ b ∈ r.dom, b < w.heap.size ∧ b ∉ doms Li := fun r hr b hb => by
    have hm : b ∈ doms Lr := mem_doms.2 ⟨r, hr, hb⟩
    exact ⟨r.lt w (s.hd.own r (List.mem_append_right _ hr)) b hb, fun hi => n3 b hi b hm rfl⟩
  have hLr : ∀ b ∈ doms Lr, b < w.heap.size ∧ b ∉ doms Li := fun b hb => by
    obtain ⟨r, hr, hb⟩ := mem_doms.1 hb
    exact hrest r hr b hb
  refine ⟨t.os.trans s.os, t.tape.trans s.tape, t.output.trans s.output, Nat.le_trans s.drawn t.drawn, Nat.le_trans s.size t.size, fun k hk hkA => ?_, ⟨t.hd.view, fun r hr => ?_⟩, ?_, fun b hb => ?_, s.grow.trans t.grow, fun b hb hb0 => ?_, fun b hb => ?_⟩
  · rw [t.keep k (Nat.lt_of_lt_of_le hk s.size) (fun hi => ?_)]
    · exact s.keep k hk hkA
    · rcases s.src k (by rw [doms_append]; exact List.mem_append_left _ hi) with h1 | h1
      · exact hkA h1
      · omega
  · rcases List.mem_append.1 hr with hr | hr
    · exact t.hd.own r hr
    · exact r.loc w w' (fun b hb => t.keep b (hrest r hr b hb).1 (hrest r hr b hb).2) (s.hd.own r (List.mem_append_right _ hr))
  · rw [doms_append]
    refine List.nodup_append.2 ⟨t.nd, n2, fun a ha b hb hab => ?_⟩
    subst hab
    obtain ⟨q1, q2⟩ := hLr a hb
    rcases t.src a ha with h1 | h1
    · exact q2 h1
    · exact absurd q1 (Nat.not_lt.2 h1)
  · rw [doms_append] at hb
    rcases List.mem_append.1 hb with hb | hb
    · rcases t.src b hb with h1 | h1
      · exact s.src b (by rw [doms_append]; exact List.mem_append_left _ h1)
      · exact .inr (Nat.le_trans s.size h1)
    · exact s.src b (by rw [doms_append]; exact List.mem_append_right _ hb)
  · exact t.new b (Nat.lt_of_lt_of_le hb s.size) (s.new b hb hb0)
  · rw [doms_append] at hb
    rcases List.mem_append.1 hb with hb | hb
    · exact t.dis b hb
    · exact t.new b (hLr b hb).1 (s.dis b (by rw [doms_append]; exact List.mem_append_right _ hb))
def addV (h : View) (b : Nat) (o : Obj) : View := fun x => if x = b then some o else h x
theorem St.persist {K : Bs} {h : View} {b : Nat} {o : Obj} {L : List Res} {w : World} (s : St K h (Res.blk b o :: L) w) (hA : K.A = []) : St K (addV h b o) L w := by
  have hmem : b ∈ doms (Res.blk b o :: L) := by rw [doms_cons]; exact List.mem_append_left _ (List.mem_singleton.2 rfl)
  have hb0 : K.w0.heap.size ≤ b := by
    rcases s.src b hmem with h1 | h1
    · rw [hA] at h1; cases h1
    · exact h1
  have nd := s.nd
  rw [doms_cons] at nd
  obtain ⟨_, n2, n3⟩ := List.nodup_append.1 nd
  have hnot : b ∉ doms L := fun hb => n3 b (List.mem_singleton.2 rfl) b hb rfl
  refine ⟨s.os, s.tape, s.output, s.drawn, s.size, s.keep, ⟨fun x o' hx => ?_, fun r hr => s.hd.own r (List.mem_cons_of_mem _ hr)⟩, n2, fun x hx => s.src x (by rw [doms_cons]; exact List.mem_append_right _ hx), fun x o' hx => ?_, fun x hx hx0 => ?_, fun x hx => ?_⟩
  · unfold addV at hx
    split at hx
    · rename_i e; subst e; cases hx
      exact s.hd.own _ (List.mem_cons_self ..)
    · exact s.hd.view x o' hx
  · unfold addV
    split
    · rename_i e; subst e
      have h1 := s.grow x o' hx
      rw [s.dis x hmem] at h1; cases h1
    · exact s.grow x o' hx
  · unfold addV
    rw [if_neg (by omega)]
    exact s.new x hx hx0
  · unfold addV
    rw [if_neg (fun e => hnot (by rw [← e]; exact hx))]
    exact s.dis x (by rw [doms_cons]; exact List.mem_append_right _ hx)
theorem Le.addV {h : View} {b : Nat} {o : Obj} (hb : h b = none) : Le h (Ck.addV h b o) := fun x o' hx => by
  unfold Ck.addV
  split
  · rename_i e; subst e; rw [hb] at hx; cases hx
  · exact hx
theorem addV_same {h : View} {b : Nat} {o : Obj} : addV h b o b = some o := by simp [addV]
theorem St.write {K : Bs} {h : View} {b : Nat} {o o' : Obj} {L : List Res} {w w' : World} (s : St K h (Res.blk b o :: L) w) (h1 : w'.os = w.os) (h2 : w'.tape = w.tape) (h3 : w'.output = w.output) (hdr : w.drawn ≤ w'.drawn)
    (h4 : w'.heap.size = w.heap.size) (h5 : ∀ k, k ≠ b → w'.heap[k]? = w.heap[k]?) (h6 : w'.heap[b]? = some o') : St K h (Res.blk b o' :: L) w' := by
  have t : St ⟨w, h, doms [Res.blk b o]⟩ h [Res.blk b o'] w' := by
    have hdis := s.dis b (by rw [doms_cons]; exact List.mem_append_left _ (List.mem_singleton.2 rfl))
    have hd1 : ∀ x, x ∈ doms [Res.blk b o'] → x = b := fun x hx => by simpa [doms, Res.blk] using hx
    refine ⟨h1, h2, h3, hdr, by rw [h4]; exact Nat.le_refl _, fun k hk hkA => h5 k (fun e => hkA (by subst e; simp [doms, Res.blk])), ⟨fun x ob hx => ?_, fun r hr => ?_⟩, ?_, fun x hx => .inl (by rw [hd1 x hx]; simp [doms, Res.blk]), Le.refl h, fun _ _ hx => hx, fun x hx => by rw [hd1 x hx]; exact hdis⟩
    · rw [h5 x (fun e => by subst e; rw [hdis] at hx; cases hx)]
      exact s.hd.view x ob hx
    · have : r = Res.blk b o' := by simpa using hr
      subst this
      exact h6
    · simp [doms, Res.blk]
  exact St.leave (Li := [Res.blk b o]) (Lo := [Res.blk b o']) (Lr := L) s t
theorem perm_at {L : List Res} {k : Nat} {R : Res} (hk : L[k]? = some R) : L.Perm (R :: L.eraseIdx k) := by
  induction L generalizing k with
  | nil => simp at hk
  | cons r L ih =>
    cases k with
    | zero => simp at hk; subst hk; exact List.Perm.refl _
    | succ k =>
      simp only [List.getElem?_cons_succ] at hk
      exact ((ih hk).cons r).trans (List.Perm.swap R r _)
theorem perm_set {L : List Res} {k : Nat} {R R' : Res} (hk : L[k]? = some R) : (R' :: L.eraseIdx k).Perm (L.set k R') := by
  induction L generalizing k with
  | nil => simp at hk
  | cons r L ih =>
    cases k with
    | zero => exact List.Perm.refl _
    | succ k =>
      simp only [List.getElem?_cons_succ] at hk
      exact (List.Perm.swap r R' _).trans ((ih hk).cons r)
theorem St.writeAt {K : Bs} {h : View} {b k : Nat} {o o' : Obj} {L : List Res} {w w' : World} (s : St K h L w) (hk : L[k]? = some (Res.blk b o)) (h1 : w'.os = w.os) (h2 : w'.tape = w.tape) (h3 : w'.output = w.output) (hdr : w.drawn ≤ w'.drawn)
    (h4 : w'.heap.size = w.heap.size) (h5 : ∀ k, k ≠ b → w'.heap[k]? = w.heap[k]?) (h6 : w'.heap[b]? = some o') : St K h (L.set k (Res.blk b o')) w' :=
  (St.write (s.perm (perm_at hk)) h1 h2 h3 hdr h4 h5 h6).perm (perm_set hk)
section
variable {P : Program} {n : Nat} {K : Bs}
def CX (P : Program) (n : Nat) (K : Bs) (c : Code) (F : List (Nat × Value)) (h : View) (L : List Res) (Q : Exit → Act → World → Prop) : Prop :=
  ∀ a w, Fr n F a → St K h L w → c.wp P Q a w
def NX (n : Nat) (K : Bs) (e : Exit) (F : List (Nat × Value)) (h : View) (L : List Res) (Q : Exit → Act → World → Prop) : Prop :=
  ∀ a w, Fr n F a → St K h L w → Q e a w
structure Rg where
  ops : Array Oper
  S : World → Prop
  lo : Nat → Bool
  bar : Nat → Bool
def RX (P : Program) (n : Nat) (K : Bs) (g : Rg) (prs : List (Nat × Oper)) (F : List (Nat × Value)) (h : View) (L : List Res) (Q : Exit → Act → World → Prop) : Prop :=
  ∀ a w, Fr n F a → St K h L w → wpX P g.ops g.S g.lo g.bar (Q .normal) prs a w
variable {F : List (Nat × Value)} {h : View} {L : List Res} {Q : Exit → Act → World → Prop}
theorem ybo {x y : Code} (hx : CX P n K x F h L (Exit.then (fun a w => y.wp P Q a w) Q)) : CX P n K (.seq x y) F h L Q := fun a w f s => wp_seq (hx a w f s)
theorem ybs (hx : NX n K .normal F h L Q) : CX P n K .skip F h L Q := fun a w f s => wp_skip (hx a w f s)
theorem ybr (hx : NX n K .ret F h L Q) : CX P n K .ret F h L Q := fun a w f s => wp_ret (hx a w f s)
theorem ybt {id : Nat} (hx : NX n K (.exit id) F h L Q) : CX P n K (.exit id) F h L Q := fun a w f s => wp_exit (hx a w f s)
theorem ybq {id : Nat} {c : Code} (hx : CX P n K c F h L (Exit.inBlock id Q)) : CX P n K (.block id c) F h L Q := fun a w f s => wp_block (hx a w f s)
theorem ybu {x : Operand} {c d : Code} (hv : ev F x = some (.bool true)) (hx : CX P n K c F h L Q) : CX P n K (.cond x c d) F h L Q :=
  fun a w f s => wp_cond_true (f.ev hv) (hx a w f s)
theorem ybv {x : Operand} {c d : Code} (hv : ev F x = some (.bool false)) (hx : CX P n K d F h L Q) : CX P n K (.cond x c d) F h L Q :=
  fun a w f s => wp_cond_false (f.ev hv) (hx a w f s)
theorem ybx {x : Operand} {c d : Code} {t : Bool} (hv : ev F x = some (.bool t)) (hx : t = true → CX P n K c F h L Q) (hy : t = false → CX P n K d F h L Q) : CX P n K (.cond x c d) F h L Q :=
  fun a w f s => wp_cond_split (f.ev hv) (fun ht => hx ht a w f s) (fun ht => hy ht a w f s)
theorem ybw {x : Operand} {c d : Code} {p : Prop} [Decidable p] (hv : ev F x = some (.bool (decide p))) (hx : p → CX P n K c F h L Q) (hy : ¬ p → CX P n K d F h L Q) : CX P n K (.cond x c d) F h L Q :=
  ybx hv (fun ht => hx (oet_ ht)) (fun ht => hy (oef_ ht))
theorem cx_loop {X : Type} {c : Code} (FI : X → List (Nat × Value)) (hI : X → View) (LI : X → List Res) (p : X → Prop) (m : X → Nat) (x0 : X) (hp : p x0) (hF : Sub (FI x0) F)
    (hS : ∀ w, St K h L w → St K (hI x0) (LI x0) w)
    (round : ∀ x, p x → CX P n K c (FI x) (hI x) (LI x) (Exit.then (fun a w => ∃ y, p y ∧ m y < m x ∧ Fr n (FI y) a ∧ St K (hI y) (LI y) w) Q)) : CX P n K (.loop c) F h L Q := fun a w f s => by
  intro b k cs
  have key : ∀ j, ∀ x a w, p x → m x = j → Fr n (FI x) a → St K (hI x) (LI x) w →
      ∃ e a' w', Q e a' w' ∧ Arrives P (lone (b.at a (.code c :: .inLoop c :: k)) cs w) b k cs e a' w' := by
    intro j
    induction j using Nat.strongRecOn with
    | _ j ih =>
      intro x a w hx hj f s
      obtain ⟨e, a₁, w₁, hq, harr⟩ := round x hx a w f s b (.inLoop c :: k) cs
      cases e with
      | normal =>
        obtain ⟨y, hy, hlt, fy, sy⟩ := hq
        obtain ⟨e₂, a₂, w₂, hq₂, harr₂⟩ := ih (m y) (hj ▸ hlt) y a₁ w₁ hy rfl fy sy
        exact ⟨e₂, a₂, w₂, hq₂, .of_steps (Steps.trans harr (.one step_inLoop)) harr₂⟩
      | exit id => exact ⟨_, a₁, w₁, hq, .pass (x := .inLoop c) rfl (fun _ _ => .inl (by simp)) harr⟩
      | goto l => exact ⟨_, a₁, w₁, hq, .pass (x := .inLoop c) rfl (fun _ _ => .inl (by simp)) harr⟩
      | ret => exact ⟨_, a₁, w₁, hq, .pass (x := .inLoop c) rfl (fun _ _ => .inl (by simp)) harr⟩
      | panic ch => exact ⟨_, a₁, w₁, hq, .pass (x := .inLoop c) rfl (fun _ _ => .inl (by simp)) harr⟩
      | outgrown => exact ⟨_, a₁, w₁, hq, .pass (x := .inLoop c) rfl (fun _ _ => .inl (by simp)) harr⟩
  obtain ⟨e, a', w', hq, harr⟩ := key _ x0 a w hp rfl (f.sub hF) (hS w s)
  exact ⟨e, a', w', hq, .of_steps (.one step_loop) harr⟩
theorem nx_round {X : Type} {FI : X → List (Nat × Value)} {hI : X → View} {LI : X → List Res} {p : X → Prop} {m : X → Nat} {k : Nat} {Q' : Exit → Act → World → Prop} (y : X) (hp : p y) (hm : m y < k) (hF : Sub (FI y) F)
    (hS : ∀ w, St K h L w → St K (hI y) (LI y) w) : NX n K .normal F h L (Exit.then (fun a w => ∃ y, p y ∧ m y < k ∧ Fr n (FI y) a ∧ St K (hI y) (LI y) w) Q') :=
  fun a w f s => ⟨y, hp, hm, f.sub hF, hS w s⟩
theorem yby {c : Code} (hx : CX P n K c F h L Q) : NX n K .normal F h L (Exit.then (fun a w => c.wp P Q a w) Q) := hx
theorem ybz {next : Act → World → Prop} (hx : NX n K .ret F h L Q) : NX n K .ret F h L (Exit.then next Q) := hx
theorem yca {next : Act → World → Prop} {id : Nat} (hx : NX n K (.exit id) F h L Q) : NX n K (.exit id) F h L (Exit.then next Q) := hx
theorem ycb {id : Nat} (hx : NX n K .normal F h L Q) : NX n K .normal F h L (Exit.inBlock id Q) := hx
theorem ycc {id : Nat} (hx : NX n K .ret F h L Q) : NX n K .ret F h L (Exit.inBlock id Q) := hx
theorem ycd {id : Nat} (hx : NX n K .normal F h L Q) : NX n K (.exit id) F h L (Exit.inBlock id Q) := fun a w f s => by
  simp only [Exit.inBlock, if_true]; exact hx a w f s
theorem yce {id id' : Nat} (hne : Nat.beq id' id = false) (hx : NX n K (.exit id') F h L Q) : NX n K (.exit id') F h L (Exit.inBlock id Q) := fun a w f s => by
  have : id' ≠ id := fun e => by subst e; simp at hne
  simp only [Exit.inBlock, this, if_false]; exact hx a w f s
theorem ybp {id : Nat} {ops : Array Oper} (hx : RX P n K ⟨ops, fun _ => True, fun _ => true, fun _ => false⟩ (enumFrom 0 ops.toList) F h L Q) : CX P n K (.region id ops false) F h L Q :=
  fun a w f s => wp_region_seq (hx a w f s)
theorem cx_region_draw {id : Nat} {ops : Array Oper} (LS : List Res) (hm : P.follows .mixedOrders = true) (hB : lexOkAt ops (masks ops) (loOf ops) (barOf ops) = true)
    (hx : RX P n K ⟨ops, Hd h LS, loOf ops, barOf ops⟩ (enumFrom 0 ops.toList) F h L Q) : CX P n K (.region id ops true) F h L Q :=
  fun a w f s => wp_region_lex hm hB (hx a w.drew ⟨f.size, f.dfs, f.get⟩ s.drew)
theorem ycg {g : Rg} (hx : NX n K .normal F h L Q) : RX P n K g [] F h L Q := hx
def wantedF (ops : Array Oper) (F : List (Nat × Value)) (o : Oper) : Option Bool :=
  match o.guard with
  | none => some true
  | some (j, want) => match ((ops[j]?).bind (·.dst)).bind (lk F) with
    | some (.bool b) => some (b == want)
    | some _ => some false
    | none => none
theorem wantedF_ok {ops : Array Oper} {o : Oper} {a : Act} {t : Bool} (f : Fr n F a) (hw : wantedF ops F o = some t) : Region.wanted o (yielded ops a.tmps) = t := by
  unfold wantedF at hw
  unfold Region.wanted
  split at hw
  · rename_i hg; rw [hg]; cases hw; rfl
  · rename_i j want hg
    rw [hg]
    dsimp only
    cases hd : (ops[j]?).bind (·.dst) with
    | none => rw [hd] at hw; cases hw
    | some d =>
      rw [hd] at hw
      simp only [Option.bind_some] at hw
      cases hv : lk F d with
      | none => rw [hv] at hw; cases hw
      | some v =>
        have hy : yielded ops a.tmps j = (match some v with | some (.bool b) => some b | _ => none) := by
          unfold yielded
          rw [hd]
          simp only [Option.bind_some]
          rw [f.get d _ hv]
          cases v <;> rfl
        rw [hy]
        rw [hv] at hw
        cases v <;> simp only at hw ⊢ <;> cases hw
        case bool.refl b => cases b <;> cases want <;> rfl
        all_goals rfl
theorem ybl {g : Rg} {i : Nat} {dst : Option Nat} {op : Op} {ty : Nat} {pos : String} {af : Array Edge} {gd : Option (Nat × Bool)} {r : List (Nat × Oper)} (hw : wantedF g.ops F ⟨dst, op, ty, pos, af, gd⟩ = some false) (hd : okd n dst = true) (hx : RX P n K g r (putF dst undef F) h L Q) : RX P n K g ((i, ⟨dst, op, ty, pos, af, gd⟩) :: r) F h L Q :=
  fun a w f s => .inl ⟨wantedF_ok f hw, hx _ _ (f.put hd undef) s⟩
def gval (ops : Array Oper) (F : List (Nat × Value)) (o : Oper) : Option Bool :=
  match o.guard with
  | none => none
  | some (j, _) => match ((ops[j]?).bind (·.dst)).bind (lk F) with
    | some (.bool b) => some b
    | _ => none
theorem ybj {g : Rg} {i : Nat} {o : Oper} {r : List (Nat × Oper)} {t : Bool} (hv : gval g.ops F o = some t) (h1 : t = true → RX P n K g ((i, o) :: r) F h L Q) (h2 : t = false → RX P n K g ((i, o) :: r) F h L Q) : RX P n K g ((i, o) :: r) F h L Q := by
  cases t
  · exact h2 rfl
  · exact h1 rfl
theorem ybi {g : Rg} {i : Nat} {o : Oper} {r : List (Nat × Oper)} (hw : wantedF g.ops F o = some true) (hx : RX P n K g ((i, o) :: r) F h L Q) : RX P n K g ((i, o) :: r) F h L Q := hx
def QV (P : Program) (n : Nat) (F : List (Nat × Value)) (h : View) (L : List Res) (o : Oper) (v : Value) : Prop :=
  ∀ a w, Fr n F a → Hd h L w → (execOp a.eval o).run P w = .ok (.value v) w
theorem ybk {ops : Array Oper} {i : Nat} {dst : Option Nat} {op : Op} {ty : Nat} {pos : String} {af : Array Edge} {gd : Option (Nat × Bool)} {r : List (Nat × Oper)} {v : Value} (hq : QV P n F h L ⟨dst, op, ty, pos, af, gd⟩ v) (hw : wantedF ops F ⟨dst, op, ty, pos, af, gd⟩ = some true) (hd : okd n dst = true)
    (hx : RX P n K ⟨ops, fun _ => True, fun _ => true, fun _ => false⟩ r (putF dst v F) h L Q) : RX P n K ⟨ops, fun _ => True, fun _ => true, fun _ => false⟩ ((i, ⟨dst, op, ty, pos, af, gd⟩) :: r) F h L Q :=
  fun a w f s => .inr (.inr ⟨wantedF_ok f hw, rfl, .inl trivial, by
    unfold Oper.wp
    rw [hq a w f s.hd]
    exact ⟨.inl trivial, hx _ _ (f.put hd v) s⟩⟩)
theorem ybm {ops : Array Oper} {lo bar : Nat → Bool} {hS : View} {LS : List Res} {i : Nat} {dst : Option Nat} {op : Op} {ty : Nat} {pos : String} {af : Array Edge} {gd : Option (Nat × Bool)} {r : List (Nat × Oper)} {v : Value} (hq : QV P n F hS LS ⟨dst, op, ty, pos, af, gd⟩ v) (hw : wantedF ops F ⟨dst, op, ty, pos, af, gd⟩ = some true) (hd : okd n dst = true)
    (hh : ∀ w, Hd h L w → Hd hS LS w) (hx : RX P n K ⟨ops, Hd hS LS, lo, bar⟩ r (putF dst v F) h L Q) : RX P n K ⟨ops, Hd hS LS, lo, bar⟩ ((i, ⟨dst, op, ty, pos, af, gd⟩) :: r) F h L Q :=
  fun a w f s => .inr (.inl ⟨wantedF_ok f hw, hh w s.hd, v, fun w' hw' => hq a w' f hw', hx _ _ (f.put hd v) s⟩)
theorem ybn {ops : Array Oper} {lo bar : Nat → Bool} {S : World → Prop} {i : Nat} {dst : Option Nat} {op : Op} {ty : Nat} {pos : String} {af : Array Edge} {gd : Option (Nat × Bool)} {r : List (Nat × Oper)} {v : Value} (hq : QV P n F h L ⟨dst, op, ty, pos, af, gd⟩ v) (hw : wantedF ops F ⟨dst, op, ty, pos, af, gd⟩ = some true) (hd : okd n dst = true)
    (hl : lo i = true) (hh : (∀ w, Hd h L w → S w) ∨ bar i = true) (hx : RX P n K ⟨ops, S, lo, bar⟩ r (putF dst v F) h L Q) : RX P n K ⟨ops, S, lo, bar⟩ ((i, ⟨dst, op, ty, pos, af, gd⟩) :: r) F h L Q :=
  fun a w f s => .inr (.inr ⟨wantedF_ok f hw, hl, hh.imp (fun k => k w s.hd) id, by
    unfold Oper.wp
    rw [hq a w f s.hd]
    exact ⟨hh.imp (fun k => k w s.hd) id, hx _ _ (f.put hd v) s⟩⟩)
def WV (P : Program) (n : Nat) (K : Bs) (F : List (Nat × Value)) (h : View) (L : List Res) (o : Oper) (R : Value → World → Prop) : Prop :=
  ∀ a w, Fr n F a → St K h L w → ∃ v w', ((execOp a.eval o).run P w = .ok (.value v) w' ∨ (execOp a.eval o).run P w = .ok .skip w' ∧ v = undef) ∧ R v w'
def Owe (g : Rg) (i : Nat) (h : View) (L : List Res) : Prop := (∀ w, Hd h L w → g.S w) ∨ g.bar i = true
theorem ybf {ops : Array Oper} {i : Nat} : Owe ⟨ops, fun _ => True, fun _ => true, fun _ => false⟩ i h L := .inl fun _ _ => trivial
def MA (P : Program) (n : Nat) (F : List (Nat × Value)) (h : View) (L : List Res) (o : Oper) (v : Nat → Value) (ob : Obj) : Prop :=
  ∀ a w, Fr n F a → Hd h L w → (execOp a.eval o).run P w = .ok (.value (v w.heap.size)) (w.alloc ob)
theorem yba {g : Rg} {i : Nat} {dst : Option Nat} {op : Op} {ty : Nat} {pos : String} {af : Array Edge} {gd : Option (Nat × Bool)} {r : List (Nat × Oper)} {v : Nat → Value} {ob : Obj} (hq : MA P n F h L ⟨dst, op, ty, pos, af, gd⟩ v ob) (hw : wantedF g.ops F ⟨dst, op, ty, pos, af, gd⟩ = some true) (hd : okd n dst = true) (hl : g.lo i = true)
    (h1 : Owe g i h L) (h2 : ∀ b, Owe g i h (Res.blk b ob :: L)) (hx : ∀ b, RX P n K g r (putF dst (v b) F) h (Res.blk b ob :: L) Q) : RX P n K g ((i, ⟨dst, op, ty, pos, af, gd⟩) :: r) F h L Q :=
  fun a w f s => .inr (.inr ⟨wantedF_ok f hw, hl, h1.imp (fun k => k w s.hd) id, by
    unfold Oper.wp
    rw [hq a w f s.hd]
    have s' := s.alloc ob
    exact ⟨(h2 w.heap.size).imp (fun k => k _ s'.hd) id, hx _ _ _ (f.put hd _) s'⟩⟩)
theorem nble {a b : Nat} (h : Nat.ble a b = true) : a ≤ b := Nat.le_of_ble_eq_true h
def CallOf (P : Program) (n : Nat) (F : List (Nat × Value)) (o : Oper) (fn : FuncId) (args : Array Value) : Prop :=
  ∀ a w, Fr n F a → (execOp a.eval o).run P w = .ok (.enter fn args) w
theorem yco {g : Rg} {i : Nat} {dst : Option Nat} {op : Op} {ty : Nat} {pos : String} {af : Array Edge} {gd : Option (Nat × Bool)} {r : List (Nat × Oper)} {fn : FuncId} {args : Array Value} {X : Type} {v : X → Value} {hh : X → View} {LL : X → List Res} {p : X → Prop} (hc : CallOf P n F ⟨dst, op, ty, pos, af, gd⟩ fn args)
    (hsp : ∀ w, St ⟨w, h, []⟩ h [] w → Calls P fn args w fun e w' => ∃ x, e = .returned (v x) ∧ St ⟨w, h, []⟩ (hh x) (LL x) w' ∧ p x)
    (hw : wantedF g.ops F ⟨dst, op, ty, pos, af, gd⟩ = some true) (hd : okd n dst = true) (hl : g.lo i = true) (h1 : Owe g i h L) (h2 : ∀ x, p x → Le h (hh x) → Owe g i (hh x) (LL x ++ L))
    (hx : ∀ x, p x → Le h (hh x) → RX P n K g r (putF dst (v x) F) (hh x) (LL x ++ L) Q) : RX P n K g ((i, ⟨dst, op, ty, pos, af, gd⟩) :: r) F h L Q :=
  fun a w f s => .inr (.inr ⟨wantedF_ok f hw, hl, h1.imp (fun k => k w s.hd) id, by
    unfold Oper.wp
    rw [hc a w f]
    refine (hsp w (St.enter (Li := []) (Lr := L) s)).mono fun e w' he => ?_
    obtain ⟨x, rfl, st, px⟩ := he
    have s' := St.leave (Li := []) (Lr := L) s st
    have hle : Le h (hh x) := st.grow
    exact ⟨(h2 x px hle).imp (fun k => k _ s'.hd) id, hx x px hle _ _ (f.put hd _) s'⟩⟩)
theorem ycn {g : Rg} {i : Nat} {dst : Option Nat} {op : Op} {ty : Nat} {pos : String} {af : Array Edge} {gd : Option (Nat × Bool)} {r : List (Nat × Oper)} {fn : FuncId} {args : Array Value} {v : Value} (hc : CallOf P n F ⟨dst, op, ty, pos, af, gd⟩ fn args)
    (hsp : ∀ w, St ⟨w, h, []⟩ h [] w → Calls P fn args w fun e w' => e = .returned v ∧ St ⟨w, h, []⟩ h [] w')
    (hw : wantedF g.ops F ⟨dst, op, ty, pos, af, gd⟩ = some true) (hd : okd n dst = true) (hl : g.lo i = true) (h1 : Owe g i h L)
    (hx : RX P n K g r (putF dst v F) h L Q) : RX P n K g ((i, ⟨dst, op, ty, pos, af, gd⟩) :: r) F h L Q :=
  yco (X := Unit) (v := fun _ => v) (hh := fun _ => h) (LL := fun _ => []) (p := fun _ => True) hc (fun w s => (hsp w s).mono fun e w' ⟨he, st⟩ => ⟨(), he, st, trivial⟩) hw hd hl h1 (fun _ _ _ => h1) (fun _ _ _ => hx)
theorem rx_call_m {g : Rg} {i : Nat} {dst : Option Nat} {op : Op} {ty : Nat} {pos : String} {af : Array Edge} {gd : Option (Nat × Bool)} {r : List (Nat × Oper)} {fn : FuncId} {args : Array Value} {X : Type} {v : X → Value} {hh : X → View} {LL : X → List Res} {p : X → Prop} {R : Res} {Lr : List Res} (hc : CallOf P n F ⟨dst, op, ty, pos, af, gd⟩ fn args)
    (hp : L.Perm (R :: Lr))
    (hsp : ∀ w, St ⟨w, h, doms [R]⟩ h [R] w → Calls P fn args w fun e w' => ∃ x, e = .returned (v x) ∧ St ⟨w, h, doms [R]⟩ (hh x) (LL x) w' ∧ p x)
    (hw : wantedF g.ops F ⟨dst, op, ty, pos, af, gd⟩ = some true) (hd : okd n dst = true) (hl : g.lo i = true) (h1 : Owe g i h L) (h2 : ∀ x, p x → Le h (hh x) → Owe g i (hh x) (LL x ++ Lr))
    (hx : ∀ x, p x → Le h (hh x) → RX P n K g r (putF dst (v x) F) (hh x) (LL x ++ Lr) Q) : RX P n K g ((i, ⟨dst, op, ty, pos, af, gd⟩) :: r) F h L Q :=
  fun a w f s => .inr (.inr ⟨wantedF_ok f hw, hl, h1.imp (fun k => k w s.hd) id, by
    unfold Oper.wp
    rw [hc a w f]
    have s1 : St K h ([R] ++ Lr) w := s.perm hp
    refine (hsp w (St.enter (Li := [R]) (Lr := Lr) s1)).mono fun e w' he => ?_
    obtain ⟨x, rfl, st, px⟩ := he
    have s' := St.leave (Li := [R]) (Lr := Lr) s1 st
    have hle : Le h (hh x) := st.grow
    exact ⟨(h2 x px hle).imp (fun k => k _ s'.hd) id, hx x px hle _ _ (f.put hd _) s'⟩⟩)
def argsF : Nat → List Value → List (Nat × Value)
  | _, [] => []
  | k, v :: r => (k, v) :: argsF (k + 1) r
theorem lk_argsF : ∀ (l : List Value) (k s : Nat) (v : Value), lk (argsF k l) s = some v → k ≤ s ∧ l[s - k]? = some v
  | [], k, s, v, h => by cases h
  | u :: l, k, s, v, h => by
    simp only [argsF, lk] at h
    by_cases hks : k = s
    · subst hks
      simp at h
      simp [h]
    · have hb : Nat.beq k s = false := by
        cases hx : Nat.beq k s with
        | false => rfl
        | true => exact absurd (Nat.eq_of_beq_eq_true hx) hks
      simp only [hb, cond_false] at h
      obtain ⟨h1, h2⟩ := lk_argsF l (k + 1) s v h
      refine ⟨by omega, ?_⟩
      have : s - k = (s - (k + 1)) + 1 := by omega
      rw [this]; simpa using h2
theorem calls_enter {fn : FuncId} {fu : Func} {c : Code} {l : List Value} {w : World} {A : List Nat} {R : Ending → World → Prop} (hf : P.funcs[fn]? = some fu) (hb : fu.body = some c) (hn : fu.ntmps = n) (hl : Nat.ble l.length n = true)
    (s : St ⟨w, h, A⟩ h L w) (hx : CX P n ⟨w, h, A⟩ c (argsF 0 l) h L (bodyPost P fu R)) : Calls P fn l.toArray w R := by
  have hl : l.length ≤ n := by simpa using hl
  refine calls_of_wp hf hb (hx _ w ⟨?_, rfl, fun t v ht => ?_⟩ s)
  · simp [hn]; omega
  · obtain ⟨_, h2⟩ := lk_argsF l 0 t v ht
    have hlt : t < l.length := by
      have := (List.getElem?_eq_some_iff.1 h2).1
      simpa using this
    simp only [Nat.sub_zero] at h2
    rw [Array.getElem?_append_left (by simpa using hlt)]
    simpa using h2
def RV (P : Program) (F : List (Nat × Value)) (h : View) (L : List Res) : ResultVar → Value → Prop
  | .tmp t, v => lk F t = some v
  | .cell b t, v => ∃ ad, lk F b = some (.pointer (some ad)) ∧ ∀ w, Hd h L w → (loadVar t ad).run P w = .ok v w
def rsem (tmps : Array Value) : ResultVar → Sem Value
  | .tmp t => pure (tmps.getD t undef)
  | .cell b t => do loadVar t (← asAddr (tmps.getD b undef))
theorem RV.run {F : List (Nat × Value)} {h : View} {L : List Res} {x : ResultVar} {v : Value} {a : Act} {w : World} (hv : RV P F h L x v) (f : Fr n F a) (s : Hd h L w) : (rsem a.tmps x).run P w = .ok v w := by
  cases x with
  | tmp t =>
    have hv : lk F t = some v := hv
    simp [rsem, Array.getD_eq_getD_getElem?, f.get t v hv]
  | cell b t =>
    obtain ⟨ad, h1, h2⟩ := hv
    simp [rsem, Array.getD_eq_getD_getElem?, f.get b _ h1, asAddr, h2 w s]
theorem results_eq (fu : Func) (tmps : Array Value) : results fu tmps = (do
    let vs ← fu.results.mapM (rsem tmps)
    pure (if h : vs.size = 1 then vs[0] else .tuple vs)) := by
  unfold results
  congr 1
theorem nx_ret1 {fu : Func} {R : Ending → World → Prop} {x : ResultVar} {v : Value} (hr : fu.results = #[x]) (hv : RV P F h L x v) (hp : ∀ w, St K h L w → R (.returned v) w) : NX n K .ret F h L (bodyPost P fu R) :=
  fun a w f s => by
    refine ⟨f.dfs, v, ?_, hp w s⟩
    rw [results_eq, hr]
    simp [RV.run hv f s.hd]
theorem nx_end0 {fu : Func} {R : Ending → World → Prop} (hr : fu.results = #[]) (hp : ∀ w, St K h L w → R (.returned (.tuple #[])) w) : NX n K .normal F h L (bodyPost P fu R) :=
  fun a w f s => ⟨f.dfs, _, by simp [results, hr], hp w s⟩
theorem nx_ret2 {fu : Func} {R : Ending → World → Prop} {x y : ResultVar} {v u : Value} (hr : fu.results = #[x, y]) (hv : RV P F h L x v) (hu : RV P F h L y u) (hp : ∀ w, St K h L w → R (.returned (.tuple #[v, u])) w) : NX n K .ret F h L (bodyPost P fu R) :=
  fun a w f s => by
    refine ⟨f.dfs, _, ?_, hp w s⟩
    rw [results_eq, hr]
    simp [RV.run hv f s.hd, RV.run hu f s.hd]
theorem ych {c : Code} (hx : CX P n K c F h L Q) : CX P n K c F h L Q := hx
theorem yci {e : Exit} (hx : NX n K e F h L Q) : NX n K e F h L Q := hx
theorem ycf {g : Rg} {prs : List (Nat × Oper)} (hx : RX P n K g prs F h L Q) : RX P n K g prs F h L Q := hx
theorem rx_bpersist {g : Rg} {prs : List (Nat × Oper)} {b : Nat} {o : Obj} (hA : K.A = []) (hx : h b = none → RX P n K g prs F (addV h b o) L Q) : RX P n K g prs F h (Res.blk b o :: L) Q := by
  intro a w f s
  exact hx (s.dis b (by rw [doms_cons]; exact List.mem_append_left _ (List.mem_singleton.2 rfl))) a w f (s.persist hA)
theorem cx_perm {c : Code} {L' : List Res} (hp : L.Perm L') (hx : CX P n K c F h L' Q) : CX P n K c F h L Q := fun a w f s => hx a w f (s.perm hp)
theorem rx_perm {g : Rg} {prs : List (Nat × Oper)} {L' : List Res} (hp : L.Perm L') (hx : RX P n K g prs F h L' Q) : RX P n K g prs F h L Q := fun a w f s => hx a w f (s.perm hp)
theorem QV.mk {o : Oper} {v : Value} (hx : ∀ a w, Fr n F a → Hd h L w → (execOp a.eval o).run P w = .ok (.value v) w) : QV P n F h L o v := hx
theorem MA.mk {o : Oper} {v : Nat → Value} {ob : Obj} (hx : ∀ a w, Fr n F a → Hd h L w → (execOp a.eval o).run P w = .ok (.value (v w.heap.size)) (w.alloc ob)) : MA P n F h L o v ob := hx
theorem WV.mk {o : Oper} {R : Value → World → Prop} (hx : ∀ a w, Fr n F a → St K h L w → ∃ v w', ((execOp a.eval o).run P w = .ok (.value v) w' ∨ (execOp a.eval o).run P w = .ok .skip w' ∧ v = undef) ∧ R v w') : WV P n K F h L o R := hx
theorem CallOf.mk {o : Oper} {fn : FuncId} {args : Array Value} (hx : ∀ a w, Fr n F a → (execOp a.eval o).run P w = .ok (.enter fn args) w) : CallOf P n F o fn args := hx
end
attribute [irreducible] CX NX RX QV MA WV CallOf
end Go.Ck
end
