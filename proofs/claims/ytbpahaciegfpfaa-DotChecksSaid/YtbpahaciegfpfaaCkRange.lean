/-
  CkRange: a range over a function, in the terms of CkBase: a round's assignment and body are walked by the same rules ('CI'); the function that is ranged over calls yield ('li_yield'); the statement itself ('cx_rangeFunc').
  Conditions: the loop is an outermost one, with one variable; its rounds end normally.
-/
import Derived.RangeFuncGives
import Derived.RangeFuncLeaves
import Derived.RangeFuncSeq
import Derived.TacticsIn
import Derived.Test.YtbpahaciegfpfaaCkMore
namespace Go.Ck
open Go
set_option linter.unusedVariables false
section
variable {P : Program} {n : Nat} {K : Bs} {F : List (Nat × Value)} {h : View} {L : List Res} {Q : Exit → Act → World → Prop}

abbrev WF (l : Nat) : Fence := Fence.wide.inRound l
theorem wf_depth (l : Nat) (m : Nat) : (WF l).depth.isSome = true → 1 ≤ m := fun hx => by cases hx

theorem op_in {l m : Nat} {o : Oper} {a : Act} {w : World} {Kn : Act → World → Prop} {Q : Exit → Act → World → Prop} (hd : ∀ c, o.op ≠ .defer c) (hx : o.wp P a w Kn NoQ) : o.wpIn (WF l) m P a w Kn Q := by
  refine ⟨fun _ _ => trivial, ?_⟩
  rw [Oper.semAt_eq _ _ _ hd]
  unfold Oper.wp at hx
  generalize (execOp a.eval o).run P w = r at hx ⊢
  cases r with
  | ok x w' =>
    cases x with
    | value v => exact hx
    | skip => exact hx
    | defer d => exact hx
    | enter f args =>
      refine ⟨wf_depth l m, ?_⟩
      have h1 : Calls P f args w' _ := hx
      have h2 := (callsIn_wide (n := m - 1)).2 h1
      refine CallsIn.mono (F := Fence.wide) h2 ?_
      intro e w'' he
      cases e with
      | returned v => exact he
      | panicked c => exact he.elim
      | outgrown => obtain ⟨_, _, hq⟩ := he; exact hq.elim
    | row row args =>
      refine ⟨wf_depth l m, fun c cs _ => ?_⟩
      have h1 : Rows P row args w' _ := hx
      obtain ⟨v, w'', hr, hs⟩ := h1 c cs
      exact ⟨v, w'', hr, (stepsIn_wide (P := P)).2 hs⟩
    | round _ _ _ _ _ => exact hx.elim
    | recover => exact hx.elim
    | _ => exact hx.elim
  | halt hh w' =>
    cases hh with
    | panic v => exact hx.elim
    | _ => exact hx.elim

def noDefer (ops : List Oper) : Bool := ops.all fun o => match o.op with | .defer _ => false | _ => true
theorem noDefer_spec {ops : List Oper} (hx : noDefer ops = true) : ∀ o ∈ ops, ∀ c, o.op ≠ .defer c := fun o ho c hc => by
  have := List.all_eq_true.1 hx o ho
  rw [hc] at this
  cases this

theorem wpX_in {ops : Array Oper} {l m : Nat} {S : World → Prop} {lo bar : Nat → Bool} : ∀ (rs : List Oper) (k : Nat) (a : Act) (w : World), (∀ o ∈ rs, ∀ c, o.op ≠ .defer c) → wpX P ops S lo bar (Q .normal) (enumFrom k rs) a w → wpListIn (WF l) m P ops Q rs a w
  | [], k, a, w, _, hx => hx
  | o :: rs, k, a, w, hd, hx => by
    have ih : ∀ a w, wpX P ops S lo bar (Q .normal) (enumFrom (k + 1) rs) a w → wpListIn (WF l) m P ops Q rs a w := fun a w => wpX_in rs (k + 1) a w fun o ho => hd o (List.mem_cons_of_mem _ ho)
    have hdo := hd o (List.mem_cons_self ..)
    unfold wpListIn
    rcases hx with ⟨h0, h1⟩ | ⟨h0, h1, v, h2, h3⟩ | ⟨h0, h1, h2, h3⟩
    · rw [if_neg (by rw [h0]; simp)]
      exact ⟨fun _ _ => trivial, ih _ _ h1⟩
    · rw [if_pos h0]
      refine op_in hdo ?_
      unfold Oper.wp
      rw [h2 w h1]
      exact ih _ _ h3
    · rw [if_pos h0]
      exact op_in hdo (Oper.wp_mono (fun a w hk => ih _ _ hk.2) h3)

/-- code of a round -/
def CI (P : Program) (n : Nat) (l : Nat) (K : Bs) (c : Code) (F : List (Nat × Value)) (h : View) (L : List Res) (Q : Exit → Act → World → Prop) : Prop :=
  ∀ m a w, Fr n F a → St K h L w → c.wpIn (WF l) m P Q a w
theorem ci_region {l id : Nat} {ops : Array Oper} (hd : noDefer ops.toList = true) (hx : RX P n K ⟨ops, fun _ => True, fun _ => true, fun _ => false⟩ (enumFrom 0 ops.toList) F h L Q) : CI P n l K (.region id ops false) F h L Q := fun m a w f s => by
  unfold RX at hx
  exact wpIn_region_list (wpX_in _ 0 a w (noDefer_spec hd) (hx a w f s))
theorem ci_block {l id : Nat} {c : Code} (hx : CI P n l K c F h L (Exit.inBlock id Q)) : CI P n l K (.block id c) F h L Q := fun m a w f s => wpIn_block (hx m a w f s)

/-- a round's body begins -/
def Begins (P : Program) (l : Nat) (body : Code) (Q : Exit → Act → World → Prop) : Exit → Act → World → Prop :=
  Exit.then (fun a w => ∃ w₂, (Instr.beginRound l).run P w = .ok () w₂ ∧ ∀ m, body.wpIn (WF l) m P Q a w₂) (fun _ _ _ => False)
theorem St.put {K : Bs} {h : View} {b : Nat} {o o' : Obj} {L : List Res} {w : World} (s : St K h (Res.blk b o :: L) w) : St K h (Res.blk b o' :: L) (w.putObj b o') := by
  have hlt : b < w.heap.size := (Res.blk b o).lt w (s.hd.own _ (List.mem_cons_self ..)) b (List.mem_singleton.2 rfl)
  exact s.write rfl rfl rfl (Nat.le_refl _) (by simp) (fun k hk => World.putObj_heap_other hk) (World.putObj_heap_same hlt)
theorem nx_begins {l : Nat} {r : Loop} {body : Code} {L' : List Res} (hp : L.Perm (Res.blk l (.loop r) :: L')) (hr : r.state = .ready) (hx : CI P n l K body F h (Res.blk l (.loop { r with state := .busy }) :: L') Q) : NX n K .normal F h L (Begins P l body Q) := by
  unfold NX
  intro a w f s
  have s' := s.perm hp
  exact ⟨_, run_beginRound (s'.hd.own _ (List.mem_cons_self ..)) hr, fun m => hx m a _ f s'.put⟩
theorem nx_roundEnd {l : Nat} {r : Loop} {L' : List Res} {R : Ending → World → Prop} (hp : L.Perm (Res.blk l (.loop r) :: L')) (hx : ∀ w, St K h (Res.blk l (.loop { r with state := .ready, pending := none }) :: L') w → R (.returned (.bool true)) w) : NX n K .normal F h L (roundPost P l R) := by
  unfold NX
  intro a w f s
  have s' := s.perm hp
  exact ⟨_, _, run_endRound none (s'.hd.own _ (List.mem_cons_self ..)), hx _ s'.put⟩

/-- yield, at a record that is ready -/
theorem yieldAt_ck {m l p : Nat} {r : Loop} {x : Value} {L' : List Res} {R : Ending → World → Prop} {W : World} (hp : L.Perm (Res.blk l (.loop r) :: L')) (hps : r.params = #[p]) (hF : Fr n F ⟨r.tmps.setIfInBounds p x, []⟩)
    (s : St K h L W) (hx : CI P n l K r.assign F h L (Begins P l r.body (roundPost P l R))) : YieldAt Fence.wide m P l #[x] W R := by
  have s' := s.perm hp
  refine ⟨r.fn, _, r.assign, r.body, run_yield (s'.hd.own _ (List.mem_cons_self ..)) (by rw [hps]; rfl), roundIn_of_wpIn trivial ?_⟩
  rw [hps]
  have ez : (#[p].zip #[x]).foldl (fun tmps (t, a) => tmps.setIfInBounds t a) r.tmps = r.tmps.setIfInBounds p x := by simp
  rw [ez]
  refine wpIn_mono (hx m _ W hF s) ?_
  intro e a w he
  cases e with
  | normal => obtain ⟨w₂, h1, h2⟩ := he; exact ⟨w₂, h1, h2 m⟩
  | _ => exact he

/-- a region in which yield is called -/
def LI (P : Program) (n : Nat) (K : Bs) (ops : Array Oper) (rs : List Oper) (F : List (Nat × Value)) (h : View) (L : List Res) (Q : Exit → Act → World → Prop) : Prop :=
  ∀ a w, Fr n F a → St K h L w → wpListIn Fence.wide 0 P ops Q rs a w
theorem cx_regionI {id : Nat} {ops : Array Oper} (hx : LI P n K ops ops.toList F h L Q) : CX P n K (.region id ops false) F h L Q := by
  unfold CX
  exact fun a w f s => (wpIn_wide (n := 0)).1 (wpIn_region_list (hx a w f s))
theorem li_nil {ops : Array Oper} (hx : NX n K .normal F h L Q) : LI P n K ops [] F h L Q := by
  unfold NX at hx
  exact hx
theorem li_v {ops : Array Oper} {rs : List Oper} {dst : Option Nat} {op : Op} {ty : Nat} {pos : String} {af : Array Edge} {v : Value} (hq : QV P n F h L ⟨dst, op, ty, pos, af, none⟩ v) (hd : okd n dst = true)
    (hx : LI P n K ops rs (putF dst v F) h L Q) : LI P n K ops (⟨dst, op, ty, pos, af, none⟩ :: rs) F h L Q := fun a w f s => by
  unfold QV at hq
  unfold wpListIn
  have hw0 : ∀ o : Oper, o.guard = none → Region.wanted o (yielded ops a.tmps) = true := fun o ho => by unfold Region.wanted; rw [ho]
  rw [if_pos (hw0 _ rfl)]
  refine ⟨fun _ _ => trivial, ?_⟩
  rw [show Fence.wide.round = none from rfl, Oper.semAt_none]
  rw [hq a w f s.hd]
  exact hx _ _ (f.put hd v) s
theorem li_yield {ops : Array Oper} {rs : List Oper} {dst : Option Nat} {ty : Nat} {pos : String} {af : Array Edge} {x y : Operand} {ts : Array TypeId} {l : Nat} {u : Value} {X : Type} {v : X → Value} {LL : X → List Res} {p : X → Prop} {Li Lr : List Res}
    (hv : ev F x = some (.func (.yield l) #[] #[])) (hu : ev F y = some u) (hd : okd n dst = true) (hp : L.Perm (Li ++ Lr))
    (hY : ∀ w, St ⟨w, h, doms Li⟩ h Li w → YieldAt Fence.wide (0 - 1) P l #[u] w fun e w' => ∃ z, e = .returned (v z) ∧ St ⟨w, h, doms Li⟩ h (LL z) w' ∧ p z)
    (hx : ∀ z, p z → LI P n K ops rs (putF dst (v z) F) h (LL z ++ Lr) Q) : LI P n K ops (⟨dst, .call ⟨.value x, #[y], ts⟩, ty, pos, af, none⟩ :: rs) F h L Q := fun a w f s => by
  have s1 : St K h (Li ++ Lr) w := s.perm hp
  obtain ⟨fn, tmps, assign, body, hy, hR⟩ := hY w (St.enter (Li := Li) (Lr := Lr) s1)
  unfold wpListIn
  have hw0 : ∀ o : Oper, o.guard = none → Region.wanted o (yielded ops a.tmps) = true := fun o ho => by unfold Region.wanted; rw [ho]
  rw [if_pos (hw0 _ rfl)]
  refine ⟨fun _ _ => trivial, ?_⟩
  rw [show Fence.wide.round = none from rfl, Oper.semAt_none]
  have hrun : (execOp a.eval ⟨dst, .call ⟨.value x, #[y], ts⟩, ty, pos, af, none⟩).run P w = .ok (.round l fn tmps assign body) w := by
    simp only [execOp, resolve, f.ev hv, Deferred.ofValue, invoke]
    simpa [Sem.run_bind, Result.andThen, f.ev hu] using hy
  rw [hrun]
  refine ⟨fun hx => (by cases hx), RoundIn.mono hR ?_⟩
  rintro e w' ⟨z, rfl, st, pz⟩
  exact hx z pz _ _ (f.put hd _) (St.leave (Li := Li) (Lr := Lr) s1 st)

/-- a function that holds such a loop is entered -/
theorem calls_enter_marks {fn : FuncId} {fu : Func} {c : Code} {l : List Value} {w : World} {A : List Nat} {R : Ending → World → Prop} (hf : P.funcs[fn]? = some fu) (hb : fu.body = some c) (hn : fu.ntmps = n) (hl : Nat.ble l.length n = true)
    (s : St ⟨w, h, A⟩ h L w) (hx : CX P n ⟨w, h, A⟩ c (argsF 0 l) h L (bodyPostM Fence.wide 0 P fu R)) : Calls P fn l.toArray w R := by
  have hl : l.length ≤ n := by simpa using hl
  unfold CX at hx
  refine (callsIn_wide (n := 0)).1 (callsIn_of_wp_marks hf hb trivial ((wpIn_wide (n := 0)).2 (hx _ w ⟨?_, rfl, fun t v ht => ?_⟩ s)))
  · simp [hn]; omega
  · obtain ⟨_, h2⟩ := lk_argsF l 0 t v ht
    have hlt : t < l.length := by
      have := (List.getElem?_eq_some_iff.1 h2).1
      simpa using this
    simp only [Nat.sub_zero] at h2
    rw [Array.getElem?_append_left (by simpa using hlt)]
    simpa using h2

abbrev rec0 (tm : Array Value) (fn : FuncId) (D : Nat) (ps : Array Tmp) (assign body : Code) : Loop := { state := .ready, pending := none, fn := fn, tmps := tm, params := ps, assign := assign, body := body, defers := D }

/-- the statement -/
theorem cx_rangeFunc {g : Operand} {ps : Array Tmp} {assign body : Code} {gfn : FuncId} {cap : List Value} {fu : Func} {c : Code} (hv : ev F g = some (.func (.func gfn) #[] cap.toArray)) (hf : P.funcs[gfn]? = some fu) (hb : fu.body = some c) (hnm : (fu.name == "runtime.NumGoroutine") = false)
    {X : Type} {LL : X → List Res} {p : X → Prop}
    (hcall : ∀ (tm : Array Value) (fn l D : Nat) (w : World), Fr n F ⟨tm, []⟩ → St ⟨w, h, doms (Res.blk l (.loop (rec0 tm fn D ps assign body)) :: L)⟩ h (Res.blk l (.loop (rec0 tm fn D ps assign body)) :: L) w →
      Calls P gfn (.func (.yield l) #[] #[] :: cap).toArray w fun e w' => (∃ v, e = .returned v) ∧ ∃ z, p z ∧ St ⟨w, h, doms (Res.blk l (.loop (rec0 tm fn D ps assign body)) :: L)⟩ h (Res.blk l (.loop (rec0 tm fn D ps assign body)) :: LL z) w')
    (hx : ∀ z tm D, p z → Fr n F ⟨tm, []⟩ → ∀ w, St K h (Res.blk D (.deferred (some [])) :: LL z) w → Q .normal ⟨tm, [{ target := .collected D, args := #[] }]⟩ w) : CX P n K (.rangeFunc g ps assign body) F h L Q := by
  unfold CX
  intro a w f s
  obtain ⟨tm, ds⟩ := a
  obtain rfl : ds = [] := f.dfs
  refine (wpIn_wide (n := 0)).1 (wpIn_rangeFunc ?_)
  intro fn _
  have s1 := s.alloc (.deferred (some []))
  have s2 := s1.alloc (.loop (rec0 tm fn w.heap.size ps assign body))
  rw [World.size_alloc] at s2
  have hnm' : ¬ fu.name = "runtime.NumGoroutine" := by simpa using hnm
  have hr1 : (Instr.enterLoop fn tm ps assign body none).run P w = .ok (w.heap.size + 1, [{ target := .collected w.heap.size, args := #[] }]) ((w.alloc (.deferred (some []))).alloc (.loop (rec0 tm fn w.heap.size ps assign body))) := run_enterLoop_outer _ _ _ _ _
  generalize hW : (w.alloc (.deferred (some []))).alloc (.loop (rec0 tm fn w.heap.size ps assign body)) = W1 at hr1 s2
  refine ⟨w.heap.size + 1, [{ target := .collected w.heap.size, args := #[] }], W1, { target := .fn (.func gfn) cap.toArray, args := #[.func (.yield (w.heap.size + 1)) #[] #[]] }, W1, gfn, #[.func (.yield (w.heap.size + 1)) #[] #[]] ++ cap.toArray, W1, hr1, ?_, fun _ _ => trivial, ?_, (fun hx => (by cases hx)), ?_⟩
  · have hg := f.ev hv
    simp only [resolve, hg, Deferred.ofValue]
    simp [Act.eval]
  · simp [invoke, callFunc, program, Sem.run, hf, hnm', hb]
  · have hperm : (Res.blk (w.heap.size + 1) (.loop (rec0 tm fn w.heap.size ps assign body)) :: Res.blk w.heap.size (.deferred (some [])) :: L).Perm ((Res.blk (w.heap.size + 1) (.loop (rec0 tm fn w.heap.size ps assign body)) :: L) ++ [Res.blk w.heap.size (.deferred (some []))]) := by
      refine List.Perm.cons _ ?_
      exact (List.perm_append_singleton _ _).symm
    have s3 := s2.perm hperm
    have hcl := hcall tm fn (w.heap.size + 1) w.heap.size _ f (St.enter s3)
    have harr : #[Value.func (.yield (w.heap.size + 1)) #[] #[]] ++ cap.toArray = (.func (.yield (w.heap.size + 1)) #[] #[] :: cap).toArray := by simp
    rw [harr]
    refine CallsIn.mono ((callsIn_wide (n := 0 - 1)).2 hcl) ?_
    rintro e w' ⟨⟨v, rfl⟩, z, hz, st⟩
    have s4 := St.leave s3 st
    refine ⟨none, _, run_endLoop (s4.hd.own _ (List.mem_append_left _ (List.mem_cons_self ..))) (by simp), ?_⟩
    have s5 : St K h (Res.blk (w.heap.size + 1) (.loop (rec0 tm fn w.heap.size ps assign body)) :: (LL z ++ [Res.blk w.heap.size (.deferred (some []))])) w' := s4
    have s6 := (s5.put (o' := .loop { rec0 tm fn w.heap.size ps assign body with state := .exhausted })).tl
    exact hx z tm w.heap.size hz f _ (s6.perm (List.perm_append_singleton _ _))

/-- behind the loop: the activation bears the loop's mark -/
def LD (P : Program) (n : Nat) (K : Bs) (ds : List Deferred) (ops : Array Oper) (rs : List Oper) (F : List (Nat × Value)) (h : View) (L : List Res) (Q : Exit → Act → World → Prop) : Prop :=
  ∀ tm w, Fr n F ⟨tm, []⟩ → St K h L w → wpListIn Fence.wide 0 P ops Q rs ⟨tm, ds⟩ w
theorem ld_nil {ds : List Deferred} {ops : Array Oper} (hx : ∀ tm w, Fr n F ⟨tm, []⟩ → St K h L w → Q .normal ⟨tm, ds⟩ w) : LD P n K ds ops [] F h L Q := hx
theorem ld_v {ds : List Deferred} {ops : Array Oper} {rs : List Oper} {dst : Option Nat} {op : Op} {ty : Nat} {pos : String} {af : Array Edge} {v : Value} (hq : QV P n F h L ⟨dst, op, ty, pos, af, none⟩ v) (hd : okd n dst = true)
    (hx : LD P n K ds ops rs (putF dst v F) h L Q) : LD P n K ds ops (⟨dst, op, ty, pos, af, none⟩ :: rs) F h L Q := fun tm w f s => by
  unfold QV at hq
  unfold wpListIn
  have hw0 : ∀ o : Oper, o.guard = none → Region.wanted o (yielded ops (⟨tm, ds⟩ : Act).tmps) = true := fun o ho => by unfold Region.wanted; rw [ho]
  rw [if_pos (hw0 _ rfl)]
  refine ⟨fun _ _ => trivial, ?_⟩
  rw [show Fence.wide.round = none from rfl, Oper.semAt_none]
  have := hq ⟨tm, []⟩ w f s.hd
  have he : (⟨tm, ds⟩ : Act).eval = (⟨tm, []⟩ : Act).eval := rfl
  rw [he, this]
  have hp : (⟨tm, ds⟩ : Act).put dst v = ⟨((⟨tm, []⟩ : Act).put dst v).tmps, ds⟩ := by cases dst <;> rfl
  have hp0 : (⟨((⟨tm, []⟩ : Act).put dst v).tmps, []⟩ : Act) = (⟨tm, []⟩ : Act).put dst v := by cases dst <;> rfl
  show wpListIn Fence.wide 0 P ops Q rs ((⟨tm, ds⟩ : Act).put dst v) w
  rw [hp]
  exact hx _ _ (by rw [hp0]; exact f.put hd v) s
theorem ld_region {ds : List Deferred} {id : Nat} {ops : Array Oper} {tm : Array Value} {w : World} (hx : LD P n K ds ops ops.toList F h L Q) (f : Fr n F ⟨tm, []⟩) (s : St K h L w) : (Code.region id ops false).wp P Q ⟨tm, ds⟩ w :=
  (wpIn_wide (n := 0)).1 (wpIn_region_list (hx tm w f s))
theorem marks_ret {D : Nat} {fu : Func} {R : Ending → World → Prop} {x : ResultVar} {v : Value} {tm : Array Value} {w : World} (hr : fu.results = #[x]) (f : Fr n F ⟨tm, []⟩) (s : St K h (Res.blk D (.deferred (some [])) :: L) w) (hv : RV P F h L x v)
    (hp : ∀ w, St K h L w → R (.returned v) w) : bodyPostM Fence.wide 0 P fu R .ret ⟨tm, [{ target := .collected D, args := #[] }]⟩ w := by
  have s' := (s.put (o' := .deferred none)).tl
  refine ⟨by simp, .inl ⟨D, _, rfl, run_takeDeferred (s.hd.own _ (List.mem_cons_self ..)), ?_⟩⟩
  refine ⟨v, ?_, hp _ s'⟩
  rw [results_eq, hr]
  simp [RV.run hv f s'.hd]
end
end Go.Ck
