/-
  Part 3 of a proof: DotSo CkRange CkTy CkTac DotA DotB DotC.
  Conditions: each theorem states its own.
-/
import Derived.Shelf.SlSortCmp.WholeK
import Derived.Shelf.SlGeneric
import Derived.Ground.SlsfProg
import Derived.Test.YtkkjppeaaicgaaaChecked
import Derived.RangeFuncGives
import Derived.RangeFuncLeaves
import Derived.RangeFuncSeq
import Derived.TacticsIn
import Derived.Test.YtkkjppeaaicgaaaRows
import Derived.Test.YtkkjppeaaicgaaaRpIPM2
section
namespace Go.Proofs
open Go.Shelf
def Try.sortDot_ren : Go.Shelf.Ren := ⟨fun | 6 => 36 | 15 => 59 | 14 => 58 | 28 => 80 | 29 => 81 | 20 => 72 | 21 => 73 | 22 => 74 | 23 => 75 | 24 => 76 | 25 => 77 | 26 => 78 | 27 => 79 | 46 => 90 | 47 => 91 | 48 => 92 | 49 => 93 | 50 => 94 | 57 => 99 | n => n, fun | 22 => 31 | 24 => 39 | 25 => 82 | 3 => 3 | 39 => 106 | 0 => 0 | 53 => 126 | 55 => 72 | 4 => 4 | 46 => 119 | 45 => 118 | 50 => 123 | 5 => 5 | 9 => 9 | 66 => 137 | 70 => 132 | 76 => 144 | 77 => 145 | n => n, fun | n => n⟩
theorem Try.sortDot : Go.Proofs.SlLaysF0.n6 Try.prog Try.sortDot_ren := {
  mixed := by kernel_rfl
  f6 := ⟨Try.f36.name, by decide, Try.func36.trans (congrArg some (by kernel_rfl))⟩
  f14 := ⟨Try.f58.name, by decide, Try.func58.trans (congrArg some (by kernel_rfl))⟩
  f15 := Try.func59.trans (congrArg some (by kernel_rfl))
  f20 := ⟨Try.f72.name, by decide, Try.func72.trans (congrArg some (by kernel_rfl))⟩
  f21 := ⟨Try.f73.name, by decide, Try.func73.trans (congrArg some (by kernel_rfl))⟩
  f22 := ⟨Try.f74.name, by decide, Try.func74.trans (congrArg some (by kernel_rfl))⟩
  f23 := ⟨Try.f75.name, by decide, Try.func75.trans (congrArg some (by kernel_rfl))⟩
  f24 := ⟨Try.f76.name, by decide, Try.func76.trans (congrArg some (by kernel_rfl))⟩
  f25 := ⟨Try.f77.name, by decide, Try.func77.trans (congrArg some (by kernel_rfl))⟩
  f26 := ⟨Try.f78.name, by decide, Try.func78.trans (congrArg some (by kernel_rfl))⟩
  f27 := ⟨Try.f79.name, by decide, Try.func79.trans (congrArg some (by kernel_rfl))⟩
  f28 := Try.func80.trans (congrArg some (by kernel_rfl))
  f29 := Try.func81.trans (congrArg some (by kernel_rfl))
  f46 := ⟨Try.f90.name, by decide, Try.func90.trans (congrArg some (by kernel_rfl))⟩
  f47 := Try.func91.trans (congrArg some (by kernel_rfl))
  f48 := Try.func92.trans (congrArg some (by kernel_rfl))
  f49 := ⟨Try.f93.name, by decide, Try.func93.trans (congrArg some (by kernel_rfl))⟩
  f50 := ⟨Try.f94.name, by decide, Try.func94.trans (congrArg some (by kernel_rfl))⟩
  f57 := ⟨Try.f99.name, by decide, Try.func99.trans (congrArg some (by kernel_rfl))⟩
  t0 := Try.underlying0
  a0 := Try.isAgg0
  z0 := Try.sizeOf0
  v0 := Try.zeroValue0
  t3 := Try.underlying3
  a3 := Try.isAgg3
  z3 := Try.sizeOf3
  v3 := Try.zeroValue3
  t4 := Try.underlying4
  a4 := Try.isAgg4
  z4 := Try.sizeOf4
  v4 := Try.zeroValue4
  t5 := Try.underlying5
  a5 := Try.isAgg5
  z5 := Try.sizeOf5
  v5 := Try.zeroValue5
  t9 := Try.underlying9
  a9 := Try.isAgg9
  z9 := Try.sizeOf9
  v9 := Try.zeroValue9
  t22 := Try.underlying31
  a22 := Try.isAgg31
  z22 := Try.sizeOf31
  v22 := Try.zeroValue31
  t25 := Try.underlying82
  a25 := Try.isAgg82
  z25 := Try.sizeOf82
  v25 := Try.zeroValue82
  t39 := Try.underlying106
  a39 := Try.isAgg106
  z39 := Try.sizeOf106
  v39 := Try.zeroValue106
  t45 := Try.underlying118
  a45 := Try.isAgg118
  z45 := Try.sizeOf118
  v45 := Try.zeroValue118
  t46 := Try.underlying119
  a46 := Try.isAgg119
  z46 := Try.sizeOf119
  v46 := Try.zeroValue119
  t50 := Try.underlying123
  a50 := Try.isAgg123
  z50 := Try.sizeOf123
  v50 := Try.zeroValue123
  t53 := Try.underlying126
  a53 := Try.isAgg126
  z53 := Try.sizeOf126
  v53 := Try.zeroValue126
  t55 := Try.underlying72
  a55 := Try.isAgg72
  z55 := Try.sizeOf72
  v55 := Try.zeroValue72
  t66 := Try.underlying137
  a66 := Try.isAgg137
  z66 := Try.sizeOf137
  v66 := Try.zeroValue137
  t70 := Try.underlying132
  a70 := Try.isAgg132
  z70 := Try.sizeOf132
  v70 := Try.zeroValue132
  t76 := Try.underlying144
  a76 := Try.isAgg144
  z76 := Try.sizeOf144
  v76 := Try.zeroValue144
  t77 := Try.underlying145
  a77 := Try.isAgg145
  z77 := Try.sizeOf145
  v77 := Try.zeroValue145 }
end Go.Proofs
end

section
namespace Go.Ck
open Go
set_option linter.unusedVariables false
section
variable {P : Program} {n : Nat} {K : Bs} {F : List (Nat × Value)} {h : View} {L : List Res} {Q : Exit → Act → World → Prop}

abbrev WF (l : Nat) : Fence := Fence.wide.inRound l
theorem wf_depth (l : Nat) (m : Nat) : (WF l).depth.isSome = true → 1 ≤ m := fun hx => by cases hx

theorem op_in {l m : Nat} {o : Oper} {a : Act} {w : World} {Kn : Act → World → Prop} {Q : Exit → Act → World → Prop} (hd : ∀ c, o.op ≠ .defer c) (hx : o.wp P a w Kn NoQ) : o.wpIn (WF l) m P a w Kn Q := by
  refine ⟨fun _ _ => trivial, ?_⟩
  rw [Oper.semAt_eq _ _ _ hd]
  unfold Oper.wp at hx
  generalize (execOp a.eval o).run P w = r at hx ⊢
  cases r with
  | ok x w' =>
    cases x with
    | value v => exact hx
    | skip => exact hx
    | defer d => exact hx
    | enter f args =>
      refine ⟨wf_depth l m, ?_⟩
      have h1 : Calls P f args w' _ := hx
      have h2 := (callsIn_wide (n := m - 1)).2 h1
      refine CallsIn.mono (F := Fence.wide) h2 ?_
      intro e w'' he
      cases e with
      | returned v => exact he
      | panicked c => exact he.elim
      | outgrown => obtain ⟨_, _, hq⟩ := he; exact hq.elim
    | row row args =>
      refine ⟨wf_depth l m, fun c cs _ => ?_⟩
      have h1 : Rows P row args w' _ := hx
      obtain ⟨v, w'', hr, hs⟩ := h1 c cs
      exact ⟨v, w'', hr, (stepsIn_wide (P := P)).2 hs⟩
    | round _ _ _ _ _ => exact hx.elim
    | recover => exact hx.elim
    | _ => exact hx.elim
  | halt hh w' =>
    cases hh with
    | panic v => exact hx.elim
    | _ => exact hx.elim

def noDefer (ops : List Oper) : Bool := ops.all fun o => match o.op with | .defer _ => false | _ => true
theorem noDefer_spec {ops : List Oper} (hx : noDefer ops = true) : ∀ o ∈ ops, ∀ c, o.op ≠ .defer c := fun o ho c hc => by
  have := List.all_eq_true.1 hx o ho
  rw [hc] at this
  cases this

theorem wpX_in {ops : Array Oper} {l m : Nat} {S : World → Prop} {lo bar : Nat → Bool} : ∀ (rs : List Oper) (k : Nat) (a : Act) (w : World), (∀ o ∈ rs, ∀ c, o.op ≠ .defer c) → wpX P ops S lo bar (Q .normal) (enumFrom k rs) a w → wpListIn (WF l) m P ops Q rs a w
  | [], k, a, w, _, hx => hx
  | o :: rs, k, a, w, hd, hx => by
    have ih : ∀ a w, wpX P ops S lo bar (Q .normal) (enumFrom (k + 1) rs) a w → wpListIn (WF l) m P ops Q rs a w := fun a w => wpX_in rs (k + 1) a w fun o ho => hd o (List.mem_cons_of_mem _ ho)
    have hdo := hd o (List.mem_cons_self ..)
    unfold wpListIn
    rcases hx with ⟨h0, h1⟩ | ⟨h0, h1, v, h2, h3⟩ | ⟨h0, h1, h2, h3⟩
    · rw [if_neg (by rw [h0]; simp)]
      exact ⟨fun _ _ => trivial, ih _ _ h1⟩
    · rw [if_pos h0]
      refine op_in hdo ?_
      unfold Oper.wp
      rw [h2 w h1]
      exact ih _ _ h3
    · rw [if_pos h0]
      exact op_in hdo (Oper.wp_mono (fun a w hk => ih _ _ hk.2) h3)

/-- code of a round -/
def CI (P : Program) (n : Nat) (l : Nat) (K : Bs) (c : Code) (F : List (Nat × Value)) (h : View) (L : List Res) (Q : Exit → Act → World → Prop) : Prop :=
  ∀ m a w, Fr n F a → St K h L w → c.wpIn (WF l) m P Q a w
theorem ci_region {l id : Nat} {ops : Array Oper} (hd : noDefer ops.toList = true) (hx : RX P n K ⟨ops, fun _ => True, fun _ => true, fun _ => false⟩ (enumFrom 0 ops.toList) F h L Q) : CI P n l K (.region id ops false) F h L Q := fun m a w f s => by
  unfold RX at hx
  exact wpIn_region_list (wpX_in _ 0 a w (noDefer_spec hd) (hx a w f s))
theorem ci_block {l id : Nat} {c : Code} (hx : CI P n l K c F h L (Exit.inBlock id Q)) : CI P n l K (.block id c) F h L Q := fun m a w f s => wpIn_block (hx m a w f s)

/-- a round's body begins -/
def Begins (P : Program) (l : Nat) (body : Code) (Q : Exit → Act → World → Prop) : Exit → Act → World → Prop :=
  Exit.then (fun a w => ∃ w₂, (Instr.beginRound l).run P w = .ok () w₂ ∧ ∀ m, body.wpIn (WF l) m P Q a w₂) (fun _ _ _ => False)
theorem St.put {K : Bs} {h : View} {b : Nat} {o o' : Obj} {L : List Res} {w : World} (s : St K h (Res.blk b o :: L) w) : St K h (Res.blk b o' :: L) (w.putObj b o') := by
  have hlt : b < w.heap.size := (Res.blk b o).lt w (s.hd.own _ (List.mem_cons_self ..)) b (List.mem_singleton.2 rfl)
  exact s.write rfl rfl rfl (Nat.le_refl _) (by simp) (fun k hk => World.putObj_heap_other hk) (World.putObj_heap_same hlt)
theorem nx_begins {l : Nat} {r : Loop} {body : Code} {L' : List Res} (hp : L.Perm (Res.blk l (.loop r) :: L')) (hr : r.state = .ready) (hx : CI P n l K body F h (Res.blk l (.loop { r with state := .busy }) :: L') Q) : NX n K .normal F h L (Begins P l body Q) := by
  unfold NX
  intro a w f s
  have s' := s.perm hp
  exact ⟨_, run_beginRound (s'.hd.own _ (List.mem_cons_self ..)) hr, fun m => hx m a _ f s'.put⟩
theorem nx_roundEnd {l : Nat} {r : Loop} {L' : List Res} {R : Ending → World → Prop} (hp : L.Perm (Res.blk l (.loop r) :: L')) (hx : ∀ w, St K h (Res.blk l (.loop { r with state := .ready, pending := none }) :: L') w → R (.returned (.bool true)) w) : NX n K .normal F h L (roundPost P l R) := by
  unfold NX
  intro a w f s
  have s' := s.perm hp
  exact ⟨_, _, run_endRound none (s'.hd.own _ (List.mem_cons_self ..)), hx _ s'.put⟩

/-- yield, at a record that is ready -/
theorem yieldAt_ck {m l p : Nat} {r : Loop} {x : Value} {L' : List Res} {R : Ending → World → Prop} {W : World} (hp : L.Perm (Res.blk l (.loop r) :: L')) (hps : r.params = #[p]) (hF : Fr n F ⟨r.tmps.setIfInBounds p x, []⟩)
    (s : St K h L W) (hx : CI P n l K r.assign F h L (Begins P l r.body (roundPost P l R))) : YieldAt Fence.wide m P l #[x] W R := by
  have s' := s.perm hp
  refine ⟨r.fn, _, r.assign, r.body, run_yield (s'.hd.own _ (List.mem_cons_self ..)) (by rw [hps]; rfl), roundIn_of_wpIn trivial ?_⟩
  rw [hps]
  have ez : (#[p].zip #[x]).foldl (fun tmps (t, a) => tmps.setIfInBounds t a) r.tmps = r.tmps.setIfInBounds p x := by simp
  rw [ez]
  refine wpIn_mono (hx m _ W hF s) ?_
  intro e a w he
  cases e with
  | normal => obtain ⟨w₂, h1, h2⟩ := he; exact ⟨w₂, h1, h2 m⟩
  | _ => exact he

/-- a region in which yield is called -/
def LI (P : Program) (n : Nat) (K : Bs) (ops : Array Oper) (rs : List Oper) (F : List (Nat × Value)) (h : View) (L : List Res) (Q : Exit → Act → World → Prop) : Prop :=
  ∀ a w, Fr n F a → St K h L w → wpListIn Fence.wide 0 P ops Q rs a w
theorem cx_regionI {id : Nat} {ops : Array Oper} (hx : LI P n K ops ops.toList F h L Q) : CX P n K (.region id ops false) F h L Q := by
  unfold CX
  exact fun a w f s => (wpIn_wide (n := 0)).1 (wpIn_region_list (hx a w f s))
theorem li_nil {ops : Array Oper} (hx : NX n K .normal F h L Q) : LI P n K ops [] F h L Q := by
  unfold NX at hx
  exact hx
theorem li_v {ops : Array Oper} {rs : List Oper} {dst : Option Nat} {op : Op} {ty : Nat} {pos : String} {af : Array Edge} {v : Value} (hq : QV P n F h L ⟨dst, op, ty, pos, af, none⟩ v) (hd : okd n dst = true)
    (hx : LI P n K ops rs (putF dst v F) h L Q) : LI P n K ops (⟨dst, op, ty, pos, af, none⟩ :: rs) F h L Q := fun a w f s => by
  unfold QV at hq
  unfold wpListIn
  have hw0 : ∀ o : Oper, o.guard = none → Region.wanted o (yielded ops a.tmps) = true := fun o ho => by unfold Region.wanted; rw [ho]
  rw [if_pos (hw0 _ rfl)]
  refine ⟨fun _ _ => trivial, ?_⟩
  rw [show Fence.wide.round = none from rfl, Oper.semAt_none]
  rw [hq a w f s.hd]
  exact hx _ _ (f.put hd v) s
theorem li_yield {ops : Array Oper} {rs : List Oper} {dst : Option Nat} {ty : Nat} {pos : String} {af : Array Edge} {x y : Operand} {ts : Array TypeId} {l : Nat} {u : Value} {X : Type} {v : X → Value} {LL : X → List Res} {p : X → Prop} {Li Lr : List Res}
    (hv : ev F x = some (.func (.yield l) #[] #[])) (hu : ev F y = some u) (hd : okd n dst = true) (hp : L.Perm (Li ++ Lr))
    (hY : ∀ w, St ⟨w, h, doms Li⟩ h Li w → YieldAt Fence.wide (0 - 1) P l #[u] w fun e w' => ∃ z, e = .returned (v z) ∧ St ⟨w, h, doms Li⟩ h (LL z) w' ∧ p z)
    (hx : ∀ z, p z → LI P n K ops rs (putF dst (v z) F) h (LL z ++ Lr) Q) : LI P n K ops (⟨dst, .call ⟨.value x, #[y], ts⟩, ty, pos, af, none⟩ :: rs) F h L Q := fun a w f s => by
  have s1 : St K h (Li ++ Lr) w := s.perm hp
  obtain ⟨fn, tmps, assign, body, hy, hR⟩ := hY w (St.enter (Li := Li) (Lr := Lr) s1)
  unfold wpListIn
  have hw0 : ∀ o : Oper, o.guard = none → Region.wanted o (yielded ops a.tmps) = true := fun o ho => by unfold Region.wanted; rw [ho]
  rw [if_pos (hw0 _ rfl)]
  refine ⟨fun _ _ => trivial, ?_⟩
  rw [show Fence.wide.round = none from rfl, Oper.semAt_none]
  have hrun : (execOp a.eval ⟨dst, .call ⟨.value x, #[y], ts⟩, ty, pos, af, none⟩).run P w = .ok (.round l fn tmps assign body) w := by
    simp only [execOp, resolve, f.ev hv, Deferred.ofValue, invoke]
    simpa [Sem.run_bind, Result.andThen, f.ev hu] using hy
  rw [hrun]
  refine ⟨fun hx => (by cases hx), RoundIn.mono hR ?_⟩
  rintro e w' ⟨z, rfl, st, pz⟩
  exact hx z pz _ _ (f.put hd _) (St.leave (Li := Li) (Lr := Lr) s1 st)

/-- a function that holds such a loop is entered -/
theorem calls_enter_marks {fn : FuncId} {fu : Func} {c : Code} {l : List Value} {w : World} {A : List Nat} {R : Ending → World → Prop} (hf : P.funcs[fn]? = some fu) (hb : fu.body = some c) (hn : fu.ntmps = n) (hl : Nat.ble l.length n = true)
    (s : St ⟨w, h, A⟩ h L w) (hx : CX P n ⟨w, h, A⟩ c (argsF 0 l) h L (bodyPostM Fence.wide 0 P fu R)) : Calls P fn l.toArray w R := by
  have hl : l.length ≤ n := by simpa using hl
  unfold CX at hx
  refine (callsIn_wide (n := 0)).1 (callsIn_of_wp_marks hf hb trivial ((wpIn_wide (n := 0)).2 (hx _ w ⟨?_, rfl, fun t v ht => ?_⟩ s)))
  · simp [hn]; omega
  · obtain ⟨_, h2⟩ := lk_argsF l 0 t v ht
    have hlt : t < l.length := by
      have := (List.getElem?_eq_some_iff.1 h2).1
      simpa using this
    simp only [Nat.sub_zero] at h2
    rw [Array.getElem?_append_left (by simpa using hlt)]
    simpa using h2

abbrev rec0 (tm : Array Value) (fn : FuncId) (D : Nat) (ps : Array Tmp) (assign body : Code) : Loop := { state := .ready, pending := none, fn := fn, tmps := tm, params := ps, assign := assign, body := body, defers := D }

/-- the statement -/
theorem cx_rangeFunc {g : Operand} {ps : Array Tmp} {assign body : Code} {gfn : FuncId} {cap : List Value} {fu : Func} {c : Code} (hv : ev F g = some (.func (.func gfn) #[] cap.toArray)) (hf : P.funcs[gfn]? = some fu) (hb : fu.body = some c) (hnm : (fu.name == "runtime.NumGoroutine") = false)
    {X : Type} {LL : X → List Res} {p : X → Prop}
    (hcall : ∀ (tm : Array Value) (fn l D : Nat) (w : World), Fr n F ⟨tm, []⟩ → St ⟨w, h, doms (Res.blk l (.loop (rec0 tm fn D ps assign body)) :: L)⟩ h (Res.blk l (.loop (rec0 tm fn D ps assign body)) :: L) w →
      Calls P gfn (.func (.yield l) #[] #[] :: cap).toArray w fun e w' => (∃ v, e = .returned v) ∧ ∃ z, p z ∧ St ⟨w, h, doms (Res.blk l (.loop (rec0 tm fn D ps assign body)) :: L)⟩ h (Res.blk l (.loop (rec0 tm fn D ps assign body)) :: LL z) w')
    (hx : ∀ z tm D, p z → Fr n F ⟨tm, []⟩ → ∀ w, St K h (Res.blk D (.deferred (some [])) :: LL z) w → Q .normal ⟨tm, [{ target := .collected D, args := #[] }]⟩ w) : CX P n K (.rangeFunc g ps assign body) F h L Q := by
  unfold CX
  intro a w f s
  obtain ⟨tm, ds⟩ := a
  obtain rfl : ds = [] := f.dfs
  refine (wpIn_wide (n := 0)).1 (wpIn_rangeFunc ?_)
  intro fn _
  have s1 := s.alloc (.deferred (some []))
  have s2 := s1.alloc (.loop (rec0 tm fn w.heap.size ps assign body))
  rw [World.size_alloc] at s2
  have hnm' : ¬ fu.name = "runtime.NumGoroutine" := by simpa using hnm
  have hr1 : (Instr.enterLoop fn tm ps assign body none).run P w = .ok (w.heap.size + 1, [{ target := .collected w.heap.size, args := #[] }]) ((w.alloc (.deferred (some []))).alloc (.loop (rec0 tm fn w.heap.size ps assign body))) := run_enterLoop_outer _ _ _ _ _
  generalize hW : (w.alloc (.deferred (some []))).alloc (.loop (rec0 tm fn w.heap.size ps assign body)) = W1 at hr1 s2
  refine ⟨w.heap.size + 1, [{ target := .collected w.heap.size, args := #[] }], W1, { target := .fn (.func gfn) cap.toArray, args := #[.func (.yield (w.heap.size + 1)) #[] #[]] }, W1, gfn, #[.func (.yield (w.heap.size + 1)) #[] #[]] ++ cap.toArray, W1, hr1, ?_, fun _ _ => trivial, ?_, (fun hx => (by cases hx)), ?_⟩
  · have hg := f.ev hv
    simp only [resolve, hg, Deferred.ofValue]
    simp [Act.eval]
  · simp [invoke, callFunc, program, Sem.run, hf, hnm', hb]
  · have hperm : (Res.blk (w.heap.size + 1) (.loop (rec0 tm fn w.heap.size ps assign body)) :: Res.blk w.heap.size (.deferred (some [])) :: L).Perm ((Res.blk (w.heap.size + 1) (.loop (rec0 tm fn w.heap.size ps assign body)) :: L) ++ [Res.blk w.heap.size (.deferred (some []))]) := by
      refine List.Perm.cons _ ?_
      exact (List.perm_append_singleton _ _).symm
    have s3 := s2.perm hperm
    have hcl := hcall tm fn (w.heap.size + 1) w.heap.size _ f (St.enter s3)
    have harr : #[Value.func (.yield (w.heap.size + 1)) #[] #[]] ++ cap.toArray = (.func (.yield (w.heap.size + 1)) #[] #[] :: cap).toArray := by simp
    rw [harr]
    refine CallsIn.mono ((callsIn_wide (n := 0 - 1)).2 hcl) ?_
    rintro e w' ⟨⟨v, rfl⟩, z, hz, st⟩
    have s4 := St.leave s3 st
    refine ⟨none, _, run_endLoop (s4.hd.own _ (List.mem_append_left _ (List.mem_cons_self ..))) (by simp), ?_⟩
    have s5 : St K h (Res.blk (w.heap.size + 1) (.loop (rec0 tm fn w.heap.size ps assign body)) :: (LL z ++ [Res.blk w.heap.size (.deferred (some []))])) w' := s4
    have s6 := (s5.put (o' := .loop { rec0 tm fn w.heap.size ps assign body with state := .exhausted })).tl
    exact hx z tm w.heap.size hz f _ (s6.perm (List.perm_append_singleton _ _))

/-- behind the loop: the activation bears the loop's mark -/
def LD (P : Program) (n : Nat) (K : Bs) (ds : List Deferred) (ops : Array Oper) (rs : List Oper) (F : List (Nat × Value)) (h : View) (L : List Res) (Q : Exit → Act → World → Prop) : Prop :=
  ∀ tm w, Fr n F ⟨tm, []⟩ → St K h L w → wpListIn Fence.wide 0 P ops Q rs ⟨tm, ds⟩ w
theorem ld_nil {ds : List Deferred} {ops : Array Oper} (hx : ∀ tm w, Fr n F ⟨tm, []⟩ → St K h L w → Q .normal ⟨tm, ds⟩ w) : LD P n K ds ops [] F h L Q := hx
theorem ld_v {ds : List Deferred} {ops : Array Oper} {rs : List Oper} {dst : Option Nat} {op : Op} {ty : Nat} {pos : String} {af : Array Edge} {v : Value} (hq : QV P n F h L ⟨dst, op, ty, pos, af, none⟩ v) (hd : okd n dst = true)
    (hx : LD P n K ds ops rs (putF dst v F) h L Q) : LD P n K ds ops (⟨dst, op, ty, pos, af, none⟩ :: rs) F h L Q := fun tm w f s => by
  unfold QV at hq
  unfold wpListIn
  have hw0 : ∀ o : Oper, o.guard = none → Region.wanted o (yielded ops (⟨tm, ds⟩ : Act).tmps) = true := fun o ho => by unfold Region.wanted; rw [ho]
  rw [if_pos (hw0 _ rfl)]
  refine ⟨fun _ _ => trivial, ?_⟩
  rw [show Fence.wide.round = none from rfl, Oper.semAt_none]
  have := hq ⟨tm, []⟩ w f s.hd
  have he : (⟨tm, ds⟩ : Act).eval = (⟨tm, []⟩ : Act).eval := rfl
  rw [he, this]
  have hp : (⟨tm, ds⟩ : Act).put dst v = ⟨((⟨tm, []⟩ : Act).put dst v).tmps, ds⟩ := by cases dst <;> rfl
  have hp0 : (⟨((⟨tm, []⟩ : Act).put dst v).tmps, []⟩ : Act) = (⟨tm, []⟩ : Act).put dst v := by cases dst <;> rfl
  show wpListIn Fence.wide 0 P ops Q rs ((⟨tm, ds⟩ : Act).put dst v) w
  rw [hp]
  exact hx _ _ (by rw [hp0]; exact f.put hd v) s
theorem ld_region {ds : List Deferred} {id : Nat} {ops : Array Oper} {tm : Array Value} {w : World} (hx : LD P n K ds ops ops.toList F h L Q) (f : Fr n F ⟨tm, []⟩) (s : St K h L w) : (Code.region id ops false).wp P Q ⟨tm, ds⟩ w :=
  (wpIn_wide (n := 0)).1 (wpIn_region_list (hx tm w f s))
theorem marks_ret {D : Nat} {fu : Func} {R : Ending → World → Prop} {x : ResultVar} {v : Value} {tm : Array Value} {w : World} (hr : fu.results = #[x]) (f : Fr n F ⟨tm, []⟩) (s : St K h (Res.blk D (.deferred (some [])) :: L) w) (hv : RV P F h L x v)
    (hp : ∀ w, St K h L w → R (.returned v) w) : bodyPostM Fence.wide 0 P fu R .ret ⟨tm, [{ target := .collected D, args := #[] }]⟩ w := by
  have s' := (s.put (o' := .deferred none)).tl
  refine ⟨by simp, .inl ⟨D, _, rfl, run_takeDeferred (s.hd.own _ (List.mem_cons_self ..)), ?_⟩⟩
  refine ⟨v, ?_, hp _ s'⟩
  rw [results_eq, hr]
  simp [RV.run hv f s'.hd]
end
end Go.Ck
end

section
namespace Go.Proofs.Ytkkjppeaaicgaaa
open Go Go.Ck

instance cku3 : TyU Try.prog 3 (Go.TypeDesc.int Go.IntKind.i64) := ⟨Try.underlying3⟩
instance cku4 : TyU Try.prog 4 (Go.TypeDesc.bool) := ⟨Try.underlying4⟩
instance cku5 : TyU Try.prog 5 (Go.TypeDesc.int Go.IntKind.u8) := ⟨Try.underlying5⟩
instance cku9 : TyU Try.prog 9 (Go.TypeDesc.string) := ⟨Try.underlying9⟩
instance cku22 : TyU Try.prog 22 (Go.TypeDesc.slice 71) := ⟨Try.underlying22⟩
instance cku23 : TyU Try.prog 23 (Go.TypeDesc.slice 5) := ⟨Try.underlying23⟩
instance cku25 : TyU Try.prog 25 (Go.TypeDesc.slice 41) := ⟨Try.underlying25⟩
instance cku28 : TyU Try.prog 28 (Go.TypeDesc.int Go.IntKind.i64) := ⟨Try.underlying28⟩
instance cku30 : TyU Try.prog 30 (Go.TypeDesc.array 16 3) := ⟨Try.underlying30⟩
instance cku31 : TyU Try.prog 31 (Go.TypeDesc.slice 39) := ⟨Try.underlying31⟩
instance ckf33_0 : TyF Try.prog 33 0 0 30 16 := ⟨_, _, Try.underlying33, rfl, rfl, rfl, Try.sizeOf30⟩
instance ckf33_1 : TyF Try.prog 33 1 16 31 1 := ⟨_, _, Try.underlying33, rfl, rfl, rfl, Try.sizeOf31⟩
instance ckf39_0 : TyF Try.prog 39 0 0 3 1 := ⟨_, _, Try.underlying39, rfl, rfl, rfl, Try.sizeOf3⟩
instance ckf39_1 : TyF Try.prog 39 1 1 3 1 := ⟨_, _, Try.underlying39, rfl, rfl, rfl, Try.sizeOf3⟩
instance ckf41_0 : TyF Try.prog 41 0 0 39 2 := ⟨_, _, Try.underlying41, rfl, rfl, rfl, Try.sizeOf39⟩
instance ckf41_1 : TyF Try.prog 41 1 2 33 17 := ⟨_, _, Try.underlying41, rfl, rfl, rfl, Try.sizeOf33⟩
instance ckf41_2 : TyF Try.prog 41 2 19 23 1 := ⟨_, _, Try.underlying41, rfl, rfl, rfl, Try.sizeOf23⟩
instance cku45 : TyU Try.prog 45 (Go.TypeDesc.slice 48) := ⟨Try.underlying45⟩
instance cku46 : TyU Try.prog 46 (Go.TypeDesc.slice 50) := ⟨Try.underlying46⟩
instance ckf48_0 : TyF Try.prog 48 0 0 3 1 := ⟨_, _, Try.underlying48, rfl, rfl, rfl, Try.sizeOf3⟩
instance ckf48_1 : TyF Try.prog 48 1 1 22 1 := ⟨_, _, Try.underlying48, rfl, rfl, rfl, Try.sizeOf22⟩
instance ckf50_0 : TyF Try.prog 50 0 0 3 1 := ⟨_, _, Try.underlying50, rfl, rfl, rfl, Try.sizeOf3⟩
instance ckf50_1 : TyF Try.prog 50 1 1 25 1 := ⟨_, _, Try.underlying50, rfl, rfl, rfl, Try.sizeOf25⟩
instance cku54 : TyU Try.prog 54 (Go.TypeDesc.slice 3) := ⟨Try.underlying54⟩
instance cku64 : TyU Try.prog 64 (Go.TypeDesc.slice 99) := ⟨Try.underlying64⟩
instance cku65 : TyU Try.prog 65 (Go.TypeDesc.array 4 22) := ⟨Try.underlying65⟩
instance ckf69_0 : TyF Try.prog 69 0 0 30 16 := ⟨_, _, Try.underlying69, rfl, rfl, rfl, Try.sizeOf30⟩
instance ckf69_1 : TyF Try.prog 69 1 16 31 1 := ⟨_, _, Try.underlying69, rfl, rfl, rfl, Try.sizeOf31⟩
instance ckf71_0 : TyF Try.prog 71 0 0 39 2 := ⟨_, _, Try.underlying71, rfl, rfl, rfl, Try.sizeOf39⟩
instance ckf71_1 : TyF Try.prog 71 1 2 69 17 := ⟨_, _, Try.underlying71, rfl, rfl, rfl, Try.sizeOf69⟩
instance ckf71_2 : TyF Try.prog 71 2 19 9 1 := ⟨_, _, Try.underlying71, rfl, rfl, rfl, Try.sizeOf9⟩
instance cku72 : TyU Try.prog 72 (Go.TypeDesc.int Go.IntKind.u64) := ⟨Try.underlying72⟩
instance cku90 : TyU Try.prog 90 (Go.TypeDesc.slice 25) := ⟨Try.underlying90⟩
instance cku97 : TyU Try.prog 97 (Go.TypeDesc.array 5 3) := ⟨Try.underlying97⟩
instance ckf99_0 : TyF Try.prog 99 0 0 4 1 := ⟨_, _, Try.underlying99, rfl, rfl, rfl, Try.sizeOf4⟩
instance ckf99_1 : TyF Try.prog 99 1 1 3 1 := ⟨_, _, Try.underlying99, rfl, rfl, rfl, Try.sizeOf3⟩
instance ckf99_2 : TyF Try.prog 99 2 2 3 1 := ⟨_, _, Try.underlying99, rfl, rfl, rfl, Try.sizeOf3⟩
instance ckf99_3 : TyF Try.prog 99 3 3 3 1 := ⟨_, _, Try.underlying99, rfl, rfl, rfl, Try.sizeOf3⟩
instance ckf99_4 : TyF Try.prog 99 4 4 4 1 := ⟨_, _, Try.underlying99, rfl, rfl, rfl, Try.sizeOf4⟩
instance cku106 : TyU Try.prog 106 (Go.TypeDesc.int Go.IntKind.u64) := ⟨Try.underlying106⟩
instance cka3 : TyA Try.prog 3 false := ⟨Try.isAgg3⟩
instance cka4 : TyA Try.prog 4 false := ⟨Try.isAgg4⟩
instance cka5 : TyA Try.prog 5 false := ⟨Try.isAgg5⟩
instance cka9 : TyA Try.prog 9 false := ⟨Try.isAgg9⟩
instance cka22 : TyA Try.prog 22 false := ⟨Try.isAgg22⟩
instance cka23 : TyA Try.prog 23 false := ⟨Try.isAgg23⟩
instance cka25 : TyA Try.prog 25 false := ⟨Try.isAgg25⟩
instance cka28 : TyA Try.prog 28 false := ⟨Try.isAgg28⟩
instance cka30 : TyA Try.prog 30 true := ⟨Try.isAgg30⟩
instance cka31 : TyA Try.prog 31 false := ⟨Try.isAgg31⟩
instance cka33 : TyA Try.prog 33 true := ⟨Try.isAgg33⟩
instance cka39 : TyA Try.prog 39 true := ⟨Try.isAgg39⟩
instance cka41 : TyA Try.prog 41 true := ⟨Try.isAgg41⟩
instance cka45 : TyA Try.prog 45 false := ⟨Try.isAgg45⟩
instance cka46 : TyA Try.prog 46 false := ⟨Try.isAgg46⟩
instance cka48 : TyA Try.prog 48 true := ⟨Try.isAgg48⟩
instance cka50 : TyA Try.prog 50 true := ⟨Try.isAgg50⟩
instance cka54 : TyA Try.prog 54 false := ⟨Try.isAgg54⟩
instance cka64 : TyA Try.prog 64 false := ⟨Try.isAgg64⟩
instance cka65 : TyA Try.prog 65 true := ⟨Try.isAgg65⟩
instance cka69 : TyA Try.prog 69 true := ⟨Try.isAgg69⟩
instance cka71 : TyA Try.prog 71 true := ⟨Try.isAgg71⟩
instance cka72 : TyA Try.prog 72 false := ⟨Try.isAgg72⟩
instance cka90 : TyA Try.prog 90 false := ⟨Try.isAgg90⟩
instance cka97 : TyA Try.prog 97 true := ⟨Try.isAgg97⟩
instance cka99 : TyA Try.prog 99 true := ⟨Try.isAgg99⟩
instance cka106 : TyA Try.prog 106 false := ⟨Try.isAgg106⟩
instance cks3 : TyS Try.prog 3 1 := ⟨Try.sizeOf3⟩
instance cks4 : TyS Try.prog 4 1 := ⟨Try.sizeOf4⟩
instance cks5 : TyS Try.prog 5 1 := ⟨Try.sizeOf5⟩
instance cks9 : TyS Try.prog 9 1 := ⟨Try.sizeOf9⟩
instance cks22 : TyS Try.prog 22 1 := ⟨Try.sizeOf22⟩
instance cks23 : TyS Try.prog 23 1 := ⟨Try.sizeOf23⟩
instance cks25 : TyS Try.prog 25 1 := ⟨Try.sizeOf25⟩
instance cks28 : TyS Try.prog 28 1 := ⟨Try.sizeOf28⟩
instance cks30 : TyS Try.prog 30 16 := ⟨Try.sizeOf30⟩
instance cks31 : TyS Try.prog 31 1 := ⟨Try.sizeOf31⟩
instance cks33 : TyS Try.prog 33 17 := ⟨Try.sizeOf33⟩
instance cks39 : TyS Try.prog 39 2 := ⟨Try.sizeOf39⟩
instance cks41 : TyS Try.prog 41 20 := ⟨Try.sizeOf41⟩
instance cks45 : TyS Try.prog 45 1 := ⟨Try.sizeOf45⟩
instance cks46 : TyS Try.prog 46 1 := ⟨Try.sizeOf46⟩
instance cks48 : TyS Try.prog 48 2 := ⟨Try.sizeOf48⟩
instance cks50 : TyS Try.prog 50 2 := ⟨Try.sizeOf50⟩
instance cks54 : TyS Try.prog 54 1 := ⟨Try.sizeOf54⟩
instance cks64 : TyS Try.prog 64 1 := ⟨Try.sizeOf64⟩
instance cks65 : TyS Try.prog 65 4 := ⟨Try.sizeOf65⟩
instance cks69 : TyS Try.prog 69 17 := ⟨Try.sizeOf69⟩
instance cks71 : TyS Try.prog 71 20 := ⟨Try.sizeOf71⟩
instance cks72 : TyS Try.prog 72 1 := ⟨Try.sizeOf72⟩
instance cks90 : TyS Try.prog 90 1 := ⟨Try.sizeOf90⟩
instance cks97 : TyS Try.prog 97 5 := ⟨Try.sizeOf97⟩
instance cks99 : TyS Try.prog 99 5 := ⟨Try.sizeOf99⟩
instance cks106 : TyS Try.prog 106 1 := ⟨Try.sizeOf106⟩
instance ckz3 : TyZ Try.prog 3 (Go.Value.int Go.IntKind.i64 0) := ⟨Try.zeroValue3⟩
instance ckz4 : TyZ Try.prog 4 (Go.Value.bool false) := ⟨Try.zeroValue4⟩
instance ckz5 : TyZ Try.prog 5 (Go.Value.int Go.IntKind.u8 0) := ⟨Try.zeroValue5⟩
instance ckz9 : TyZ Try.prog 9 (Go.Value.string { data := #[] }) := ⟨Try.zeroValue9⟩
instance ckz22 : TyZ Try.prog 22 (Go.Value.slice none 0 0) := ⟨Try.zeroValue22⟩
instance ckz23 : TyZ Try.prog 23 (Go.Value.slice none 0 0) := ⟨Try.zeroValue23⟩
instance ckz25 : TyZ Try.prog 25 (Go.Value.slice none 0 0) := ⟨Try.zeroValue25⟩
instance ckz28 : TyZ Try.prog 28 (Go.Value.int Go.IntKind.i64 0) := ⟨Try.zeroValue28⟩
instance ckz30 : TyZ Try.prog 30 (Go.Value.agg #[Go.Value.int Go.IntKind.i64 0, Go.Value.int Go.IntKind.i64 0, Go.Value.int Go.IntKind.i64 0, Go.Value.int Go.IntKind.i64 0, Go.Value.int Go.IntKind.i64 0, Go.Value.int Go.IntKind.i64 0, Go.Value.int Go.IntKind.i64 0, Go.Value.int Go.IntKind.i64 0, Go.Value.int Go.IntKind.i64 0, Go.Value.int Go.IntKind.i64 0, Go.Value.int Go.IntKind.i64 0, Go.Value.int Go.IntKind.i64 0, Go.Value.int Go.IntKind.i64 0, Go.Value.int Go.IntKind.i64 0, Go.Value.int Go.IntKind.i64 0, Go.Value.int Go.IntKind.i64 0]) := ⟨Try.zeroValue30⟩
instance ckz31 : TyZ Try.prog 31 (Go.Value.slice none 0 0) := ⟨Try.zeroValue31⟩
instance ckz33 : TyZ Try.prog 33 (Go.Value.agg #[Go.Value.int Go.IntKind.i64 0, Go.Value.int Go.IntKind.i64 0, Go.Value.int Go.IntKind.i64 0, Go.Value.int Go.IntKind.i64 0, Go.Value.int Go.IntKind.i64 0, Go.Value.int Go.IntKind.i64 0, Go.Value.int Go.IntKind.i64 0, Go.Value.int Go.IntKind.i64 0, Go.Value.int Go.IntKind.i64 0, Go.Value.int Go.IntKind.i64 0, Go.Value.int Go.IntKind.i64 0, Go.Value.int Go.IntKind.i64 0, Go.Value.int Go.IntKind.i64 0, Go.Value.int Go.IntKind.i64 0, Go.Value.int Go.IntKind.i64 0, Go.Value.int Go.IntKind.i64 0, Go.Value.slice none 0 0]) := ⟨Try.zeroValue33⟩
instance ckz39 : TyZ Try.prog 39 (Go.Value.agg #[Go.Value.int Go.IntKind.i64 0, Go.Value.int Go.IntKind.i64 0]) := ⟨Try.zeroValue39⟩
instance ckz41 : TyZ Try.prog 41 (Go.Value.agg #[Go.Value.int Go.IntKind.i64 0, Go.Value.int Go.IntKind.i64 0, Go.Value.int Go.IntKind.i64 0, Go.Value.int Go.IntKind.i64 0, Go.Value.int Go.IntKind.i64 0, Go.Value.int Go.IntKind.i64 0, Go.Value.int Go.IntKind.i64 0, Go.Value.int Go.IntKind.i64 0, Go.Value.int Go.IntKind.i64 0, Go.Value.int Go.IntKind.i64 0, Go.Value.int Go.IntKind.i64 0, Go.Value.int Go.IntKind.i64 0, Go.Value.int Go.IntKind.i64 0, Go.Value.int Go.IntKind.i64 0, Go.Value.int Go.IntKind.i64 0, Go.Value.int Go.IntKind.i64 0, Go.Value.int Go.IntKind.i64 0, Go.Value.int Go.IntKind.i64 0, Go.Value.slice none 0 0, Go.Value.slice none 0 0]) := ⟨Try.zeroValue41⟩
instance ckz45 : TyZ Try.prog 45 (Go.Value.slice none 0 0) := ⟨Try.zeroValue45⟩
instance ckz46 : TyZ Try.prog 46 (Go.Value.slice none 0 0) := ⟨Try.zeroValue46⟩
instance ckz48 : TyZ Try.prog 48 (Go.Value.agg #[Go.Value.int Go.IntKind.i64 0, Go.Value.slice none 0 0]) := ⟨Try.zeroValue48⟩
instance ckz50 : TyZ Try.prog 50 (Go.Value.agg #[Go.Value.int Go.IntKind.i64 0, Go.Value.slice none 0 0]) := ⟨Try.zeroValue50⟩
instance ckz54 : TyZ Try.prog 54 (Go.Value.slice none 0 0) := ⟨Try.zeroValue54⟩
instance ckz64 : TyZ Try.prog 64 (Go.Value.slice none 0 0) := ⟨Try.zeroValue64⟩
instance ckz65 : TyZ Try.prog 65 (Go.Value.agg #[Go.Value.slice none 0 0, Go.Value.slice none 0 0, Go.Value.slice none 0 0, Go.Value.slice none 0 0]) := ⟨Try.zeroValue65⟩
instance ckz69 : TyZ Try.prog 69 (Go.Value.agg #[Go.Value.int Go.IntKind.i64 0, Go.Value.int Go.IntKind.i64 0, Go.Value.int Go.IntKind.i64 0, Go.Value.int Go.IntKind.i64 0, Go.Value.int Go.IntKind.i64 0, Go.Value.int Go.IntKind.i64 0, Go.Value.int Go.IntKind.i64 0, Go.Value.int Go.IntKind.i64 0, Go.Value.int Go.IntKind.i64 0, Go.Value.int Go.IntKind.i64 0, Go.Value.int Go.IntKind.i64 0, Go.Value.int Go.IntKind.i64 0, Go.Value.int Go.IntKind.i64 0, Go.Value.int Go.IntKind.i64 0, Go.Value.int Go.IntKind.i64 0, Go.Value.int Go.IntKind.i64 0, Go.Value.slice none 0 0]) := ⟨Try.zeroValue69⟩
instance ckz71 : TyZ Try.prog 71 (Go.Value.agg #[Go.Value.int Go.IntKind.i64 0, Go.Value.int Go.IntKind.i64 0, Go.Value.int Go.IntKind.i64 0, Go.Value.int Go.IntKind.i64 0, Go.Value.int Go.IntKind.i64 0, Go.Value.int Go.IntKind.i64 0, Go.Value.int Go.IntKind.i64 0, Go.Value.int Go.IntKind.i64 0, Go.Value.int Go.IntKind.i64 0, Go.Value.int Go.IntKind.i64 0, Go.Value.int Go.IntKind.i64 0, Go.Value.int Go.IntKind.i64 0, Go.Value.int Go.IntKind.i64 0, Go.Value.int Go.IntKind.i64 0, Go.Value.int Go.IntKind.i64 0, Go.Value.int Go.IntKind.i64 0, Go.Value.int Go.IntKind.i64 0, Go.Value.int Go.IntKind.i64 0, Go.Value.slice none 0 0, Go.Value.string { data := #[] }]) := ⟨Try.zeroValue71⟩
instance ckz72 : TyZ Try.prog 72 (Go.Value.int Go.IntKind.u64 0) := ⟨Try.zeroValue72⟩
instance ckz90 : TyZ Try.prog 90 (Go.Value.slice none 0 0) := ⟨Try.zeroValue90⟩
instance ckz97 : TyZ Try.prog 97 (Go.Value.agg #[Go.Value.int Go.IntKind.i64 0, Go.Value.int Go.IntKind.i64 0, Go.Value.int Go.IntKind.i64 0, Go.Value.int Go.IntKind.i64 0, Go.Value.int Go.IntKind.i64 0]) := ⟨Try.zeroValue97⟩
instance ckz99 : TyZ Try.prog 99 (Go.Value.agg #[Go.Value.bool false, Go.Value.int Go.IntKind.i64 0, Go.Value.int Go.IntKind.i64 0, Go.Value.int Go.IntKind.i64 0, Go.Value.bool false]) := ⟨Try.zeroValue99⟩
instance ckz106 : TyZ Try.prog 106 (Go.Value.int Go.IntKind.u64 0) := ⟨Try.zeroValue106⟩
instance ckb3 : TyB Try.prog 3 (Go.Value.int Go.IntKind.i64 0) 1 8 := ⟨by kernel_rfl⟩
instance ckb4 : TyB Try.prog 4 (Go.Value.bool false) 1 1 := ⟨by kernel_rfl⟩
instance ckb5 : TyB Try.prog 5 (Go.Value.int Go.IntKind.u8 0) 1 1 := ⟨by kernel_rfl⟩
instance ckb9 : TyB Try.prog 9 (Go.Value.string { data := #[] }) 1 16 := ⟨by kernel_rfl⟩
instance ckb22 : TyB Try.prog 22 (Go.Value.slice none 0 0) 1 24 := ⟨by kernel_rfl⟩
instance ckb23 : TyB Try.prog 23 (Go.Value.slice none 0 0) 1 24 := ⟨by kernel_rfl⟩
instance ckb25 : TyB Try.prog 25 (Go.Value.slice none 0 0) 1 24 := ⟨by kernel_rfl⟩
instance ckb28 : TyB Try.prog 28 (Go.Value.int Go.IntKind.i64 0) 1 8 := ⟨by kernel_rfl⟩
instance ckb30 : TyB Try.prog 30 (Go.Value.agg #[Go.Value.int Go.IntKind.i64 0, Go.Value.int Go.IntKind.i64 0, Go.Value.int Go.IntKind.i64 0, Go.Value.int Go.IntKind.i64 0, Go.Value.int Go.IntKind.i64 0, Go.Value.int Go.IntKind.i64 0, Go.Value.int Go.IntKind.i64 0, Go.Value.int Go.IntKind.i64 0, Go.Value.int Go.IntKind.i64 0, Go.Value.int Go.IntKind.i64 0, Go.Value.int Go.IntKind.i64 0, Go.Value.int Go.IntKind.i64 0, Go.Value.int Go.IntKind.i64 0, Go.Value.int Go.IntKind.i64 0, Go.Value.int Go.IntKind.i64 0, Go.Value.int Go.IntKind.i64 0]) 16 128 := ⟨by kernel_rfl⟩
instance ckb31 : TyB Try.prog 31 (Go.Value.slice none 0 0) 1 24 := ⟨by kernel_rfl⟩
instance ckb33 : TyB Try.prog 33 (Go.Value.agg #[Go.Value.int Go.IntKind.i64 0, Go.Value.int Go.IntKind.i64 0, Go.Value.int Go.IntKind.i64 0, Go.Value.int Go.IntKind.i64 0, Go.Value.int Go.IntKind.i64 0, Go.Value.int Go.IntKind.i64 0, Go.Value.int Go.IntKind.i64 0, Go.Value.int Go.IntKind.i64 0, Go.Value.int Go.IntKind.i64 0, Go.Value.int Go.IntKind.i64 0, Go.Value.int Go.IntKind.i64 0, Go.Value.int Go.IntKind.i64 0, Go.Value.int Go.IntKind.i64 0, Go.Value.int Go.IntKind.i64 0, Go.Value.int Go.IntKind.i64 0, Go.Value.int Go.IntKind.i64 0, Go.Value.slice none 0 0]) 17 152 := ⟨by kernel_rfl⟩
instance ckb39 : TyB Try.prog 39 (Go.Value.agg #[Go.Value.int Go.IntKind.i64 0, Go.Value.int Go.IntKind.i64 0]) 2 16 := ⟨by kernel_rfl⟩
instance ckb41 : TyB Try.prog 41 (Go.Value.agg #[Go.Value.int Go.IntKind.i64 0, Go.Value.int Go.IntKind.i64 0, Go.Value.int Go.IntKind.i64 0, Go.Value.int Go.IntKind.i64 0, Go.Value.int Go.IntKind.i64 0, Go.Value.int Go.IntKind.i64 0, Go.Value.int Go.IntKind.i64 0, Go.Value.int Go.IntKind.i64 0, Go.Value.int Go.IntKind.i64 0, Go.Value.int Go.IntKind.i64 0, Go.Value.int Go.IntKind.i64 0, Go.Value.int Go.IntKind.i64 0, Go.Value.int Go.IntKind.i64 0, Go.Value.int Go.IntKind.i64 0, Go.Value.int Go.IntKind.i64 0, Go.Value.int Go.IntKind.i64 0, Go.Value.int Go.IntKind.i64 0, Go.Value.int Go.IntKind.i64 0, Go.Value.slice none 0 0, Go.Value.slice none 0 0]) 20 192 := ⟨by kernel_rfl⟩
instance ckb45 : TyB Try.prog 45 (Go.Value.slice none 0 0) 1 24 := ⟨by kernel_rfl⟩
instance ckb46 : TyB Try.prog 46 (Go.Value.slice none 0 0) 1 24 := ⟨by kernel_rfl⟩
instance ckb48 : TyB Try.prog 48 (Go.Value.agg #[Go.Value.int Go.IntKind.i64 0, Go.Value.slice none 0 0]) 2 32 := ⟨by kernel_rfl⟩
instance ckb50 : TyB Try.prog 50 (Go.Value.agg #[Go.Value.int Go.IntKind.i64 0, Go.Value.slice none 0 0]) 2 32 := ⟨by kernel_rfl⟩
instance ckb54 : TyB Try.prog 54 (Go.Value.slice none 0 0) 1 24 := ⟨by kernel_rfl⟩
instance ckb64 : TyB Try.prog 64 (Go.Value.slice none 0 0) 1 24 := ⟨by kernel_rfl⟩
instance ckb65 : TyB Try.prog 65 (Go.Value.agg #[Go.Value.slice none 0 0, Go.Value.slice none 0 0, Go.Value.slice none 0 0, Go.Value.slice none 0 0]) 4 96 := ⟨by kernel_rfl⟩
instance ckb69 : TyB Try.prog 69 (Go.Value.agg #[Go.Value.int Go.IntKind.i64 0, Go.Value.int Go.IntKind.i64 0, Go.Value.int Go.IntKind.i64 0, Go.Value.int Go.IntKind.i64 0, Go.Value.int Go.IntKind.i64 0, Go.Value.int Go.IntKind.i64 0, Go.Value.int Go.IntKind.i64 0, Go.Value.int Go.IntKind.i64 0, Go.Value.int Go.IntKind.i64 0, Go.Value.int Go.IntKind.i64 0, Go.Value.int Go.IntKind.i64 0, Go.Value.int Go.IntKind.i64 0, Go.Value.int Go.IntKind.i64 0, Go.Value.int Go.IntKind.i64 0, Go.Value.int Go.IntKind.i64 0, Go.Value.int Go.IntKind.i64 0, Go.Value.slice none 0 0]) 17 152 := ⟨by kernel_rfl⟩
instance ckb71 : TyB Try.prog 71 (Go.Value.agg #[Go.Value.int Go.IntKind.i64 0, Go.Value.int Go.IntKind.i64 0, Go.Value.int Go.IntKind.i64 0, Go.Value.int Go.IntKind.i64 0, Go.Value.int Go.IntKind.i64 0, Go.Value.int Go.IntKind.i64 0, Go.Value.int Go.IntKind.i64 0, Go.Value.int Go.IntKind.i64 0, Go.Value.int Go.IntKind.i64 0, Go.Value.int Go.IntKind.i64 0, Go.Value.int Go.IntKind.i64 0, Go.Value.int Go.IntKind.i64 0, Go.Value.int Go.IntKind.i64 0, Go.Value.int Go.IntKind.i64 0, Go.Value.int Go.IntKind.i64 0, Go.Value.int Go.IntKind.i64 0, Go.Value.int Go.IntKind.i64 0, Go.Value.int Go.IntKind.i64 0, Go.Value.slice none 0 0, Go.Value.string { data := #[] }]) 20 184 := ⟨by kernel_rfl⟩
instance ckb72 : TyB Try.prog 72 (Go.Value.int Go.IntKind.u64 0) 1 8 := ⟨by kernel_rfl⟩
instance ckb90 : TyB Try.prog 90 (Go.Value.slice none 0 0) 1 24 := ⟨by kernel_rfl⟩
instance ckb97 : TyB Try.prog 97 (Go.Value.agg #[Go.Value.int Go.IntKind.i64 0, Go.Value.int Go.IntKind.i64 0, Go.Value.int Go.IntKind.i64 0, Go.Value.int Go.IntKind.i64 0, Go.Value.int Go.IntKind.i64 0]) 5 40 := ⟨by kernel_rfl⟩
instance ckb99 : TyB Try.prog 99 (Go.Value.agg #[Go.Value.bool false, Go.Value.int Go.IntKind.i64 0, Go.Value.int Go.IntKind.i64 0, Go.Value.int Go.IntKind.i64 0, Go.Value.bool false]) 5 40 := ⟨by kernel_rfl⟩
instance ckb106 : TyB Try.prog 106 (Go.Value.int Go.IntKind.u64 0) 1 8 := ⟨by kernel_rfl⟩
instance ckp33 : TyP Try.prog 33 [(0, 16), (16, 1)] := ⟨_, Try.underlying33, fun w => by simp [Try.sizeOf30, Try.sizeOf31]⟩
instance ckp39 : TyP Try.prog 39 [(0, 1), (1, 1)] := ⟨_, Try.underlying39, fun w => by simp [Try.sizeOf3]⟩
instance ckp41 : TyP Try.prog 41 [(0, 2), (2, 17), (19, 1)] := ⟨_, Try.underlying41, fun w => by simp [Try.sizeOf23, Try.sizeOf33, Try.sizeOf39]⟩
instance ckp48 : TyP Try.prog 48 [(0, 1), (1, 1)] := ⟨_, Try.underlying48, fun w => by simp [Try.sizeOf3, Try.sizeOf22]⟩
instance ckp50 : TyP Try.prog 50 [(0, 1), (1, 1)] := ⟨_, Try.underlying50, fun w => by simp [Try.sizeOf3, Try.sizeOf25]⟩
instance ckp69 : TyP Try.prog 69 [(0, 16), (16, 1)] := ⟨_, Try.underlying69, fun w => by simp [Try.sizeOf30, Try.sizeOf31]⟩
instance ckp71 : TyP Try.prog 71 [(0, 2), (2, 17), (19, 1)] := ⟨_, Try.underlying71, fun w => by simp [Try.sizeOf9, Try.sizeOf39, Try.sizeOf69]⟩
instance ckp99 : TyP Try.prog 99 [(0, 1), (1, 1), (2, 1), (3, 1), (4, 1)] := ⟨_, Try.underlying99, fun w => by simp [Try.sizeOf3, Try.sizeOf4]⟩
instance ckg99 : TyG Try.prog 99 := ⟨Try.eqGuardType99⟩
instance ckg33 : TyG Try.prog 33 := ⟨Try.eqGuardType33⟩
instance ckg50 : TyG Try.prog 50 := ⟨Try.eqGuardType50⟩
instance ckg69 : TyG Try.prog 69 := ⟨Try.eqGuardType69⟩
instance ckg48 : TyG Try.prog 48 := ⟨Try.eqGuardType48⟩
instance ckg65 : TyG Try.prog 65 := ⟨Try.eqGuardType65⟩
instance ckg97 : TyG Try.prog 97 := ⟨Try.eqGuardType97⟩
instance ckg41 : TyG Try.prog 41 := ⟨Try.eqGuardType41⟩
instance ckg71 : TyG Try.prog 71 := ⟨Try.eqGuardType71⟩
instance ckg30 : TyG Try.prog 30 := ⟨Try.eqGuardType30⟩
instance ckg39 : TyG Try.prog 39 := ⟨Try.eqGuardType39⟩
end Go.Proofs.Ytkkjppeaaicgaaa
end

section
namespace Go.Ck
open Go
set_option linter.unusedVariables false

/-- what an operation yields -/
theorem tq_ {p : Prop} (h : p := by (first|(apply yaa;rfl)|(apply yab;rfl)|(apply yac<;>rfl)|(apply yae;(·rfl);(·(first|exact yay 0 rfl rfl|exact yay 1 rfl rfl|exact yay 2 rfl rfl|exact yay 3 rfl rfl|exact yay 4 rfl rfl|exact yay 5 rfl rfl)))|(apply yad;(·rfl);(·first|exact yaz 0 rfl|exact yaz 1 rfl|exact yaz 2 rfl|exact yaz 3 rfl|exact yaz 4 rfl|exact yaz 5 rfl);(·rfl))|(apply yaf<;>rfl)|(apply yag<;>rfl)|(apply yah<;>rfl)|(apply yai<;>rfl)|(apply yaj<;>rfl)|(apply yak<;>rfl)|(apply yal<;>rfl)|(apply yam<;>rfl)|(apply yan;(·rfl);(·rfl);(·(unfold I64;omega)))|(apply yao;(·rfl);(·rfl);(·(unfold I64;omega)))|(apply yap;rfl)|(apply yaq;rfl)|(apply yar;rfl)|(apply yas<;>rfl)|(apply yat;rfl)|(apply yau<;>rfl)|(apply yav;(·rfl);(·rfl);(·omega);(·omega))|(apply yaw;(·rfl);(·rfl);(·omega);(·omega))|(apply yax<;>rfl))) : p := h
/-- a comparison of numbers whose answer is known -/
theorem tk_ {p : Prop} (h : p := by (first | (apply qv_lss_t; (· rfl); (· rfl); (· omega)) | (apply qv_lss_f; (· rfl); (· rfl); (· omega)) | (apply qv_leq_t; (· rfl); (· rfl); (· omega)) | (apply qv_leq_f; (· rfl); (· rfl); (· omega)) | (apply qv_gtr_t; (· rfl); (· rfl); (· omega)) | (apply qv_gtr_f; (· rfl); (· rfl); (· omega)) | (apply qv_geq_t; (· rfl); (· rfl); (· omega)) | (apply qv_geq_f; (· rfl); (· rfl); (· omega)) | (apply qv_eql_t; (· rfl); (· rfl); (· omega)) | (apply qv_eql_f; (· rfl); (· rfl); (· omega)) | (apply qv_neq_t; (· rfl); (· rfl); (· omega)) | (apply qv_neq_f; (· rfl); (· rfl); (· omega)))) : p := h
/-- the view of a drawn region -/
theorem th_ {p : Prop} (h : p := by (first | exact fun _ s => s | exact fun _ s => s.tl | exact fun _ s => s.tl.tl | exact fun _ s => s.tl.tl.tl | exact fun _ s => s.tl.tl.tl.tl)) : p := h
/-- the operations that come later -/
theorem to_ {p : Prop} (h : p := by (first | exact ybf | (refine .inl ?_; exact th_) | (refine .inr ?_; kernel_rfl))) : p := h
/-- a part of the frame -/
theorem ts_ {p : Prop} (h : p := by repeat' (first | exact Sub.nil | refine Sub.cons rfl rfl ?_)) : p := h
/-- what is held back, so that nothing is tried on it -/
structure Bx (p : Prop) : Prop where
  o : p
/-- new memory -/
theorem ta_ {G : Prop} {H : Nat → Prop} (k : ∀ b, H b) (h : Bx (∀ b, H b) → G := by (intro hk; (first | exact yba (ybb rfl) rfl rfl rfl ybf (fun _ => ybf) hk.1 | exact yba ybc rfl rfl rfl ybf (fun _ => ybf) hk.1 | exact yba (ybd rfl rfl rfl (ybe rfl rfl)) rfl rfl rfl ybf (fun _ => ybf) hk.1 | exact yba (ybd rfl rfl rfl rfl) rfl rfl rfl ybf (fun _ => ybf) hk.1))) : G := h ⟨k⟩
theorem tb_ {G A : Prop} {B H : Nat → Prop} (a : A) (b : ∀ b, B b) (k : ∀ b, H b) (h : Bx A → Bx (∀ b, B b) → Bx (∀ b, H b) → G := by (intro ha hb hk; (first | exact yba (ybb rfl) rfl rfl rfl ha.1 hb.1 hk.1 | exact yba ybc rfl rfl rfl ha.1 hb.1 hk.1 | exact yba (ybd rfl rfl rfl (ybe rfl rfl)) rfl rfl rfl ha.1 hb.1 hk.1 | exact yba (ybd rfl rfl rfl rfl) rfl rfl rfl ha.1 hb.1 hk.1))) : G := h ⟨a⟩ ⟨b⟩ ⟨k⟩
/-- a store -/
theorem tst_ {G H : Prop} (k : H) (h : Bx H → G := by (intro hk;((first|refine ybg 0 rfl rfl rfl ?_ ?_ ?_ (by first|(refine ybh ?_;rfl)|rfl) rfl rfl ybf ybf ?_|refine ybg 1 rfl rfl rfl ?_ ?_ ?_ (by first|(refine ybh ?_;rfl)|rfl) rfl rfl ybf ybf ?_|refine ybg 2 rfl rfl rfl ?_ ?_ ?_ (by first|(refine ybh ?_;rfl)|rfl) rfl rfl ybf ybf ?_|refine ybg 3 rfl rfl rfl ?_ ?_ ?_ (by first|(refine ybh ?_;rfl)|rfl) rfl rfl ybf ybf ?_|refine ybg 4 rfl rfl rfl ?_ ?_ ?_ (by first|(refine ybh ?_;rfl)|rfl) rfl rfl ybf ybf ?_|refine ybg 5 rfl rfl rfl ?_ ?_ ?_ (by first|(refine ybh ?_;rfl)|rfl) rfl rfl ybf ybf ?_);(·rfl);(·exact nble rfl);(·rfl));exact hk.1)) : G := h ⟨k⟩
theorem tqs_ {G A B H : Prop} (a : A) (b : B) (k : H) (h : Bx A → Bx B → Bx H → G := by (intro ha hb hk;((first|refine ybg 0 rfl rfl rfl ?_ ?_ ?_ (by first|(refine ybh ?_;rfl)|rfl) rfl rfl ha.1 hb.1 ?_|refine ybg 1 rfl rfl rfl ?_ ?_ ?_ (by first|(refine ybh ?_;rfl)|rfl) rfl rfl ha.1 hb.1 ?_|refine ybg 2 rfl rfl rfl ?_ ?_ ?_ (by first|(refine ybh ?_;rfl)|rfl) rfl rfl ha.1 hb.1 ?_|refine ybg 3 rfl rfl rfl ?_ ?_ ?_ (by first|(refine ybh ?_;rfl)|rfl) rfl rfl ha.1 hb.1 ?_|refine ybg 4 rfl rfl rfl ?_ ?_ ?_ (by first|(refine ybh ?_;rfl)|rfl) rfl rfl ha.1 hb.1 ?_|refine ybg 5 rfl rfl rfl ?_ ?_ ?_ (by first|(refine ybh ?_;rfl)|rfl) rfl rfl ha.1 hb.1 ?_);(·rfl);(·exact nble rfl);(·rfl));exact hk.1)) : G := h ⟨a⟩ ⟨b⟩ ⟨k⟩
/-- one step of a walk that brings no new name -/
theorem t1_ {G H : Prop} (k : H) (h : Bx H → G := by (intro hk;(first|(refine ycf ?_;(first|(apply ybk;(·exact tq_);(·rfl);(·rfl))|refine ybl rfl rfl ?_|((first|refine ybg 0 rfl rfl rfl ?_ ?_ ?_ (by first|(refine ybh ?_;rfl)|rfl) rfl rfl ybf ybf ?_|refine ybg 1 rfl rfl rfl ?_ ?_ ?_ (by first|(refine ybh ?_;rfl)|rfl) rfl rfl ybf ybf ?_|refine ybg 2 rfl rfl rfl ?_ ?_ ?_ (by first|(refine ybh ?_;rfl)|rfl) rfl rfl ybf ybf ?_|refine ybg 3 rfl rfl rfl ?_ ?_ ?_ (by first|(refine ybh ?_;rfl)|rfl) rfl rfl ybf ybf ?_|refine ybg 4 rfl rfl rfl ?_ ?_ ?_ (by first|(refine ybh ?_;rfl)|rfl) rfl rfl ybf ybf ?_|refine ybg 5 rfl rfl rfl ?_ ?_ ?_ (by first|(refine ybh ?_;rfl)|rfl) rfl rfl ybf ybf ?_);(·rfl);(·exact nble rfl);(·rfl))|refine ycg ?_))|(refine ych ?_;(first|refine ybo ?_|refine ybp ?_|refine ybq ?_|refine ybr ?_|refine ybs ?_|refine ybt ?_|refine ybu rfl ?_|refine ybv rfl ?_))|(refine yci ?_;(first|refine yby ?_|refine ybz ?_|refine yca ?_|refine ycb ?_|refine ycc ?_|refine ycd ?_|refine yce rfl ?_)));exact hk.1)) : G := h ⟨k⟩
/-- as many as there are -/
theorem tw_ {G H : Prop} (k : H) (h : Bx H → G := by (intro hk;(first|(refine ycf ?_;(first|(apply ybk;(·exact tq_);(·rfl);(·rfl))|refine ybl rfl rfl ?_|((first|refine ybg 0 rfl rfl rfl ?_ ?_ ?_ (by first|(refine ybh ?_;rfl)|rfl) rfl rfl ybf ybf ?_|refine ybg 1 rfl rfl rfl ?_ ?_ ?_ (by first|(refine ybh ?_;rfl)|rfl) rfl rfl ybf ybf ?_|refine ybg 2 rfl rfl rfl ?_ ?_ ?_ (by first|(refine ybh ?_;rfl)|rfl) rfl rfl ybf ybf ?_|refine ybg 3 rfl rfl rfl ?_ ?_ ?_ (by first|(refine ybh ?_;rfl)|rfl) rfl rfl ybf ybf ?_|refine ybg 4 rfl rfl rfl ?_ ?_ ?_ (by first|(refine ybh ?_;rfl)|rfl) rfl rfl ybf ybf ?_|refine ybg 5 rfl rfl rfl ?_ ?_ ?_ (by first|(refine ybh ?_;rfl)|rfl) rfl rfl ybf ybf ?_);(·rfl);(·exact nble rfl);(·rfl))|refine ycg ?_))|(refine ych ?_;(first|refine ybo ?_|refine ybp ?_|refine ybq ?_|refine ybr ?_|refine ybs ?_|refine ybt ?_|refine ybu rfl ?_|refine ybv rfl ?_))|(refine yci ?_;(first|refine yby ?_|refine ybz ?_|refine yca ?_|refine ycb ?_|refine ycc ?_|refine ycd ?_|refine yce rfl ?_)));(repeat (first|(refine ycf ?_;(first|(apply ybk;(·exact tq_);(·rfl);(·rfl))|refine ybl rfl rfl ?_|((first|refine ybg 0 rfl rfl rfl ?_ ?_ ?_ (by first|(refine ybh ?_;rfl)|rfl) rfl rfl ybf ybf ?_|refine ybg 1 rfl rfl rfl ?_ ?_ ?_ (by first|(refine ybh ?_;rfl)|rfl) rfl rfl ybf ybf ?_|refine ybg 2 rfl rfl rfl ?_ ?_ ?_ (by first|(refine ybh ?_;rfl)|rfl) rfl rfl ybf ybf ?_|refine ybg 3 rfl rfl rfl ?_ ?_ ?_ (by first|(refine ybh ?_;rfl)|rfl) rfl rfl ybf ybf ?_|refine ybg 4 rfl rfl rfl ?_ ?_ ?_ (by first|(refine ybh ?_;rfl)|rfl) rfl rfl ybf ybf ?_|refine ybg 5 rfl rfl rfl ?_ ?_ ?_ (by first|(refine ybh ?_;rfl)|rfl) rfl rfl ybf ybf ?_);(·rfl);(·exact nble rfl);(·rfl))|refine ycg ?_))|(refine ych ?_;(first|refine ybo ?_|refine ybp ?_|refine ybq ?_|refine ybr ?_|refine ybs ?_|refine ybt ?_|refine ybu rfl ?_|refine ybv rfl ?_))|(refine yci ?_;(first|refine yby ?_|refine ybz ?_|refine yca ?_|refine ycb ?_|refine ycc ?_|refine ycd ?_|refine yce rfl ?_))));exact hk.1)) : G := h ⟨k⟩
/-- the same, in a drawn region -/
theorem tz_ {G H : Prop} (k : H) (h : Bx H → G := by (intro hk; (refine ycf ?_; (first | (apply ybm; (· exact tq_); (· rfl); (· rfl); (· exact th_)) | refine ybl rfl rfl ?_ | (refine tqs_ ?_ ?_ ?_; (· exact to_); (· exact to_)) | (apply ybn; (· exact tq_); (· rfl); (· rfl); (· rfl); (· exact to_)))); (repeat (refine ycf ?_; (first | (apply ybm; (· exact tq_); (· rfl); (· rfl); (· exact th_)) | refine ybl rfl rfl ?_ | (refine tqs_ ?_ ?_ ?_; (· exact to_); (· exact to_)) | (apply ybn; (· exact tq_); (· rfl); (· rfl); (· rfl); (· exact to_))))); exact hk.1)) : G := h ⟨k⟩
end Go.Ck
end

section
namespace Go.Proofs.Ytkkjppeaaicgaaa
open Go Go.Ck
set_option maxRecDepth 100000
set_option linter.unusedVariables false

abbrev Dt := Int × Int
def dcs (d : Dt) : List Value := [.int .i64 d.1, .int .i64 d.2]
def dv (d : Dt) : Value := .agg (dcs d).toArray
def rightB (d : Dt) : Bool := decide (1 ≤ d.1) && decide (d.1 ≤ 16) && decide (1 ≤ d.2) && decide (d.2 ≤ 1099511627776)
def cmpI (x y : Int) : Int := if x < y then -1 else if y < x then 1 else 0
def ordD (a b : Dt) : Int := if cmpI a.1 b.1 ≠ 0 then cmpI a.1 b.1 else cmpI a.2 b.2

theorem right_sp (d : Dt) (h : View) (w : World) (s : St ⟨w, h, []⟩ h [] w) :
    Calls Try.prog 61 [dv d].toArray w fun e w' => e = .returned (.bool (rightB d)) ∧ St ⟨w, h, []⟩ h [] w' := by
  refine calls_enter Try.func61 rfl Try.ntmps61 rfl s ?_
  repeat' (first | refine tw_ ?_ | (refine ta_ ?_; intro _) | ((fail_if_success (refine ybi rfl ?_)); refine ybj rfl ?_ ?_ <;> (intro ht; rw [ht]; first | replace ht := of_decide_eq_true ht | replace ht := of_decide_eq_false ht | skip)) | (refine ych ?_; first | (refine ybw rfl ?_ ?_ <;> intro ht) | (refine ybx rfl ?_ ?_ <;> intro ht)))
  all_goals (refine nx_ret1 rfl (rv_tmp rfl) (fun w' s' => ⟨?_, s'.nil⟩))
  all_goals (congr 2; simp [rightB, *])

theorem isNaN_sp (x : Int) (h : View) (w : World) (s : St ⟨w, h, []⟩ h [] w) :
    Calls Try.prog 60 [Value.int .i64 x].toArray w fun e w' => e = .returned (.bool false) ∧ St ⟨w, h, []⟩ h [] w' := by
  refine calls_enter Try.func60 rfl Try.ntmps60 rfl s ?_
  repeat' (first | refine tw_ ?_ | (refine ta_ ?_; intro _) | ((fail_if_success (refine ybi rfl ?_)); refine ybj rfl ?_ ?_ <;> (intro ht; rw [ht]; first | replace ht := of_decide_eq_true ht | replace ht := of_decide_eq_false ht | skip)) | (refine ych ?_; first | (refine ybw rfl ?_ ?_ <;> intro ht) | (refine ybx rfl ?_ ?_ <;> intro ht)))
  all_goals (refine nx_ret1 rfl (rv_tmp rfl) (fun w' s' => ⟨?_, s'.nil⟩))
  all_goals (congr 2; simp)

theorem compare_sp (x y : Int) (h : View) (w : World) (s : St ⟨w, h, []⟩ h [] w) :
    Calls Try.prog 39 [Value.int .i64 x, .int .i64 y].toArray w fun e w' => e = .returned (.int .i64 (cmpI x y)) ∧ St ⟨w, h, []⟩ h [] w' := by
  refine calls_enter Try.func39 rfl Try.ntmps39 rfl s ?_
  repeat' (first | (first | refine t1_ ?_ | (refine ta_ ?_; intro _) | ((fail_if_success (refine ybi rfl ?_)); refine ybj rfl ?_ ?_ <;> (intro ht; rw [ht]; first | replace ht := of_decide_eq_true ht | replace ht := of_decide_eq_false ht | skip)) | (refine ych ?_; first | (refine ybw rfl ?_ ?_ <;> intro ht) | (refine ybx rfl ?_ ?_ <;> intro ht))) | refine ycn (ycp Try.func60 rfl (by kernel_rfl) rfl) (isNaN_sp _ h) rfl rfl rfl ybf ?_)
  all_goals (refine nx_ret1 rfl (rv_tmp rfl) (fun w' s' => ⟨?_, s'.nil⟩))
  all_goals (congr 2; unfold cmpI; first | rw [if_pos (by assumption)] | rw [if_neg (by omega), if_pos (by omega)] | rw [if_neg (by omega), if_neg (by omega)])
end Go.Proofs.Ytkkjppeaaicgaaa
end

section
namespace Go.Proofs.Ytkkjppeaaicgaaa
open Go Go.Ck
set_option maxRecDepth 100000
set_option linter.unusedVariables false

theorem or2_sp (x y : Int) (b T : Nat) (h : View) (w : World) (s : St ⟨w, h, doms [Res.blk b (.cells #[.int .i64 x, .int .i64 y] T)]⟩ h [Res.blk b (.cells #[.int .i64 x, .int .i64 y] T)] w) :
    Calls Try.prog 38 [Value.slice (some ⟨b, 0, none⟩) 2 2].toArray w fun e w' => ∃ u : Unit, e = .returned (.int .i64 (if x ≠ 0 then x else y)) ∧ St ⟨w, h, doms [Res.blk b (.cells #[.int .i64 x, .int .i64 y] T)]⟩ h [Res.blk b (.cells #[.int .i64 x, .int .i64 y] T)] w' ∧ True := by
  refine calls_enter Try.func38 rfl Try.ntmps38 rfl s ?_
  repeat' (first | refine tw_ ?_ | (refine ta_ ?_; intro _) | ((fail_if_success (refine ybi rfl ?_)); refine ybj rfl ?_ ?_ <;> (intro ht; rw [ht]; first | replace ht := of_decide_eq_true ht | replace ht := of_decide_eq_false ht | skip)) | (refine ych ?_; first | (refine ybw rfl ?_ ?_ <;> intro ht) | (refine ybx rfl ?_ ?_ <;> intro ht)))
  refine cx_loop (X := Nat) (fun k => [(3, .int .i64 0), (6, .slice (some ⟨b, 0, none⟩) 2 2), (7, .int .i64 2), (8, .int .i64 k)]) (fun _ => h) (fun _ => _) (fun k => k ≤ 2 ∧ (0 < k → x = 0) ∧ (1 < k → y = 0)) (fun k => 2 - k) 0 (by omega) ?_ (fun _ s => s) ?_
  · exact .cons rfl rfl (.cons rfl rfl (.cons rfl rfl (.cons rfl rfl .nil)))
  rintro k ⟨hk, h1, h2⟩
  by_cases h0 : k = 0
  · subst h0
    repeat' (first | refine tw_ ?_ | (refine ta_ ?_; intro _) | ((fail_if_success (refine ybi rfl ?_)); refine ybj rfl ?_ ?_ <;> (intro ht; rw [ht]; first | replace ht := of_decide_eq_true ht | replace ht := of_decide_eq_false ht | skip)) | (refine ych ?_; first | (refine ybw rfl ?_ ?_ <;> intro ht) | (refine ybx rfl ?_ ?_ <;> intro ht)))
    · refine nx_ret1 rfl (rv_tmp rfl) (fun w' s' => ⟨(), ?_, s', trivial⟩)
      rw [if_pos (by assumption)]
    · refine nx_round 1 (by omega) (by omega) ?_ (fun _ s => s)
      exact .cons rfl rfl (.cons rfl rfl (.cons rfl rfl (.cons rfl rfl .nil)))
  by_cases h0 : k = 1
  · subst h0
    repeat' (first | refine tw_ ?_ | (refine ta_ ?_; intro _) | ((fail_if_success (refine ybi rfl ?_)); refine ybj rfl ?_ ?_ <;> (intro ht; rw [ht]; first | replace ht := of_decide_eq_true ht | replace ht := of_decide_eq_false ht | skip)) | (refine ych ?_; first | (refine ybw rfl ?_ ?_ <;> intro ht) | (refine ybx rfl ?_ ?_ <;> intro ht)))
    · refine nx_ret1 rfl (rv_tmp rfl) (fun w' s' => ⟨(), ?_, s', trivial⟩)
      rw [if_neg (by have := h1 (by omega); simp [this])]
    · refine nx_round 2 (by omega) (by omega) ?_ (fun _ s => s)
      exact .cons rfl rfl (.cons rfl rfl (.cons rfl rfl (.cons rfl rfl .nil)))
  · have : k = 2 := by omega
    subst this
    repeat' (first | refine tw_ ?_ | (refine ta_ ?_; intro _) | ((fail_if_success (refine ybi rfl ?_)); refine ybj rfl ?_ ?_ <;> (intro ht; rw [ht]; first | replace ht := of_decide_eq_true ht | replace ht := of_decide_eq_false ht | skip)) | (refine ych ?_; first | (refine ybw rfl ?_ ?_ <;> intro ht) | (refine ybx rfl ?_ ?_ <;> intro ht)))
    refine nx_ret1 rfl (rv_tmp rfl) (fun w' s' => ⟨(), ?_, s', trivial⟩)
    rw [if_neg (by have := h1 (by omega); simp [this]), h2 (by omega)]

theorem order_sp (a b : Dt) (h : View) (w : World) (s : St ⟨w, h, []⟩ h [] w) :
    Calls Try.prog 84 [dv a, dv b].toArray w fun e w' => e = .returned (.int .i64 (ordD a b)) ∧ St ⟨w, h, []⟩ h [] w' := by
  refine calls_enter Try.func84 rfl Try.ntmps84 rfl s ?_
  repeat' (first | refine tw_ ?_ | (refine ta_ ?_; intro _) | ((fail_if_success (refine ybi rfl ?_)); refine ybj rfl ?_ ?_ <;> (intro ht; rw [ht]; first | replace ht := of_decide_eq_true ht | replace ht := of_decide_eq_false ht | skip)) | (refine ych ?_; first | (refine ybw rfl ?_ ?_ <;> intro ht) | (refine ybx rfl ?_ ?_ <;> intro ht)))
  refine cx_region_draw' rfl (by kernel_rfl) ?_
  repeat' (refine ycf ?_; (first | refine tz_ ?_ | ((fail_if_success (refine ybi rfl ?_)); refine ybj rfl ?_ ?_ <;> (intro ht; rw [ht]; first | replace ht := of_decide_eq_true ht | replace ht := of_decide_eq_false ht | skip)) | (refine tb_ ?_ ?_ ?_; (· exact to_); (· intro _; exact to_); intro _) | refine ycg ?_))
  (refine ycn (ycp Try.func39 rfl (by kernel_rfl) rfl) (compare_sp _ _ h) rfl rfl rfl ?_ ?_; (· (exact to_)))
  repeat' (refine ycf ?_; (first | refine tz_ ?_ | ((fail_if_success (refine ybi rfl ?_)); refine ybj rfl ?_ ?_ <;> (intro ht; rw [ht]; first | replace ht := of_decide_eq_true ht | replace ht := of_decide_eq_false ht | skip)) | (refine tb_ ?_ ?_ ?_; (· exact to_); (· intro _; exact to_); intro _) | refine ycg ?_))
  (refine ycn (ycp Try.func39 rfl (by kernel_rfl) rfl) (compare_sp _ _ h) rfl rfl rfl ?_ ?_; (· (exact to_)))
  repeat' (refine ycf ?_; (first | refine tz_ ?_ | ((fail_if_success (refine ybi rfl ?_)); refine ybj rfl ?_ ?_ <;> (intro ht; rw [ht]; first | replace ht := of_decide_eq_true ht | replace ht := of_decide_eq_false ht | skip)) | (refine tb_ ?_ ?_ ?_; (· exact to_); (· intro _; exact to_); intro _) | refine ycg ?_))
  (refine rx_call_m (ycp Try.func38 rfl (by kernel_rfl) rfl) (perm_at (k := 0) rfl) (or2_sp _ _ _ _ h) rfl rfl rfl ?_ ?_ ?_; (· (exact to_)); (· intro _ _ hle; (exact to_)); intro x px hle)
  repeat' (refine ycf ?_; (first | refine tz_ ?_ | ((fail_if_success (refine ybi rfl ?_)); refine ybj rfl ?_ ?_ <;> (intro ht; rw [ht]; first | replace ht := of_decide_eq_true ht | replace ht := of_decide_eq_false ht | skip)) | (refine tb_ ?_ ?_ ?_; (· exact to_); (· intro _; exact to_); intro _) | refine ycg ?_))
  repeat' (first | refine tw_ ?_ | (refine ta_ ?_; intro _) | ((fail_if_success (refine ybi rfl ?_)); refine ybj rfl ?_ ?_ <;> (intro ht; rw [ht]; first | replace ht := of_decide_eq_true ht | replace ht := of_decide_eq_false ht | skip)) | (refine ych ?_; first | (refine ybw rfl ?_ ?_ <;> intro ht) | (refine ybx rfl ?_ ?_ <;> intro ht)))
  exact nx_ret1 rfl (rv_tmp rfl) (fun w' s' => ⟨rfl, s'.nil⟩)
end Go.Proofs.Ytkkjppeaaicgaaa
end

section
namespace Go.Proofs.Ytkkjppeaaicgaaa
open Go Go.Ck
set_option maxRecDepth 100000
set_option linter.unusedVariables false

theorem dcs_len (d : Dt) : (dcs d).length = 2 := rfl
abbrev Ds (h : View) (v : Value) (l : List Dt) : Prop := Sc h 2 v l.length (l.flatMap dcs)
def up (u : List Int) : List Value := u.map (Value.int .i64)
def cxc (u : List Int) (mv : Value) : List Value := up u ++ [mv]
def cxv (u : List Int) (mv : Value) : Value := .agg (cxc u mv).toArray
/-- a context as a value -/
structure Cx (h : View) (v : Value) (u : List Int) (l : List Dt) : Prop where
  len : u.length = 16
  val : ∃ mv, v = cxv u mv ∧ Ds h mv l

theorem up_len (u : List Int) : (up u).length = u.length := by simp [up]
theorem cxc_up {u : List Int} {mv : Value} {i : Nat} (hi : i < u.length) : (cxc u mv)[i]? = some (.int .i64 (u.getD i 0)) := by
  simp [cxc, up, List.getElem?_append, hi]
theorem cxc_more {u : List Int} {mv : Value} (hu : u.length = 16) : (cxc u mv)[16]? = some mv := by
  simp [cxc, up, hu]
theorem ycl {h : View} {L : List Res} {b o : Nat} {u : List Int} {mv : Value} (c : Cells h L ⟨b, 0, none⟩ (cxc u mv)) (i : Nat) (ho : o = 0 + i) (hi : i < u.length) : CellAt h L b o (.int .i64 (u.getD i 0)) := by
  subst ho; exact c.cell (cxc_up hi)
theorem yck {h : View} {L : List Res} {b o : Nat} {u : List Int} {mv : Value} (c : Cells h L ⟨b, 0, none⟩ (cxc u mv)) (hu : u.length = 16) (ho : o = 0 + 16) : CellAt h L b o mv := by
  subst ho; exact c.cell (cxc_more hu)
theorem ycm {h : View} {L : List Res} {b : Nat} {u : List Int} {mv : Value} (c : Cells h L ⟨b, 0, none⟩ (cxc u mv)) : Cells h L ⟨b, 0, none⟩ (up u) := by
  have := c.take (up u).length
  simpa [cxc] using this
theorem ycj {u : List Int} {mv : Value} (hu : u.length = 16) : (cxc u mv).length = 17 := by simp [cxc, up, hu]

theorem dot_eq (a b : Dt) (w : World) : (Op.equal 39 (.agg (dcs a).toArray) (.agg (dcs b).toArray)).run Try.prog w = .ok (decide (a = b)) w := by
  unfold Op.equal Op.maxDepth
  rw [run_equalIn_struct w 9999 39 _ _ Try.underlying39 Try.stoodInHeld39]
  have h1 : ∀ i j : Int, (Op.equalIn 9999 3 (.int .i64 i) (.int .i64 j)).run Try.prog w = .ok (i == j) w := fun i j => run_equalIn_int w 9998 3 .i64 .i64 i j Try.underlying3
  simp only [Program.fieldsOf, Try.underlying39, Op.eqFields]
  simp [part, Try.isAgg3, dcs, h1]
  by_cases e1 : a.1 = b.1
  · by_cases e2 : a.2 = b.2
    · simp [e1, e2, Prod.ext_iff]
    · simp [e1, e2, Prod.ext_iff]
  · simp [e1, Prod.ext_iff]

theorem index_sp (sv : Value) (l : List Dt) (d : Dt) (h : View) (hs : Ds h sv l) (hl : l.length ≤ 4611686018427387904) (w : World) (s : St ⟨w, h, []⟩ h [] w) :
    Calls Try.prog 97 [sv, dv d].toArray w fun e w' => ∃ r : Int, e = .returned (.int .i64 r) ∧ St ⟨w, h, []⟩ h [] w' ∧ (0 ≤ r ↔ d ∈ l) := by
  obtain ⟨_, ad, cap, rfl, hcap, _⟩ := id hs
  refine calls_enter Try.func97 rfl Try.ntmps97 rfl s ?_
  repeat' (first | refine tw_ ?_ | (refine ta_ ?_; intro _) | ((fail_if_success (refine ybi rfl ?_)); refine ybj rfl ?_ ?_ <;> (intro ht; rw [ht]; first | replace ht := of_decide_eq_true ht | replace ht := of_decide_eq_false ht | skip)) | (refine ych ?_; first | (refine ybw rfl ?_ ?_ <;> intro ht) | (refine ybx rfl ?_ ?_ <;> intro ht)))
  rename_i b
  refine cx_loop (X := Nat) (fun k => [(0, .slice ad l.length cap), (3, .pointer (some ⟨b, 0, none⟩)), (7, .int .i64 l.length), (8, .int .i64 k)]) (fun _ => h) (fun _ => _) (fun k => k ≤ l.length ∧ ∀ j (hj : j < l.length), j < k → l[j] ≠ d) (fun k => l.length - k) 0 ⟨by omega, by omega⟩ ?_ (fun _ s => s) ?_
  · exact .cons rfl rfl (.cons rfl rfl (.cons rfl rfl (.cons rfl rfl .nil)))
  rintro k ⟨hk, hno⟩
  by_cases hkl : k < l.length
  · obtain ⟨bs, o, rfl⟩ := hs.ad (by omega) (by omega)
    have hel : ∀ L, Cells h L ⟨bs, o + k * 2, none⟩ (dcs l[k]) := fun L => hs.elem dcs_len k hkl
    repeat' (first | refine tw_ ?_ | (refine ta_ ?_; intro _) | ((fail_if_success (refine ybi rfl ?_)); refine ybj rfl ?_ ?_ <;> (intro ht; rw [ht]; first | replace ht := of_decide_eq_true ht | replace ht := of_decide_eq_false ht | skip)) | (refine ych ?_; first | (refine ybw rfl ?_ ?_ <;> intro ht) | (refine ybx rfl ?_ ?_ <;> intro ht)))
    · refine cx_region_draw' rfl (by kernel_rfl) ?_
      repeat' (refine ycf ?_;(first|(first|(apply ybm;(·(first|(first|(refine yad rfl (hel _) ?_;rfl)|exact qv_eql_agg rfl rfl (fun w => dot_eq _ _ w))|exact tq_));(·rfl);(·rfl);(·(exact th_)))|refine ybl rfl rfl ?_|((fail_if_success (refine ybi rfl ?_));refine ybj rfl ?_ ?_<;>(intro ht;rw [ht];first|replace ht := of_decide_eq_true ht|replace ht := of_decide_eq_false ht|skip))|(refine tb_ ?_ ?_ ?_;(·(exact to_));(·intro _;(exact to_));intro _)|(first|(refine tqs_ ?_ ?_ ?_;(·(exact to_));(·(exact to_))))|(apply ybn;(·(first|(first|(refine yad rfl (hel _) ?_;rfl)|exact qv_eql_agg rfl rfl (fun w => dot_eq _ _ w))|exact tq_));(·rfl);(·rfl);(·rfl);(·(exact to_))))|refine ycg ?_))
      repeat' (first | (refine ycf ?_; apply ybk; (· first | (first | (refine yad rfl (hel _) ?_; rfl) | exact qv_eql_agg rfl rfl (fun w => dot_eq _ _ w))); (· rfl); (· rfl)) | refine t1_ ?_ | (refine ta_ ?_; intro _) | ((fail_if_success (refine ybi rfl ?_)); refine ybj rfl ?_ ?_ <;> (intro ht; rw [ht]; first | replace ht := of_decide_eq_true ht | replace ht := of_decide_eq_false ht | skip)) | (refine ych ?_; first | (refine ybw rfl ?_ ?_ <;> intro ht) | (refine ybx rfl ?_ ?_ <;> intro ht)))
      · refine nx_ret1 rfl (rv_tmp rfl) (fun w' s' => ⟨_, rfl, s'.nil, ?_⟩)
        subst ht
        simp
      · refine nx_round (k + 1) ⟨by omega, fun j hj hjk => ?_⟩ (by omega) ?_ (fun _ s => s)
        · by_cases hjk' : j = k
          · subst hjk'; exact fun e => ht e.symm
          · exact hno j hj (by omega)
        exact .cons rfl rfl (.cons rfl rfl (.cons rfl rfl (.cons rfl rfl .nil)))
    · omega
  · repeat' (first | (refine ycf ?_; apply ybk; (· first | (first | (refine yad rfl (hel _) ?_; rfl) | exact qv_eql_agg rfl rfl (fun w => dot_eq _ _ w))); (· rfl); (· rfl)) | refine t1_ ?_ | (refine ta_ ?_; intro _) | ((fail_if_success (refine ybi rfl ?_)); refine ybj rfl ?_ ?_ <;> (intro ht; rw [ht]; first | replace ht := of_decide_eq_true ht | replace ht := of_decide_eq_false ht | skip)) | (refine ych ?_; first | (refine ybw rfl ?_ ?_ <;> intro ht) | (refine ybx rfl ?_ ?_ <;> intro ht)))
    · omega
    · refine nx_ret1 rfl (rv_tmp rfl) (fun w' s' => ⟨_, rfl, s'.nil, ?_⟩)
      constructor
      · intro hx; omega
      · intro hm
        obtain ⟨j, hj, rfl⟩ := List.getElem_of_mem hm
        exact absurd rfl (hno j hj (by omega))

theorem contains_sp (sv : Value) (l : List Dt) (d : Dt) (h : View) (hs : Ds h sv l) (hl : l.length ≤ 4611686018427387904) (w : World) (s : St ⟨w, h, []⟩ h [] w) :
    Calls Try.prog 85 [sv, dv d].toArray w fun e w' => e = .returned (.bool (decide (d ∈ l))) ∧ St ⟨w, h, []⟩ h [] w' := by
  refine calls_enter Try.func85 rfl Try.ntmps85 rfl s ?_
  repeat' (first | (refine ycf ?_; apply ybk; (· first | (first | (refine yad rfl (hel _) ?_; rfl) | exact qv_eql_agg rfl rfl (fun w => dot_eq _ _ w))); (· rfl); (· rfl)) | refine t1_ ?_ | (refine ta_ ?_; intro _) | ((fail_if_success (refine ybi rfl ?_)); refine ybj rfl ?_ ?_ <;> (intro ht; rw [ht]; first | replace ht := of_decide_eq_true ht | replace ht := of_decide_eq_false ht | skip)) | (refine ych ?_; first | (refine ybw rfl ?_ ?_ <;> intro ht) | (refine ybx rfl ?_ ?_ <;> intro ht)))
  (refine yco (ycp Try.func97 rfl (by kernel_rfl) rfl) (index_sp _ l d h hs hl) rfl rfl rfl ?_ ?_ ?_; (· (exact to_)); (· intro _ _ hle; (exact to_)); intro x px hle)
  repeat' (first | (refine ycf ?_; apply ybk; (· first | (first | (refine yad rfl (hel _) ?_; rfl) | exact qv_eql_agg rfl rfl (fun w => dot_eq _ _ w))); (· rfl); (· rfl)) | refine t1_ ?_ | (refine ta_ ?_; intro _) | ((fail_if_success (refine ybi rfl ?_)); refine ybj rfl ?_ ?_ <;> (intro ht; rw [ht]; first | replace ht := of_decide_eq_true ht | replace ht := of_decide_eq_false ht | skip)) | (refine ych ?_; first | (refine ybw rfl ?_ ?_ <;> intro ht) | (refine ybx rfl ?_ ?_ <;> intro ht)))
  refine nx_ret1 rfl (rv_tmp rfl) (fun w' s' => ⟨?_, s'.nil⟩)
  congr 2; rw [decide_eq_decide]; exact px
end Go.Proofs.Ytkkjppeaaicgaaa
end
