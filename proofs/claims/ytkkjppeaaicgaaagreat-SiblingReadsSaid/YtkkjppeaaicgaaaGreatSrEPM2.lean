/-
  Part 2 of a proof: CkRow CkConv CkBool CkTy CkTac CkTb BitA BitB.
  Conditions: each theorem states its own.
-/
import Derived.Laws.Small
import Derived.Test.YtkkjppeaaicgaaaGreatRows
import Derived.Test.YtkkjppeaaicgaaaGreatSrEPM1
section
namespace Go.Ck
open Go
set_option linter.unusedVariables false
set_option linter.unusedSimpArgs false
section
variable {P : Program} {n : Nat} {K : Bs} {F : List (Nat × Value)} {h : View} {L : List Res} {Q : Exit → Act → World → Prop}
variable {dst : Option Nat} {ty : Nat} {pos : String} {af : Array Edge} {gd : Option (Nat × Bool)}

theorem spl_len {xs vs : List Value} {o : Nat} (hf : o + vs.length ≤ xs.length) : (spl xs o vs).length = xs.length := by
  unfold spl
  simp only [List.length_append, List.length_take, List.length_drop]
  omega
theorem spl_take {xs vs : List Value} {o m : Nat} (hf : o + vs.length ≤ m) (hm : m ≤ xs.length) : (spl xs o vs).take m = spl (xs.take m) o vs := by
  unfold spl
  have h1 : (xs.take o).length = o := by simp; omega
  rw [List.take_take, Nat.min_eq_left (by omega), List.drop_take, List.append_assoc, List.append_assoc, List.take_append, h1, List.take_append]
  rw [List.take_of_length_le (by rw [h1]; omega), List.take_of_length_le (l := vs) (by omega)]
  congr 3
  omega

theorem rx_rowstore {g : Rg} {i : Nat} {r : List (Nat × Oper)} {T e : Nat} {x y : Operand} {b o sz sz' m cap : Nat} {v : Value} {xs : List Value} (k : Nat) [ts : TyS P T sz'] (hx : ev F x = some (.pointer (some ⟨b, o, none⟩))) (hy : ev F y = some v)
    (hk : L[k]? = some (Res.row e sz (.slice (some ⟨b, 0, none⟩) m cap) m xs)) (hsz : v.cells.size = sz') (hfit : o + v.cells.size ≤ m * sz) (h1 : v.cells.toList.all Value.oneCell' = true) {xs' : List Value} (hcs : spl xs o v.cells.toList = xs')
    (hw : wantedF g.ops F ⟨none, .store T x y, ty, pos, af, gd⟩ = some true) (hl : g.lo i = true) (o1 : Owe g i h L) (o2 : Owe g i h (L.set k (Res.row e sz (.slice (some ⟨b, 0, none⟩) m cap) m xs')))
    (hn : RX P n K g r F h (L.set k (Res.row e sz (.slice (some ⟨b, 0, none⟩) m cap) m xs')) Q) : RX P n K g ((i, ⟨none, .store T x y, ty, pos, af, gd⟩) :: r) F h L Q := by
  unfold RX at *
  intro a w f s
  subst hcs
  have h1 : ∀ u ∈ v.cells.toList, u.oneCell' = true := fun u hu => List.all_eq_true.1 h1 u hu
  have ho : w.ownsRow 0 e sz (.slice (some ⟨b, 0, none⟩) m cap) m xs := s.hd.own _ (List.mem_of_getElem? hk)
  obtain ⟨q0, q1 | ⟨g', cap', cur, q1, q2, q3, q4, q5, q6, q7⟩⟩ := ho
  · cases q1.1
  cases q1
  have hvl : v.cells.toList.length = v.cells.size := by simp
  have hms : m * sz ≤ cap * sz := Nat.mul_le_mul_right _ q4
  have hb : w.heap[b]? = some (.cells cur e (0, 0)) := q3
  have hrun : (execOp a.eval ⟨none, .store T x y, ty, pos, af, gd⟩).run P w = .ok .skip (w.setRow b (spl cur.toList o v.cells.toList).toArray) := by
    have hst := run_storeCells_at P b o e v.cells.toList 0 cur w hb (by simp; omega) h1
    simp only [Nat.add_zero] at hst
    simp [execOp, f.ev hx, f.ev hy, Instr.storeAt, Instr.sureAddr, storeVar, ts.s, hsz, hst, spl]
  have s' : St K h (L.set k (Res.row e sz (.slice (some ⟨b, 0, none⟩) m cap) m (spl xs o v.cells.toList))) (w.setRow b (spl cur.toList o v.cells.toList).toArray) := by
    refine s.swap hk rfl rfl rfl (by simp) (by simp) (fun j hj hjd => setRow_other w b j _ (fun e' => hjd ?_)) ⟨?_, .inr ⟨b, cap, _, rfl, Nat.zero_le _, setRow_heap w b cur _ e _ hb, q4, q5, ?_, ?_⟩⟩ ?_ (fun x hx => .inl ?_)
    · simp [Res.row, Value.ownBlock, e']
    · rw [spl_len (by rw [q0]; omega), q0]
    · simp only [List.size_toArray]
      rw [spl_len (by simp; omega)]
      simp [q6]
    · rw [← q7]
      exact spl_take (by omega) (by simp; omega)
    · simp [Res.row, Value.ownBlock]
    · have hx : x = b := by simpa [Res.row, Value.ownBlock] using hx
      subst hx
      simp [Res.row, Value.ownBlock]
  refine .inr (.inr ⟨wantedF_ok f hw, hl, o1.out s, ?_⟩)
  unfold Oper.wp
  rw [hrun]
  exact ⟨o2.out s', hn _ _ f s'⟩
/-- a slice as a row is -/
theorem rx_rowslice {g : Rg} {prs : List (Nat × Oper)} {e : TypeId} {sz m : Nat} {v : Value} {xs : List Value} (k : Nat) (hk : L[k]? = some (Res.row e sz v m xs)) (hx : ∀ ad cap, v = .slice ad m cap → RX P n K g prs F h L Q) : RX P n K g prs F h L Q :=
  rx_rowform k hk (fun h1 h2 _ => hx none 0 (by rw [h1, h2])) (fun g' cap hv => hx _ cap hv)

/-- some cells of a block -/
def Res.part (g off : Nat) (v : Value) (vs : List Value) : Res where
  dom := [g]
  sat := fun w => ∀ j u, (v :: vs)[j]? = some u → w.cell? ⟨g, off + j, none⟩ = some u
  loc := fun w w' hh hs j u hj => by
    have := hs j u hj
    simp only [World.cell?] at this ⊢
    rw [hh g (by simp)]
    exact this
  lt := fun w hs b hb => by
    have hb : b = g := by simpa using hb
    subst hb
    have := hs 0 v rfl
    simp only [World.cell?] at this
    cases hg : w.heap[b]? with
    | none => rw [hg] at this; simp at this
    | some o => exact (Array.getElem?_eq_some_iff.1 hg).1
theorem part_cells {g off : Nat} {v : Value} {vs : List Value} (k : Nat) (hk : L[k]? = some (Res.part g off v vs)) : Cells h L ⟨g, off, none⟩ (v :: vs) := fun w s j u hj => by
  rw [Addr.add_off]
  exact s.own _ (List.mem_of_getElem? hk) j u hj
/-- a call that takes the first two resources -/
theorem rx_call_2 {g : Rg} {i : Nat} {dst : Option Nat} {op : Op} {ty : Nat} {pos : String} {af : Array Edge} {gd : Option (Nat × Bool)} {r : List (Nat × Oper)} {fn : FuncId} {args : Array Value} {X : Type} {v : X → Value} {hh : X → View} {LL : X → List Res} {p : X → Prop} {R1 R2 : Res} {Lr : List Res} (hc : CallOf P n F ⟨dst, op, ty, pos, af, gd⟩ fn args)
    (hsp : ∀ w, St ⟨w, h, doms [R1, R2]⟩ h [R1, R2] w → Calls P fn args w fun e w' => ∃ x, e = .returned (v x) ∧ St ⟨w, h, doms [R1, R2]⟩ (hh x) (LL x) w' ∧ p x)
    (hw : wantedF g.ops F ⟨dst, op, ty, pos, af, gd⟩ = some true) (hd : okd n dst = true) (hl : g.lo i = true) (h1 : Owe g i h (R1 :: R2 :: Lr)) (h2 : ∀ x, p x → Le h (hh x) → Owe g i (hh x) (LL x ++ Lr))
    (hx : ∀ x, p x → Le h (hh x) → RX P n K g r (putF dst (v x) F) (hh x) (LL x ++ Lr) Q) : RX P n K g ((i, ⟨dst, op, ty, pos, af, gd⟩) :: r) F h (R1 :: R2 :: Lr) Q := by
  unfold RX at *
  unfold CallOf at hc
  exact fun a w f s => .inr (.inr ⟨wantedF_ok f hw, hl, h1.imp (fun k => k w s.hd) id, by
    unfold Oper.wp
    rw [hc a w f]
    have s1 : St K h ([R1, R2] ++ Lr) w := s
    refine (hsp w (St.enter (Li := [R1, R2]) (Lr := Lr) s1)).mono fun e w' he => ?_
    obtain ⟨x, rfl, st, px⟩ := he
    have s' := St.leave (Li := [R1, R2]) (Lr := Lr) s1 st
    have hle : Le h (hh x) := st.grow
    exact ⟨(h2 x px hle).imp (fun k => k _ s'.hd) id, hx x px hle _ _ (f.put hd _) s'⟩⟩)

theorem st_lowerx {h h' : View} {w w' : World} {Lo : List Res} (hh : Hd h [] w') (hle : Le h h') (s : St ⟨w, h', []⟩ h' Lo w') : St ⟨w, h, []⟩ h Lo w' :=
  ⟨s.os, s.tape, s.output, s.drawn, s.size, s.keep, ⟨hh.view, s.hd.own⟩, s.nd, s.src, Le.refl h, fun _ _ hb => hb, fun b hb => by
    have := s.dis b hb
    cases hx : h b with
    | none => rfl
    | some o => rw [hle b o hx] at this; cases this⟩
/-- a call that reads a slice that the caller owns, and gives something new -/
theorem rx_call_lendx {g : Rg} {i : Nat} {dst : Option Nat} {op : Op} {ty : Nat} {pos : String} {af : Array Edge} {gd : Option (Nat × Bool)} {r : List (Nat × Oper)} {fn : FuncId} {args : Array Value} {X : Type} {u : X → Value} {LL : X → List Res} {e : TypeId} {sz m : Nat} {v : Value} {xs : List Value} (k : Nat) (hc : CallOf P n F ⟨dst, op, ty, pos, af, gd⟩ fn args)
    (hk : L[k]? = some (Res.row e sz v m xs))
    (hsp : ∀ h', Le h h' → Sc h' sz v m xs → ∀ w, St ⟨w, h', []⟩ h' [] w → Calls P fn args w fun e w' => ∃ x, e = .returned (u x) ∧ St ⟨w, h', []⟩ h' (LL x) w' ∧ True)
    (hw : wantedF g.ops F ⟨dst, op, ty, pos, af, gd⟩ = some true) (hd : okd n dst = true) (hl : g.lo i = true) (h1 : Owe g i h L) (h2 : ∀ x, Owe g i h (LL x ++ L))
    (hx : ∀ x, RX P n K g r (putF dst (u x) F) h (LL x ++ L) Q) : RX P n K g ((i, ⟨dst, op, ty, pos, af, gd⟩) :: r) F h L Q := by
  unfold RX at *
  unfold CallOf at hc
  exact fun a w f s => .inr (.inr ⟨wantedF_ok f hw, hl, h1.imp (fun k => k w s.hd) id, by
    unfold Oper.wp
    rw [hc a w f]
    obtain ⟨h', hle, hsc, s0⟩ := row_view s hk
    refine (hsp h' hle hsc w s0).mono fun e w' he => ?_
    obtain ⟨x, rfl, st, _⟩ := he
    have s' := St.leave (Li := []) (Lr := L) s (st_lowerx ⟨fun b o hb => st.hd.view b o (hle b o hb), fun r hr => (by cases hr)⟩ hle st)
    exact ⟨(h2 x).imp (fun k => k _ s'.hd) id, hx x _ _ (f.put hd _) s'⟩⟩)
end
end Go.Ck
end

section
namespace Go.Ck
open Go
set_option linter.unusedVariables false
section
variable {P : Program} {n : Nat} {F : List (Nat × Value)} {h : View} {L : List Res} {dst : Option Nat} {ty : Nat} {pos : String} {af : Array Edge} {gd : Option (Nat × Bool)}
theorem qv_convert_int {S D : Nat} {x : Operand} {us : TypeDesc} {kd ks : IntKind} {i : Int} [t1 : TyU P S us] [t2 : TyU P D (.int kd)] (hx : ev F x = some (.int ks i)) :
    QV P n F h L ⟨dst, .convert S D x, ty, pos, af, gd⟩ (.int kd (kd.wrap i)) := .mk fun a w f s => by
  simp [execOp, f.ev hx, convert, run_underlying t1.u, run_underlying t2.u, Conv.intToInt]
theorem qv_convert_int' {S D : Nat} {x : Operand} {us : TypeDesc} {kd ks : IntKind} {i r : Int} [t1 : TyU P S us] [t2 : TyU P D (.int kd)] (hx : ev F x = some (.int ks i)) (hr : kd.wrap i = r) :
    QV P n F h L ⟨dst, .convert S D x, ty, pos, af, gd⟩ (.int kd r) := by subst hr; exact qv_convert_int hx
theorem qv_rem {T T' : Nat} {x y : Operand} {k : IntKind} {i j : Int} (hx : ev F x = some (.int k i)) (hy : ev F y = some (.int k j)) (hj : j ≠ 0) :
    QV P n F h L ⟨dst, .binOp .rem T x y T', ty, pos, af, gd⟩ (.int k (i.tmod j)) := .mk fun a w f s => by
  simp [execOp, f.ev hx, f.ev hy, run_guard_int, binOp, Op.intDiv, hj]
end
end Go.Ck
end

section
namespace Go.Ck
open Go
set_option linter.unusedVariables false
section
variable {P : Program} {n : Nat} {K : Bs} {F : List (Nat × Value)} {h : View} {L : List Res} {Q : Exit → Act → World → Prop}
variable {dst : Option Nat} {ty : Nat} {pos : String} {af : Array Edge} {gd : Option (Nat × Bool)}
theorem run_guard_bool {op : BinOp} {T : Nat} {x y : Operand} {a b : Bool} {w : World} : (eqGuard op T x y (.bool a) (.bool b)).run P w = .ok () w := by
  unfold eqGuard
  by_cases hop : op = .eql ∨ op = .neq
  · rcases hop with rfl | rfl <;> simp
  · have : (!(op matches .eql | .neq)) = true := by cases op <;> first | rfl | exact absurd (Or.inl rfl) hop | exact absurd (Or.inr rfl) hop
    simp [this]
theorem qv_eql_bool {T T' : Nat} {x y : Operand} {a b t : Bool} [tu : TyU P T .bool] (hx : ev F x = some (.bool a)) (hy : ev F y = some (.bool b)) (ht : (a == b) = t) :
    QV P n F h L ⟨dst, .binOp .eql T x y T', ty, pos, af, gd⟩ (.bool t) := .mk fun ac w f s => by
  subst ht
  simp [execOp, f.ev hx, f.ev hy, run_guard_bool, binOp, run_equal_bool w T a b tu.u]
theorem qv_neq_bool {T T' : Nat} {x y : Operand} {a b t : Bool} [tu : TyU P T .bool] (hx : ev F x = some (.bool a)) (hy : ev F y = some (.bool b)) (ht : (!(a == b)) = t) :
    QV P n F h L ⟨dst, .binOp .neq T x y T', ty, pos, af, gd⟩ (.bool t) := .mk fun ac w f s => by
  subst ht
  simp [execOp, f.ev hx, f.ev hy, run_guard_bool, binOp, run_equal_bool w T a b tu.u]
end
end Go.Ck
end

section
namespace Go.Proofs.YtkkjppeaaicgaaaGreat
open Go Go.Ck

instance cku3 : TyU Tryz.prog 3 (Go.TypeDesc.int Go.IntKind.i64) := ⟨Tryz.underlying3⟩
instance cku4 : TyU Tryz.prog 4 (Go.TypeDesc.bool) := ⟨Tryz.underlying4⟩
instance cku5 : TyU Tryz.prog 5 (Go.TypeDesc.int Go.IntKind.u8) := ⟨Tryz.underlying5⟩
instance cku9 : TyU Tryz.prog 9 (Go.TypeDesc.string) := ⟨Tryz.underlying9⟩
instance cku22 : TyU Tryz.prog 22 (Go.TypeDesc.slice 5) := ⟨Tryz.underlying22⟩
instance cku23 : TyU Tryz.prog 23 (Go.TypeDesc.slice 46) := ⟨Tryz.underlying23⟩
instance cku24 : TyU Tryz.prog 24 (Go.TypeDesc.int Go.IntKind.i64) := ⟨Tryz.underlying24⟩
instance cku27 : TyU Tryz.prog 27 (Go.TypeDesc.slice 57) := ⟨Tryz.underlying27⟩
instance cku36 : TyU Tryz.prog 36 (Go.TypeDesc.pointer 74) := ⟨Tryz.underlying36⟩
instance ckf40_0 : TyF Tryz.prog 40 0 0 3 1 := ⟨_, _, Tryz.underlying40, rfl, rfl, rfl, Tryz.sizeOf3⟩
instance ckf40_1 : TyF Tryz.prog 40 1 1 3 1 := ⟨_, _, Tryz.underlying40, rfl, rfl, rfl, Tryz.sizeOf3⟩
instance cku41 : TyU Tryz.prog 41 (Go.TypeDesc.array 16 3) := ⟨Tryz.underlying41⟩
instance cku42 : TyU Tryz.prog 42 (Go.TypeDesc.slice 40) := ⟨Tryz.underlying42⟩
instance ckf44_0 : TyF Tryz.prog 44 0 0 41 16 := ⟨_, _, Tryz.underlying44, rfl, rfl, rfl, Tryz.sizeOf41⟩
instance ckf44_1 : TyF Tryz.prog 44 1 16 42 1 := ⟨_, _, Tryz.underlying44, rfl, rfl, rfl, Tryz.sizeOf42⟩
instance ckf46_0 : TyF Tryz.prog 46 0 0 40 2 := ⟨_, _, Tryz.underlying46, rfl, rfl, rfl, Tryz.sizeOf40⟩
instance ckf46_1 : TyF Tryz.prog 46 1 2 44 17 := ⟨_, _, Tryz.underlying46, rfl, rfl, rfl, Tryz.sizeOf44⟩
instance ckf46_2 : TyF Tryz.prog 46 2 19 22 1 := ⟨_, _, Tryz.underlying46, rfl, rfl, rfl, Tryz.sizeOf22⟩
instance cku52 : TyU Tryz.prog 52 (Go.TypeDesc.pointer 54) := ⟨Tryz.underlying52⟩
instance ckf54_0 : TyF Tryz.prog 54 0 0 9 1 := ⟨_, _, Tryz.underlying54, rfl, rfl, rfl, Tryz.sizeOf9⟩
instance ckf54_1 : TyF Tryz.prog 54 1 1 24 1 := ⟨_, _, Tryz.underlying54, rfl, rfl, rfl, Tryz.sizeOf24⟩
instance ckf55_0 : TyF Tryz.prog 55 0 0 41 16 := ⟨_, _, Tryz.underlying55, rfl, rfl, rfl, Tryz.sizeOf41⟩
instance ckf55_1 : TyF Tryz.prog 55 1 16 42 1 := ⟨_, _, Tryz.underlying55, rfl, rfl, rfl, Tryz.sizeOf42⟩
instance ckf57_0 : TyF Tryz.prog 57 0 0 40 2 := ⟨_, _, Tryz.underlying57, rfl, rfl, rfl, Tryz.sizeOf40⟩
instance ckf57_1 : TyF Tryz.prog 57 1 2 55 17 := ⟨_, _, Tryz.underlying57, rfl, rfl, rfl, Tryz.sizeOf55⟩
instance ckf57_2 : TyF Tryz.prog 57 2 19 9 1 := ⟨_, _, Tryz.underlying57, rfl, rfl, rfl, Tryz.sizeOf9⟩
instance cku65 : TyU Tryz.prog 65 (Go.TypeDesc.pointer 67) := ⟨Tryz.underlying65⟩
instance ckf67_0 : TyF Tryz.prog 67 0 0 22 1 := ⟨_, _, Tryz.underlying67, rfl, rfl, rfl, Tryz.sizeOf22⟩
instance ckf67_1 : TyF Tryz.prog 67 1 1 4 1 := ⟨_, _, Tryz.underlying67, rfl, rfl, rfl, Tryz.sizeOf4⟩
instance ckf74_0 : TyF Tryz.prog 74 0 0 22 1 := ⟨_, _, Tryz.underlying74, rfl, rfl, rfl, Tryz.sizeOf22⟩
instance ckf74_1 : TyF Tryz.prog 74 1 1 24 1 := ⟨_, _, Tryz.underlying74, rfl, rfl, rfl, Tryz.sizeOf24⟩
instance cku94 : TyU Tryz.prog 94 (Go.TypeDesc.int Go.IntKind.u64) := ⟨Tryz.underlying94⟩
instance cku95 : TyU Tryz.prog 95 (Go.TypeDesc.int Go.IntKind.u64) := ⟨Tryz.underlying95⟩
instance cku102 : TyU Tryz.prog 102 (Go.TypeDesc.slice 23) := ⟨Tryz.underlying102⟩
instance cku110 : TyU Tryz.prog 110 (Go.TypeDesc.slice 3) := ⟨Tryz.underlying110⟩
instance cku124 : TyU Tryz.prog 124 (Go.TypeDesc.int Go.IntKind.u32) := ⟨Tryz.underlying124⟩
instance cku130 : TyU Tryz.prog 130 (Go.TypeDesc.pointer 3) := ⟨Tryz.underlying130⟩
instance cka3 : TyA Tryz.prog 3 false := ⟨Tryz.isAgg3⟩
instance cka4 : TyA Tryz.prog 4 false := ⟨Tryz.isAgg4⟩
instance cka5 : TyA Tryz.prog 5 false := ⟨Tryz.isAgg5⟩
instance cka9 : TyA Tryz.prog 9 false := ⟨Tryz.isAgg9⟩
instance cka22 : TyA Tryz.prog 22 false := ⟨Tryz.isAgg22⟩
instance cka23 : TyA Tryz.prog 23 false := ⟨Tryz.isAgg23⟩
instance cka24 : TyA Tryz.prog 24 false := ⟨Tryz.isAgg24⟩
instance cka27 : TyA Tryz.prog 27 false := ⟨Tryz.isAgg27⟩
instance cka36 : TyA Tryz.prog 36 false := ⟨Tryz.isAgg36⟩
instance cka40 : TyA Tryz.prog 40 true := ⟨Tryz.isAgg40⟩
instance cka41 : TyA Tryz.prog 41 true := ⟨Tryz.isAgg41⟩
instance cka42 : TyA Tryz.prog 42 false := ⟨Tryz.isAgg42⟩
instance cka44 : TyA Tryz.prog 44 true := ⟨Tryz.isAgg44⟩
instance cka46 : TyA Tryz.prog 46 true := ⟨Tryz.isAgg46⟩
instance cka52 : TyA Tryz.prog 52 false := ⟨Tryz.isAgg52⟩
instance cka54 : TyA Tryz.prog 54 true := ⟨Tryz.isAgg54⟩
instance cka55 : TyA Tryz.prog 55 true := ⟨Tryz.isAgg55⟩
instance cka57 : TyA Tryz.prog 57 true := ⟨Tryz.isAgg57⟩
instance cka65 : TyA Tryz.prog 65 false := ⟨Tryz.isAgg65⟩
instance cka67 : TyA Tryz.prog 67 true := ⟨Tryz.isAgg67⟩
instance cka74 : TyA Tryz.prog 74 true := ⟨Tryz.isAgg74⟩
instance cka94 : TyA Tryz.prog 94 false := ⟨Tryz.isAgg94⟩
instance cka95 : TyA Tryz.prog 95 false := ⟨Tryz.isAgg95⟩
instance cka102 : TyA Tryz.prog 102 false := ⟨Tryz.isAgg102⟩
instance cka110 : TyA Tryz.prog 110 false := ⟨Tryz.isAgg110⟩
instance cka124 : TyA Tryz.prog 124 false := ⟨Tryz.isAgg124⟩
instance cka130 : TyA Tryz.prog 130 false := ⟨Tryz.isAgg130⟩
instance cks3 : TyS Tryz.prog 3 1 := ⟨Tryz.sizeOf3⟩
instance cks4 : TyS Tryz.prog 4 1 := ⟨Tryz.sizeOf4⟩
instance cks5 : TyS Tryz.prog 5 1 := ⟨Tryz.sizeOf5⟩
instance cks9 : TyS Tryz.prog 9 1 := ⟨Tryz.sizeOf9⟩
instance cks22 : TyS Tryz.prog 22 1 := ⟨Tryz.sizeOf22⟩
instance cks23 : TyS Tryz.prog 23 1 := ⟨Tryz.sizeOf23⟩
instance cks24 : TyS Tryz.prog 24 1 := ⟨Tryz.sizeOf24⟩
instance cks27 : TyS Tryz.prog 27 1 := ⟨Tryz.sizeOf27⟩
instance cks36 : TyS Tryz.prog 36 1 := ⟨Tryz.sizeOf36⟩
instance cks40 : TyS Tryz.prog 40 2 := ⟨Tryz.sizeOf40⟩
instance cks41 : TyS Tryz.prog 41 16 := ⟨Tryz.sizeOf41⟩
instance cks42 : TyS Tryz.prog 42 1 := ⟨Tryz.sizeOf42⟩
instance cks44 : TyS Tryz.prog 44 17 := ⟨Tryz.sizeOf44⟩
instance cks46 : TyS Tryz.prog 46 20 := ⟨Tryz.sizeOf46⟩
instance cks52 : TyS Tryz.prog 52 1 := ⟨Tryz.sizeOf52⟩
instance cks54 : TyS Tryz.prog 54 2 := ⟨Tryz.sizeOf54⟩
instance cks55 : TyS Tryz.prog 55 17 := ⟨Tryz.sizeOf55⟩
instance cks57 : TyS Tryz.prog 57 20 := ⟨Tryz.sizeOf57⟩
instance cks65 : TyS Tryz.prog 65 1 := ⟨Tryz.sizeOf65⟩
instance cks67 : TyS Tryz.prog 67 2 := ⟨Tryz.sizeOf67⟩
instance cks74 : TyS Tryz.prog 74 2 := ⟨Tryz.sizeOf74⟩
instance cks94 : TyS Tryz.prog 94 1 := ⟨Tryz.sizeOf94⟩
instance cks95 : TyS Tryz.prog 95 1 := ⟨Tryz.sizeOf95⟩
instance cks102 : TyS Tryz.prog 102 1 := ⟨Tryz.sizeOf102⟩
instance cks110 : TyS Tryz.prog 110 1 := ⟨Tryz.sizeOf110⟩
instance cks124 : TyS Tryz.prog 124 1 := ⟨Tryz.sizeOf124⟩
instance cks130 : TyS Tryz.prog 130 1 := ⟨Tryz.sizeOf130⟩
instance ckz3 : TyZ Tryz.prog 3 (Go.Value.int Go.IntKind.i64 0) := ⟨Tryz.zeroValue3⟩
instance ckz4 : TyZ Tryz.prog 4 (Go.Value.bool false) := ⟨Tryz.zeroValue4⟩
instance ckz5 : TyZ Tryz.prog 5 (Go.Value.int Go.IntKind.u8 0) := ⟨Tryz.zeroValue5⟩
instance ckz9 : TyZ Tryz.prog 9 (Go.Value.string { data := #[] }) := ⟨Tryz.zeroValue9⟩
instance ckz22 : TyZ Tryz.prog 22 (Go.Value.slice none 0 0) := ⟨Tryz.zeroValue22⟩
instance ckz23 : TyZ Tryz.prog 23 (Go.Value.slice none 0 0) := ⟨Tryz.zeroValue23⟩
instance ckz24 : TyZ Tryz.prog 24 (Go.Value.int Go.IntKind.i64 0) := ⟨Tryz.zeroValue24⟩
instance ckz27 : TyZ Tryz.prog 27 (Go.Value.slice none 0 0) := ⟨Tryz.zeroValue27⟩
instance ckz36 : TyZ Tryz.prog 36 (Go.Value.pointer none) := ⟨Tryz.zeroValue36⟩
instance ckz40 : TyZ Tryz.prog 40 (Go.Value.agg #[Go.Value.int Go.IntKind.i64 0, Go.Value.int Go.IntKind.i64 0]) := ⟨Tryz.zeroValue40⟩
instance ckz41 : TyZ Tryz.prog 41 (Go.Value.agg #[Go.Value.int Go.IntKind.i64 0, Go.Value.int Go.IntKind.i64 0, Go.Value.int Go.IntKind.i64 0, Go.Value.int Go.IntKind.i64 0, Go.Value.int Go.IntKind.i64 0, Go.Value.int Go.IntKind.i64 0, Go.Value.int Go.IntKind.i64 0, Go.Value.int Go.IntKind.i64 0, Go.Value.int Go.IntKind.i64 0, Go.Value.int Go.IntKind.i64 0, Go.Value.int Go.IntKind.i64 0, Go.Value.int Go.IntKind.i64 0, Go.Value.int Go.IntKind.i64 0, Go.Value.int Go.IntKind.i64 0, Go.Value.int Go.IntKind.i64 0, Go.Value.int Go.IntKind.i64 0]) := ⟨Tryz.zeroValue41⟩
instance ckz42 : TyZ Tryz.prog 42 (Go.Value.slice none 0 0) := ⟨Tryz.zeroValue42⟩
instance ckz44 : TyZ Tryz.prog 44 (Go.Value.agg #[Go.Value.int Go.IntKind.i64 0, Go.Value.int Go.IntKind.i64 0, Go.Value.int Go.IntKind.i64 0, Go.Value.int Go.IntKind.i64 0, Go.Value.int Go.IntKind.i64 0, Go.Value.int Go.IntKind.i64 0, Go.Value.int Go.IntKind.i64 0, Go.Value.int Go.IntKind.i64 0, Go.Value.int Go.IntKind.i64 0, Go.Value.int Go.IntKind.i64 0, Go.Value.int Go.IntKind.i64 0, Go.Value.int Go.IntKind.i64 0, Go.Value.int Go.IntKind.i64 0, Go.Value.int Go.IntKind.i64 0, Go.Value.int Go.IntKind.i64 0, Go.Value.int Go.IntKind.i64 0, Go.Value.slice none 0 0]) := ⟨Tryz.zeroValue44⟩
instance ckz46 : TyZ Tryz.prog 46 (Go.Value.agg #[Go.Value.int Go.IntKind.i64 0, Go.Value.int Go.IntKind.i64 0, Go.Value.int Go.IntKind.i64 0, Go.Value.int Go.IntKind.i64 0, Go.Value.int Go.IntKind.i64 0, Go.Value.int Go.IntKind.i64 0, Go.Value.int Go.IntKind.i64 0, Go.Value.int Go.IntKind.i64 0, Go.Value.int Go.IntKind.i64 0, Go.Value.int Go.IntKind.i64 0, Go.Value.int Go.IntKind.i64 0, Go.Value.int Go.IntKind.i64 0, Go.Value.int Go.IntKind.i64 0, Go.Value.int Go.IntKind.i64 0, Go.Value.int Go.IntKind.i64 0, Go.Value.int Go.IntKind.i64 0, Go.Value.int Go.IntKind.i64 0, Go.Value.int Go.IntKind.i64 0, Go.Value.slice none 0 0, Go.Value.slice none 0 0]) := ⟨Tryz.zeroValue46⟩
instance ckz52 : TyZ Tryz.prog 52 (Go.Value.pointer none) := ⟨Tryz.zeroValue52⟩
instance ckz54 : TyZ Tryz.prog 54 (Go.Value.agg #[Go.Value.string { data := #[] }, Go.Value.int Go.IntKind.i64 0]) := ⟨Tryz.zeroValue54⟩
instance ckz55 : TyZ Tryz.prog 55 (Go.Value.agg #[Go.Value.int Go.IntKind.i64 0, Go.Value.int Go.IntKind.i64 0, Go.Value.int Go.IntKind.i64 0, Go.Value.int Go.IntKind.i64 0, Go.Value.int Go.IntKind.i64 0, Go.Value.int Go.IntKind.i64 0, Go.Value.int Go.IntKind.i64 0, Go.Value.int Go.IntKind.i64 0, Go.Value.int Go.IntKind.i64 0, Go.Value.int Go.IntKind.i64 0, Go.Value.int Go.IntKind.i64 0, Go.Value.int Go.IntKind.i64 0, Go.Value.int Go.IntKind.i64 0, Go.Value.int Go.IntKind.i64 0, Go.Value.int Go.IntKind.i64 0, Go.Value.int Go.IntKind.i64 0, Go.Value.slice none 0 0]) := ⟨Tryz.zeroValue55⟩
instance ckz57 : TyZ Tryz.prog 57 (Go.Value.agg #[Go.Value.int Go.IntKind.i64 0, Go.Value.int Go.IntKind.i64 0, Go.Value.int Go.IntKind.i64 0, Go.Value.int Go.IntKind.i64 0, Go.Value.int Go.IntKind.i64 0, Go.Value.int Go.IntKind.i64 0, Go.Value.int Go.IntKind.i64 0, Go.Value.int Go.IntKind.i64 0, Go.Value.int Go.IntKind.i64 0, Go.Value.int Go.IntKind.i64 0, Go.Value.int Go.IntKind.i64 0, Go.Value.int Go.IntKind.i64 0, Go.Value.int Go.IntKind.i64 0, Go.Value.int Go.IntKind.i64 0, Go.Value.int Go.IntKind.i64 0, Go.Value.int Go.IntKind.i64 0, Go.Value.int Go.IntKind.i64 0, Go.Value.int Go.IntKind.i64 0, Go.Value.slice none 0 0, Go.Value.string { data := #[] }]) := ⟨Tryz.zeroValue57⟩
instance ckz65 : TyZ Tryz.prog 65 (Go.Value.pointer none) := ⟨Tryz.zeroValue65⟩
instance ckz67 : TyZ Tryz.prog 67 (Go.Value.agg #[Go.Value.slice none 0 0, Go.Value.bool false]) := ⟨Tryz.zeroValue67⟩
instance ckz74 : TyZ Tryz.prog 74 (Go.Value.agg #[Go.Value.slice none 0 0, Go.Value.int Go.IntKind.i64 0]) := ⟨Tryz.zeroValue74⟩
instance ckz94 : TyZ Tryz.prog 94 (Go.Value.int Go.IntKind.u64 0) := ⟨Tryz.zeroValue94⟩
instance ckz95 : TyZ Tryz.prog 95 (Go.Value.int Go.IntKind.u64 0) := ⟨Tryz.zeroValue95⟩
instance ckz102 : TyZ Tryz.prog 102 (Go.Value.slice none 0 0) := ⟨Tryz.zeroValue102⟩
instance ckz110 : TyZ Tryz.prog 110 (Go.Value.slice none 0 0) := ⟨Tryz.zeroValue110⟩
instance ckz124 : TyZ Tryz.prog 124 (Go.Value.int Go.IntKind.u32 0) := ⟨Tryz.zeroValue124⟩
instance ckz130 : TyZ Tryz.prog 130 (Go.Value.pointer none) := ⟨Tryz.zeroValue130⟩
instance ckb3 : TyB Tryz.prog 3 (Go.Value.int Go.IntKind.i64 0) 1 8 := ⟨by kernel_rfl⟩
instance ckb4 : TyB Tryz.prog 4 (Go.Value.bool false) 1 1 := ⟨by kernel_rfl⟩
instance ckb5 : TyB Tryz.prog 5 (Go.Value.int Go.IntKind.u8 0) 1 1 := ⟨by kernel_rfl⟩
instance ckb9 : TyB Tryz.prog 9 (Go.Value.string { data := #[] }) 1 16 := ⟨by kernel_rfl⟩
instance ckb22 : TyB Tryz.prog 22 (Go.Value.slice none 0 0) 1 24 := ⟨by kernel_rfl⟩
instance ckb23 : TyB Tryz.prog 23 (Go.Value.slice none 0 0) 1 24 := ⟨by kernel_rfl⟩
instance ckb24 : TyB Tryz.prog 24 (Go.Value.int Go.IntKind.i64 0) 1 8 := ⟨by kernel_rfl⟩
instance ckb27 : TyB Tryz.prog 27 (Go.Value.slice none 0 0) 1 24 := ⟨by kernel_rfl⟩
instance ckb36 : TyB Tryz.prog 36 (Go.Value.pointer none) 1 8 := ⟨by kernel_rfl⟩
instance ckb40 : TyB Tryz.prog 40 (Go.Value.agg #[Go.Value.int Go.IntKind.i64 0, Go.Value.int Go.IntKind.i64 0]) 2 16 := ⟨by kernel_rfl⟩
instance ckb41 : TyB Tryz.prog 41 (Go.Value.agg #[Go.Value.int Go.IntKind.i64 0, Go.Value.int Go.IntKind.i64 0, Go.Value.int Go.IntKind.i64 0, Go.Value.int Go.IntKind.i64 0, Go.Value.int Go.IntKind.i64 0, Go.Value.int Go.IntKind.i64 0, Go.Value.int Go.IntKind.i64 0, Go.Value.int Go.IntKind.i64 0, Go.Value.int Go.IntKind.i64 0, Go.Value.int Go.IntKind.i64 0, Go.Value.int Go.IntKind.i64 0, Go.Value.int Go.IntKind.i64 0, Go.Value.int Go.IntKind.i64 0, Go.Value.int Go.IntKind.i64 0, Go.Value.int Go.IntKind.i64 0, Go.Value.int Go.IntKind.i64 0]) 16 128 := ⟨by kernel_rfl⟩
instance ckb42 : TyB Tryz.prog 42 (Go.Value.slice none 0 0) 1 24 := ⟨by kernel_rfl⟩
instance ckb44 : TyB Tryz.prog 44 (Go.Value.agg #[Go.Value.int Go.IntKind.i64 0, Go.Value.int Go.IntKind.i64 0, Go.Value.int Go.IntKind.i64 0, Go.Value.int Go.IntKind.i64 0, Go.Value.int Go.IntKind.i64 0, Go.Value.int Go.IntKind.i64 0, Go.Value.int Go.IntKind.i64 0, Go.Value.int Go.IntKind.i64 0, Go.Value.int Go.IntKind.i64 0, Go.Value.int Go.IntKind.i64 0, Go.Value.int Go.IntKind.i64 0, Go.Value.int Go.IntKind.i64 0, Go.Value.int Go.IntKind.i64 0, Go.Value.int Go.IntKind.i64 0, Go.Value.int Go.IntKind.i64 0, Go.Value.int Go.IntKind.i64 0, Go.Value.slice none 0 0]) 17 152 := ⟨by kernel_rfl⟩
instance ckb46 : TyB Tryz.prog 46 (Go.Value.agg #[Go.Value.int Go.IntKind.i64 0, Go.Value.int Go.IntKind.i64 0, Go.Value.int Go.IntKind.i64 0, Go.Value.int Go.IntKind.i64 0, Go.Value.int Go.IntKind.i64 0, Go.Value.int Go.IntKind.i64 0, Go.Value.int Go.IntKind.i64 0, Go.Value.int Go.IntKind.i64 0, Go.Value.int Go.IntKind.i64 0, Go.Value.int Go.IntKind.i64 0, Go.Value.int Go.IntKind.i64 0, Go.Value.int Go.IntKind.i64 0, Go.Value.int Go.IntKind.i64 0, Go.Value.int Go.IntKind.i64 0, Go.Value.int Go.IntKind.i64 0, Go.Value.int Go.IntKind.i64 0, Go.Value.int Go.IntKind.i64 0, Go.Value.int Go.IntKind.i64 0, Go.Value.slice none 0 0, Go.Value.slice none 0 0]) 20 192 := ⟨by kernel_rfl⟩
instance ckb52 : TyB Tryz.prog 52 (Go.Value.pointer none) 1 8 := ⟨by kernel_rfl⟩
instance ckb54 : TyB Tryz.prog 54 (Go.Value.agg #[Go.Value.string { data := #[] }, Go.Value.int Go.IntKind.i64 0]) 2 24 := ⟨by kernel_rfl⟩
instance ckb55 : TyB Tryz.prog 55 (Go.Value.agg #[Go.Value.int Go.IntKind.i64 0, Go.Value.int Go.IntKind.i64 0, Go.Value.int Go.IntKind.i64 0, Go.Value.int Go.IntKind.i64 0, Go.Value.int Go.IntKind.i64 0, Go.Value.int Go.IntKind.i64 0, Go.Value.int Go.IntKind.i64 0, Go.Value.int Go.IntKind.i64 0, Go.Value.int Go.IntKind.i64 0, Go.Value.int Go.IntKind.i64 0, Go.Value.int Go.IntKind.i64 0, Go.Value.int Go.IntKind.i64 0, Go.Value.int Go.IntKind.i64 0, Go.Value.int Go.IntKind.i64 0, Go.Value.int Go.IntKind.i64 0, Go.Value.int Go.IntKind.i64 0, Go.Value.slice none 0 0]) 17 152 := ⟨by kernel_rfl⟩
instance ckb57 : TyB Tryz.prog 57 (Go.Value.agg #[Go.Value.int Go.IntKind.i64 0, Go.Value.int Go.IntKind.i64 0, Go.Value.int Go.IntKind.i64 0, Go.Value.int Go.IntKind.i64 0, Go.Value.int Go.IntKind.i64 0, Go.Value.int Go.IntKind.i64 0, Go.Value.int Go.IntKind.i64 0, Go.Value.int Go.IntKind.i64 0, Go.Value.int Go.IntKind.i64 0, Go.Value.int Go.IntKind.i64 0, Go.Value.int Go.IntKind.i64 0, Go.Value.int Go.IntKind.i64 0, Go.Value.int Go.IntKind.i64 0, Go.Value.int Go.IntKind.i64 0, Go.Value.int Go.IntKind.i64 0, Go.Value.int Go.IntKind.i64 0, Go.Value.int Go.IntKind.i64 0, Go.Value.int Go.IntKind.i64 0, Go.Value.slice none 0 0, Go.Value.string { data := #[] }]) 20 184 := ⟨by kernel_rfl⟩
instance ckb65 : TyB Tryz.prog 65 (Go.Value.pointer none) 1 8 := ⟨by kernel_rfl⟩
instance ckb67 : TyB Tryz.prog 67 (Go.Value.agg #[Go.Value.slice none 0 0, Go.Value.bool false]) 2 32 := ⟨by kernel_rfl⟩
instance ckb74 : TyB Tryz.prog 74 (Go.Value.agg #[Go.Value.slice none 0 0, Go.Value.int Go.IntKind.i64 0]) 2 32 := ⟨by kernel_rfl⟩
instance ckb94 : TyB Tryz.prog 94 (Go.Value.int Go.IntKind.u64 0) 1 8 := ⟨by kernel_rfl⟩
instance ckb95 : TyB Tryz.prog 95 (Go.Value.int Go.IntKind.u64 0) 1 8 := ⟨by kernel_rfl⟩
instance ckb102 : TyB Tryz.prog 102 (Go.Value.slice none 0 0) 1 24 := ⟨by kernel_rfl⟩
instance ckb110 : TyB Tryz.prog 110 (Go.Value.slice none 0 0) 1 24 := ⟨by kernel_rfl⟩
instance ckb124 : TyB Tryz.prog 124 (Go.Value.int Go.IntKind.u32 0) 1 4 := ⟨by kernel_rfl⟩
instance ckb130 : TyB Tryz.prog 130 (Go.Value.pointer none) 1 8 := ⟨by kernel_rfl⟩
instance ckp40 : TyP Tryz.prog 40 [(0, 1), (1, 1)] := ⟨_, Tryz.underlying40, fun w => by simp [Tryz.sizeOf3]⟩
instance ckp44 : TyP Tryz.prog 44 [(0, 16), (16, 1)] := ⟨_, Tryz.underlying44, fun w => by simp [Tryz.sizeOf41, Tryz.sizeOf42]⟩
instance ckp46 : TyP Tryz.prog 46 [(0, 2), (2, 17), (19, 1)] := ⟨_, Tryz.underlying46, fun w => by simp [Tryz.sizeOf22, Tryz.sizeOf40, Tryz.sizeOf44]⟩
instance ckp54 : TyP Tryz.prog 54 [(0, 1), (1, 1)] := ⟨_, Tryz.underlying54, fun w => by simp [Tryz.sizeOf9, Tryz.sizeOf24]⟩
instance ckp55 : TyP Tryz.prog 55 [(0, 16), (16, 1)] := ⟨_, Tryz.underlying55, fun w => by simp [Tryz.sizeOf41, Tryz.sizeOf42]⟩
instance ckp57 : TyP Tryz.prog 57 [(0, 2), (2, 17), (19, 1)] := ⟨_, Tryz.underlying57, fun w => by simp [Tryz.sizeOf9, Tryz.sizeOf40, Tryz.sizeOf55]⟩
instance ckp67 : TyP Tryz.prog 67 [(0, 1), (1, 1)] := ⟨_, Tryz.underlying67, fun w => by simp [Tryz.sizeOf4, Tryz.sizeOf22]⟩
instance ckp74 : TyP Tryz.prog 74 [(0, 1), (1, 1)] := ⟨_, Tryz.underlying74, fun w => by simp [Tryz.sizeOf22, Tryz.sizeOf24]⟩
instance ckg41 : TyG Tryz.prog 41 := ⟨Tryz.eqGuardType41⟩
instance ckg74 : TyG Tryz.prog 74 := ⟨Tryz.eqGuardType74⟩
instance ckg54 : TyG Tryz.prog 54 := ⟨Tryz.eqGuardType54⟩
instance ckg67 : TyG Tryz.prog 67 := ⟨Tryz.eqGuardType67⟩
instance ckg57 : TyG Tryz.prog 57 := ⟨Tryz.eqGuardType57⟩
instance ckg55 : TyG Tryz.prog 55 := ⟨Tryz.eqGuardType55⟩
instance ckg44 : TyG Tryz.prog 44 := ⟨Tryz.eqGuardType44⟩
instance ckg46 : TyG Tryz.prog 46 := ⟨Tryz.eqGuardType46⟩
instance ckg40 : TyG Tryz.prog 40 := ⟨Tryz.eqGuardType40⟩
end Go.Proofs.YtkkjppeaaicgaaaGreat
end

section
namespace Go.Ck
open Go
set_option linter.unusedVariables false

/-- what an operation yields -/
theorem tq_ {p : Prop} (h : p := by (first|(apply yaa;rfl)|(apply yab;rfl)|(apply yac<;>rfl)|(apply yae;(·rfl);(·(first|exact yay 0 rfl rfl|exact yay 1 rfl rfl|exact yay 2 rfl rfl|exact yay 3 rfl rfl|exact yay 4 rfl rfl|exact yay 5 rfl rfl)))|(apply yad;(·rfl);(·first|exact yaz 0 rfl|exact yaz 1 rfl|exact yaz 2 rfl|exact yaz 3 rfl|exact yaz 4 rfl|exact yaz 5 rfl);(·rfl))|(apply yaf<;>rfl)|(apply yag<;>rfl)|(apply yah<;>rfl)|(apply yai<;>rfl)|(apply yaj<;>rfl)|(apply yak<;>rfl)|(apply yal<;>rfl)|(apply yam<;>rfl)|(apply yan;(·rfl);(·rfl);(·(unfold I64;omega)))|(apply yao;(·rfl);(·rfl);(·(unfold I64;omega)))|(apply yap;rfl)|(apply yaq;rfl)|(apply yar;rfl)|(apply yas<;>rfl)|(apply yat;rfl)|(apply yau<;>rfl)|(apply yav;(·rfl);(·rfl);(·omega);(·omega))|(apply yaw;(·rfl);(·rfl);(·omega);(·omega))|(apply yax<;>rfl))) : p := h
/-- a comparison of numbers whose answer is known -/
theorem tk_ {p : Prop} (h : p := by (first | (apply qv_lss_t; (· rfl); (· rfl); (· omega)) | (apply qv_lss_f; (· rfl); (· rfl); (· omega)) | (apply qv_leq_t; (· rfl); (· rfl); (· omega)) | (apply qv_leq_f; (· rfl); (· rfl); (· omega)) | (apply qv_gtr_t; (· rfl); (· rfl); (· omega)) | (apply qv_gtr_f; (· rfl); (· rfl); (· omega)) | (apply qv_geq_t; (· rfl); (· rfl); (· omega)) | (apply qv_geq_f; (· rfl); (· rfl); (· omega)) | (apply qv_eql_t; (· rfl); (· rfl); (· omega)) | (apply qv_eql_f; (· rfl); (· rfl); (· omega)) | (apply qv_neq_t; (· rfl); (· rfl); (· omega)) | (apply qv_neq_f; (· rfl); (· rfl); (· omega)))) : p := h
/-- the view of a drawn region -/
theorem th_ {p : Prop} (h : p := by (first | exact fun _ s => s | exact fun _ s => s.tl | exact fun _ s => s.tl.tl | exact fun _ s => s.tl.tl.tl | exact fun _ s => s.tl.tl.tl.tl)) : p := h
/-- the operations that come later -/
theorem to_ {p : Prop} (h : p := by (first | exact ybf | (refine .inl ?_; exact th_) | (refine .inr ?_; kernel_rfl))) : p := h
/-- a part of the frame -/
theorem ts_ {p : Prop} (h : p := by repeat' (first | exact Sub.nil | refine Sub.cons rfl rfl ?_)) : p := h
/-- what is held back, so that nothing is tried on it -/
structure Bx (p : Prop) : Prop where
  o : p
/-- new memory -/
theorem ta_ {G : Prop} {H : Nat → Prop} (k : ∀ b, H b) (h : Bx (∀ b, H b) → G := by (intro hk; (first | exact yba (ybb rfl) rfl rfl rfl ybf (fun _ => ybf) hk.1 | exact yba ybc rfl rfl rfl ybf (fun _ => ybf) hk.1 | exact yba (ybd rfl rfl rfl (ybe rfl rfl)) rfl rfl rfl ybf (fun _ => ybf) hk.1 | exact yba (ybd rfl rfl rfl rfl) rfl rfl rfl ybf (fun _ => ybf) hk.1))) : G := h ⟨k⟩
theorem tb_ {G A : Prop} {B H : Nat → Prop} (a : A) (b : ∀ b, B b) (k : ∀ b, H b) (h : Bx A → Bx (∀ b, B b) → Bx (∀ b, H b) → G := by (intro ha hb hk; (first | exact yba (ybb rfl) rfl rfl rfl ha.1 hb.1 hk.1 | exact yba ybc rfl rfl rfl ha.1 hb.1 hk.1 | exact yba (ybd rfl rfl rfl (ybe rfl rfl)) rfl rfl rfl ha.1 hb.1 hk.1 | exact yba (ybd rfl rfl rfl rfl) rfl rfl rfl ha.1 hb.1 hk.1))) : G := h ⟨a⟩ ⟨b⟩ ⟨k⟩
/-- a store -/
theorem tst_ {G H : Prop} (k : H) (h : Bx H → G := by (intro hk;((first|refine ybg 0 rfl rfl rfl ?_ ?_ ?_ (by first|(refine ybh ?_;rfl)|rfl) rfl rfl ybf ybf ?_|refine ybg 1 rfl rfl rfl ?_ ?_ ?_ (by first|(refine ybh ?_;rfl)|rfl) rfl rfl ybf ybf ?_|refine ybg 2 rfl rfl rfl ?_ ?_ ?_ (by first|(refine ybh ?_;rfl)|rfl) rfl rfl ybf ybf ?_|refine ybg 3 rfl rfl rfl ?_ ?_ ?_ (by first|(refine ybh ?_;rfl)|rfl) rfl rfl ybf ybf ?_|refine ybg 4 rfl rfl rfl ?_ ?_ ?_ (by first|(refine ybh ?_;rfl)|rfl) rfl rfl ybf ybf ?_|refine ybg 5 rfl rfl rfl ?_ ?_ ?_ (by first|(refine ybh ?_;rfl)|rfl) rfl rfl ybf ybf ?_);(·rfl);(·exact nble rfl);(·rfl));exact hk.1)) : G := h ⟨k⟩
theorem tqs_ {G A B H : Prop} (a : A) (b : B) (k : H) (h : Bx A → Bx B → Bx H → G := by (intro ha hb hk;((first|refine ybg 0 rfl rfl rfl ?_ ?_ ?_ (by first|(refine ybh ?_;rfl)|rfl) rfl rfl ha.1 hb.1 ?_|refine ybg 1 rfl rfl rfl ?_ ?_ ?_ (by first|(refine ybh ?_;rfl)|rfl) rfl rfl ha.1 hb.1 ?_|refine ybg 2 rfl rfl rfl ?_ ?_ ?_ (by first|(refine ybh ?_;rfl)|rfl) rfl rfl ha.1 hb.1 ?_|refine ybg 3 rfl rfl rfl ?_ ?_ ?_ (by first|(refine ybh ?_;rfl)|rfl) rfl rfl ha.1 hb.1 ?_|refine ybg 4 rfl rfl rfl ?_ ?_ ?_ (by first|(refine ybh ?_;rfl)|rfl) rfl rfl ha.1 hb.1 ?_|refine ybg 5 rfl rfl rfl ?_ ?_ ?_ (by first|(refine ybh ?_;rfl)|rfl) rfl rfl ha.1 hb.1 ?_);(·rfl);(·exact nble rfl);(·rfl));exact hk.1)) : G := h ⟨a⟩ ⟨b⟩ ⟨k⟩
/-- one step of a walk that brings no new name -/
theorem t1_ {G H : Prop} (k : H) (h : Bx H → G := by (intro hk;(first|(refine ycf ?_;(first|(apply ybk;(·exact tq_);(·rfl);(·rfl))|refine ybl rfl rfl ?_|((first|refine ybg 0 rfl rfl rfl ?_ ?_ ?_ (by first|(refine ybh ?_;rfl)|rfl) rfl rfl ybf ybf ?_|refine ybg 1 rfl rfl rfl ?_ ?_ ?_ (by first|(refine ybh ?_;rfl)|rfl) rfl rfl ybf ybf ?_|refine ybg 2 rfl rfl rfl ?_ ?_ ?_ (by first|(refine ybh ?_;rfl)|rfl) rfl rfl ybf ybf ?_|refine ybg 3 rfl rfl rfl ?_ ?_ ?_ (by first|(refine ybh ?_;rfl)|rfl) rfl rfl ybf ybf ?_|refine ybg 4 rfl rfl rfl ?_ ?_ ?_ (by first|(refine ybh ?_;rfl)|rfl) rfl rfl ybf ybf ?_|refine ybg 5 rfl rfl rfl ?_ ?_ ?_ (by first|(refine ybh ?_;rfl)|rfl) rfl rfl ybf ybf ?_);(·rfl);(·exact nble rfl);(·rfl))|refine ycg ?_))|(refine ych ?_;(first|refine ybo ?_|refine ybp ?_|refine ybq ?_|refine ybr ?_|refine ybs ?_|refine ybt ?_|refine ybu rfl ?_|refine ybv rfl ?_))|(refine yci ?_;(first|refine yby ?_|refine ybz ?_|refine yca ?_|refine ycb ?_|refine ycc ?_|refine ycd ?_|refine yce rfl ?_)));exact hk.1)) : G := h ⟨k⟩
/-- as many as there are -/
theorem tw_ {G H : Prop} (k : H) (h : Bx H → G := by (intro hk;(first|(refine ycf ?_;(first|(apply ybk;(·exact tq_);(·rfl);(·rfl))|refine ybl rfl rfl ?_|((first|refine ybg 0 rfl rfl rfl ?_ ?_ ?_ (by first|(refine ybh ?_;rfl)|rfl) rfl rfl ybf ybf ?_|refine ybg 1 rfl rfl rfl ?_ ?_ ?_ (by first|(refine ybh ?_;rfl)|rfl) rfl rfl ybf ybf ?_|refine ybg 2 rfl rfl rfl ?_ ?_ ?_ (by first|(refine ybh ?_;rfl)|rfl) rfl rfl ybf ybf ?_|refine ybg 3 rfl rfl rfl ?_ ?_ ?_ (by first|(refine ybh ?_;rfl)|rfl) rfl rfl ybf ybf ?_|refine ybg 4 rfl rfl rfl ?_ ?_ ?_ (by first|(refine ybh ?_;rfl)|rfl) rfl rfl ybf ybf ?_|refine ybg 5 rfl rfl rfl ?_ ?_ ?_ (by first|(refine ybh ?_;rfl)|rfl) rfl rfl ybf ybf ?_);(·rfl);(·exact nble rfl);(·rfl))|refine ycg ?_))|(refine ych ?_;(first|refine ybo ?_|refine ybp ?_|refine ybq ?_|refine ybr ?_|refine ybs ?_|refine ybt ?_|refine ybu rfl ?_|refine ybv rfl ?_))|(refine yci ?_;(first|refine yby ?_|refine ybz ?_|refine yca ?_|refine ycb ?_|refine ycc ?_|refine ycd ?_|refine yce rfl ?_)));(repeat (first|(refine ycf ?_;(first|(apply ybk;(·exact tq_);(·rfl);(·rfl))|refine ybl rfl rfl ?_|((first|refine ybg 0 rfl rfl rfl ?_ ?_ ?_ (by first|(refine ybh ?_;rfl)|rfl) rfl rfl ybf ybf ?_|refine ybg 1 rfl rfl rfl ?_ ?_ ?_ (by first|(refine ybh ?_;rfl)|rfl) rfl rfl ybf ybf ?_|refine ybg 2 rfl rfl rfl ?_ ?_ ?_ (by first|(refine ybh ?_;rfl)|rfl) rfl rfl ybf ybf ?_|refine ybg 3 rfl rfl rfl ?_ ?_ ?_ (by first|(refine ybh ?_;rfl)|rfl) rfl rfl ybf ybf ?_|refine ybg 4 rfl rfl rfl ?_ ?_ ?_ (by first|(refine ybh ?_;rfl)|rfl) rfl rfl ybf ybf ?_|refine ybg 5 rfl rfl rfl ?_ ?_ ?_ (by first|(refine ybh ?_;rfl)|rfl) rfl rfl ybf ybf ?_);(·rfl);(·exact nble rfl);(·rfl))|refine ycg ?_))|(refine ych ?_;(first|refine ybo ?_|refine ybp ?_|refine ybq ?_|refine ybr ?_|refine ybs ?_|refine ybt ?_|refine ybu rfl ?_|refine ybv rfl ?_))|(refine yci ?_;(first|refine yby ?_|refine ybz ?_|refine yca ?_|refine ycb ?_|refine ycc ?_|refine ycd ?_|refine yce rfl ?_))));exact hk.1)) : G := h ⟨k⟩
/-- the same, in a drawn region -/
theorem tz_ {G H : Prop} (k : H) (h : Bx H → G := by (intro hk; (refine ycf ?_; (first | (apply ybm; (· exact tq_); (· rfl); (· rfl); (· exact th_)) | refine ybl rfl rfl ?_ | (refine tqs_ ?_ ?_ ?_; (· exact to_); (· exact to_)) | (apply ybn; (· exact tq_); (· rfl); (· rfl); (· rfl); (· exact to_)))); (repeat (refine ycf ?_; (first | (apply ybm; (· exact tq_); (· rfl); (· rfl); (· exact th_)) | refine ybl rfl rfl ?_ | (refine tqs_ ?_ ?_ ?_; (· exact to_); (· exact to_)) | (apply ybn; (· exact tq_); (· rfl); (· rfl); (· rfl); (· exact to_))))); exact hk.1)) : G := h ⟨k⟩
end Go.Ck
end

section
namespace Go.Proofs.YtkkjppeaaicgaaaGreat
open Go Go.Ck
set_option maxRecDepth 100000
set_option maxHeartbeats 1000000
set_option linter.unusedVariables false

def bcs (l : List Int) : List Value := l.map (Value.int .u8)
abbrev Bs8 (h : View) (v : Value) (l : List Int) : Prop := Sc h 1 v l.length (bcs l)
abbrev rowB (v : Value) (l : List Int) : Res := Res.row 5 1 v l.length (bcs l)
theorem bcs_len (l : List Int) : (bcs l).length = l.length := by simp [bcs]
theorem bcs_one (l : List Int) : ∀ u ∈ bcs l, u.oneCell' = true := fun u hu => by
  obtain ⟨x, _, rfl⟩ := List.mem_map.1 hu
  rfl
theorem bcs_app (l m : List Int) : bcs (l ++ m) = bcs l ++ bcs m := by simp [bcs]

theorem qv_shr {P : Program} {n : Nat} {F : List (Nat × Value)} {h : View} {L : List Res} {dst : Option Nat} {ty : Nat} {pos : String} {af : Array Edge} {gd : Option (Nat × Bool)} {T T' : Nat} {x y : Operand} {k k' : IntKind} {i r : Int} {j : Nat} (hx : ev F x = some (.int k i)) (hy : ev F y = some (.int k' j)) (hr : i.fdiv (2 ^ j) = r) (hj : j < k.bits) :
    QV P n F h L ⟨dst, .binOp .shr T x y T', ty, pos, af, gd⟩ (.int k r) := by
  subst hr
  refine .mk fun a w f s => ?_
  have h0 : ¬ ((j : Int) < 0) := by omega
  have h1 : min j k.bits = j := by omega
  have hg : (eqGuard .shr T x y (.int k i) (.int k' j)).run P w = .ok () w := by simp [eqGuard]
  simp [execOp, f.ev hx, f.ev hy, hg, binOp, Op.shift, h0, h1]

theorem qv_minb {P : Program} {n : Nat} {F : List (Nat × Value)} {h : View} {L : List Res} {dst : Option Nat} {ty : Nat} {pos : String} {af : Array Edge} {gd : Option (Nat × Bool)} {ts : Array TypeId} {x y : Operand} {k : IntKind} {i j r : Int} (hx : ev F x = some (.int k i)) (hy : ev F y = some (.int k j)) (hr : (if j < i then j else i) = r) :
    QV P n F h L ⟨dst, .call ⟨.builtin .min, #[x, y], ts⟩, ty, pos, af, gd⟩ (.int k r) := by
  subst hr
  exact .mk fun a w f s => by simp [execOp, resolve, invoke, builtin, Builtin.min_, f.ev hx, f.ev hy, Builtin.min2]

/-- the low bytes of a word, the lowest first -/
def putLow : Nat → Int → List Int
  | 0, _ => []
  | k + 1, x => (x % 256) :: putLow k (x / 256)
theorem putLow_len : ∀ (k : Nat) (x : Int), (putLow k x).length = k
  | 0, _ => rfl
  | k + 1, x => by simp [putLow, putLow_len k]
theorem putLow_succ : ∀ (k : Nat) (x : Int), putLow (k + 1) x = putLow k x ++ [x / 256 ^ k % 256]
  | 0, x => by simp [putLow]
  | k + 1, x => by
    have := putLow_succ k (x / 256)
    rw [putLow, this, putLow]
    simp only [List.cons_append, List.cons.injEq, true_and, List.append_cancel_left_eq, List.cons.injEq, and_true]
    congr 1
    rw [Int.ediv_ediv_of_nonneg (by decide), Int.pow_succ, Int.mul_comm]

theorem divp_bd {x : Int} {k : Nat} (hx : 0 ≤ x ∧ x < 18446744073709551616) : 0 ≤ x / 256 ^ k ∧ x / 256 ^ k < 18446744073709551616 := by
  have hp : (0 : Int) < 256 ^ k := Int.pow_pos (by decide)
  refine ⟨Int.ediv_nonneg hx.1 (by omega), ?_⟩
  have := Int.ediv_le_self (256 ^ k) hx.1
  omega
theorem divp_succ (x : Int) (k : Nat) : (x / 256 ^ k).fdiv (2 ^ 8) = x / 256 ^ (k + 1) := by
  have e : (2 : Int) ^ 8 = 256 := by decide
  rw [e, Int.fdiv_eq_ediv_of_nonneg _ (by decide), Int.ediv_ediv_of_nonneg (Int.le_of_lt (Int.pow_pos (by decide))), Int.pow_succ]
theorem wrap_u8 (x : Int) : IntKind.u8.wrap x = x % 256 := by
  simp [IntKind.wrap, IntKind.bits, IntKind.signed]

theorem PutLow_sp (x : Int) (m : Nat) (hx : 0 ≤ x ∧ x < 18446744073709551616) (hm : m ≤ 64) (h : View) (w : World) (s : St ⟨w, h, []⟩ h [] w) :
    Calls Tryz.prog 93 [.int .u64 x, .int .i64 m].toArray w fun e w' => ∃ v, e = .returned v ∧ St ⟨w, h, []⟩ h [rowB v (putLow m x)] w' ∧ True := by
  refine calls_enter Tryz.func93 rfl Tryz.ntmps93 rfl s ?_
  have hj : (if (64 : Int) < (m : Int) then (64 : Int) else (m : Int)) = (m : Int) := by split <;> omega
  repeat' (first | (refine ycf ?_; apply ybk; (· first | (refine qv_minb rfl rfl hj)); (· rfl); (· rfl)) | refine t1_ ?_ | (refine ta_ ?_; intro _) | ((fail_if_success (refine ybi rfl ?_)); refine ybj rfl ?_ ?_ <;> (intro ht; rw [ht]; first | replace ht := of_decide_eq_true ht | replace ht := of_decide_eq_false ht | skip)) | (refine ych ?_; first | (refine ybw rfl ?_ ?_ <;> intro ht) | (refine ybx rfl ?_ ?_ <;> intro ht)))
  refine cx_row 5 1 ?_
  refine cx_loop (X := Nat × Value) (fun y => [(0, .int .u64 (x / 256 ^ y.1)), (5, y.2), (7, .int .i64 m), (8, .int .i64 y.1)]) (fun _ => h) (fun y => [Res.row 5 1 y.2 y.1 (bcs (putLow y.1 x))]) (fun y => y.1 ≤ m) (fun y => m - y.1) (0, .slice none 0 0) (Nat.zero_le _) ?_ (fun _ s => s) ?_
  · refine Sub.cons rfl ?_ ts_
    simp
  rintro ⟨k, v⟩ hk
  replace hk : k ≤ m := hk
  dsimp only
  by_cases hkm : k < m
  · have hb := divp_bd (k := k) hx
    have hs := divp_succ x k
    have hw := wrap_u8 (x / 256 ^ k)
    repeat' (first | (refine ycf ?_; apply ybk; (· first | (first | (refine qv_convert_int' rfl hw) | (refine qv_shr (j := 8) rfl rfl hs (by decide)))); (· rfl); (· rfl)) | refine t1_ ?_ | (refine ta_ ?_; intro _) | ((fail_if_success (refine ybi rfl ?_)); refine ybj rfl ?_ ?_ <;> (intro ht; rw [ht]; first | replace ht := of_decide_eq_true ht | replace ht := of_decide_eq_false ht | skip)) | (refine ych ?_; first | (refine ybw rfl ?_ ?_ <;> intro ht) | (refine ybx rfl ?_ ?_ <;> intro ht)))
    · refine rx_append (sz := 1) 1 rfl rfl rfl (yaz 0 rfl) rfl (bcs_one [x / 256 ^ k % 256]) rfl (by omega) (by unfold maxLen; omega) (by omega) rfl rfl rfl ybf (fun _ => ybf) ?_
      intro v2 _
      repeat' (first | (refine ycf ?_; apply ybk; (· first | (first | (refine qv_convert_int' rfl hw) | (refine qv_shr (j := 8) rfl rfl hs (by decide)))); (· rfl); (· rfl)) | refine t1_ ?_ | (refine ta_ ?_; intro _) | ((fail_if_success (refine ybi rfl ?_)); refine ybj rfl ?_ ?_ <;> (intro ht; rw [ht]; first | replace ht := of_decide_eq_true ht | replace ht := of_decide_eq_false ht | skip)) | (refine ych ?_; first | (refine ybw rfl ?_ ?_ <;> intro ht) | (refine ybx rfl ?_ ?_ <;> intro ht)))
      refine nx_round (k + 1, v2) (by show k + 1 ≤ m; omega) (by show m - (k + 1) < m - k; omega) ts_ (fun _ s => ?_)
      dsimp only
      rw [putLow_succ, bcs_app]
      exact s.tl
    · omega
  · have ek : k = m := by omega
    subst ek
    repeat' (first | (refine ycf ?_; apply ybk; (· first | (first | (refine qv_convert_int' rfl hw) | (refine qv_shr (j := 8) rfl rfl hs (by decide)))); (· rfl); (· rfl)) | refine t1_ ?_ | (refine ta_ ?_; intro _) | ((fail_if_success (refine ybi rfl ?_)); refine ybj rfl ?_ ?_ <;> (intro ht; rw [ht]; first | replace ht := of_decide_eq_true ht | replace ht := of_decide_eq_false ht | skip)) | (refine ych ?_; first | (refine ybw rfl ?_ ?_ <;> intro ht) | (refine ybx rfl ?_ ?_ <;> intro ht)))
    · omega
    refine nx_ret1 rfl (rv_tmp rfl) (fun w' s' => ⟨_, rfl, ?_, trivial⟩)
    unfold rowB
    rw [putLow_len]
    exact s'

theorem Byte_sp (n : Int) (h : View) (w : World) (s : St ⟨w, h, []⟩ h [] w) :
    Calls Tryz.prog 54 [.int .i64 n].toArray w fun e w' => ∃ b, e = .returned (.tuple #[.int .u8 b, .bool (decide (0 ≤ n ∧ n ≤ 255))]) ∧ St ⟨w, h, []⟩ h [] w' ∧ ((0 ≤ n ∧ n ≤ 255) → b = n) := by
  refine calls_enter Tryz.func54 rfl Tryz.ntmps54 rfl s ?_
  have hw := wrap_u8 n
  have hw2 : IntKind.i64.wrap (n % 256) = n % 256 := by
    rw [IntKind.wrap_i64]; omega
  repeat' (first | (refine ycf ?_; apply ybk; (· first | (first | (refine qv_convert_int' rfl hw) | (refine qv_convert_int' rfl hw2))); (· rfl); (· rfl)) | refine t1_ ?_ | (refine ta_ ?_; intro _) | ((fail_if_success (refine ybi rfl ?_)); refine ybj rfl ?_ ?_ <;> (intro ht; rw [ht]; first | replace ht := of_decide_eq_true ht | replace ht := of_decide_eq_false ht | skip)) | (refine ych ?_; first | (refine ybw rfl ?_ ?_ <;> intro ht) | (refine ybx rfl ?_ ?_ <;> intro ht)))
  · have hq := ht
    refine nx_ret2 rfl (rv_tmp rfl) (rv_tmp rfl) (fun w' s' => ⟨n % 256, ?_, s'.nil, fun _ => by omega⟩)
    rw [decide_eq_true (by omega)]
  · have hq := ht
    refine nx_ret2 rfl (rv_tmp rfl) (rv_tmp rfl) (fun w' s' => ⟨0, ?_, s'.nil, fun _ => by omega⟩)
    rw [decide_eq_false (by omega)]

theorem Int_sp (x : Int) (hx : 0 ≤ x ∧ x < 18446744073709551616) (h : View) (w : World) (s : St ⟨w, h, []⟩ h [] w) :
    Calls Tryz.prog 58 [.int .u64 x].toArray w fun e w' => e = .returned (.tuple #[.int .i64 (if x < 9223372036854775808 then x else 0), .bool (decide (x < 9223372036854775808))]) ∧ St ⟨w, h, []⟩ h [] w' := by
  refine calls_enter Tryz.func58 rfl Tryz.ntmps58 rfl s ?_
  obtain ⟨r, hw⟩ : ∃ r, IntKind.i64.wrap x = r := ⟨_, rfl⟩
  have hr : (x < 9223372036854775808 → r = x) ∧ (¬ x < 9223372036854775808 → r < 0) := by
    rw [← hw, IntKind.wrap_i64]
    constructor <;> intro _ <;> omega
  repeat' (first | (refine ycf ?_; apply ybk; (· first | (refine qv_convert_int' rfl hw)); (· rfl); (· rfl)) | refine t1_ ?_ | (refine ta_ ?_; intro _) | ((fail_if_success (refine ybi rfl ?_)); refine ybj rfl ?_ ?_ <;> (intro ht; rw [ht]; first | replace ht := of_decide_eq_true ht | replace ht := of_decide_eq_false ht | skip)) | (refine ych ?_; first | (refine ybw rfl ?_ ?_ <;> intro ht) | (refine ybx rfl ?_ ?_ <;> intro ht)))
  · have hq := ht
    have hx2 : x < 9223372036854775808 := Decidable.byContradiction fun hn => by have := hr.2 hn; omega
    refine nx_ret2 rfl (rv_tmp rfl) (rv_tmp rfl) (fun w' s' => ⟨?_, s'.nil⟩)
    rw [decide_eq_true hx2, if_pos hx2, hr.1 hx2]
  · have hq := ht
    have hx2 : ¬ x < 9223372036854775808 := fun hn => by have := hr.1 hn; omega
    refine nx_ret2 rfl (rv_tmp rfl) (rv_tmp rfl) (fun w' s' => ⟨?_, s'.nil⟩)
    rw [decide_eq_false hx2, if_neg hx2]

/-- the first i and the last i bytes have changed their places -/
def rvK (l : List Int) (i : Nat) : List Int := (List.range l.length).map fun t => if t < i ∨ l.length - i ≤ t then l.getD (l.length - 1 - t) 0 else l.getD t 0
theorem rvK_len (l : List Int) (i : Nat) : (rvK l i).length = l.length := by simp [rvK]
theorem rvK_at {l : List Int} {i t : Nat} (ht : t < l.length) : (rvK l i)[t]'(by rw [rvK_len]; exact ht) = if t < i ∨ l.length - i ≤ t then l.getD (l.length - 1 - t) 0 else l.getD t 0 := by
  simp [rvK]
theorem rvK_zero (l : List Int) : rvK l 0 = l := by
  refine List.ext_getElem (rvK_len l 0) fun t h1 h2 => ?_
  rw [rvK_at h2, if_neg (by omega)]
  simp [h2]
theorem rvK_end {l : List Int} {i : Nat} (hi : l.length ≤ 2 * i + 1) : rvK l i = l.reverse := by
  refine List.ext_getElem (by rw [rvK_len]; simp) fun t h1 h2 => ?_
  have ht : t < l.length := by simpa using h2
  rw [rvK_at ht, List.getElem_reverse]
  have e : l.getD (l.length - 1 - t) 0 = l[l.length - 1 - t]'(by omega) := by simp [show l.length - 1 - t < l.length by omega]
  split
  · exact e
  · rename_i hn
    have : l.length - 1 - t = t := by omega
    rw [← e, this]
theorem rvK_step {l : List Int} {i : Nat} (hi : 2 * i + 1 < l.length) : ((rvK l i).set i (l.getD (l.length - 1 - i) 0)).set (l.length - 1 - i) (l.getD i 0) = rvK l (i + 1) := by
  refine List.ext_getElem (by simp [rvK_len]) fun t h1 h2 => ?_
  have ht : t < l.length := by rw [rvK_len] at h2; exact h2
  rw [List.getElem_set, rvK_at ht]
  by_cases c1 : l.length - 1 - i = t
  · rw [if_pos c1, if_pos (by omega)]
    congr 1; omega
  · rw [if_neg c1, List.getElem_set]
    by_cases c2 : i = t
    · rw [if_pos c2, if_pos (by omega), c2]
    · rw [if_neg c2, rvK_at ht]
      by_cases c3 : t < i ∨ l.length - i ≤ t
      · rw [if_pos c3, if_pos (by omega)]
      · rw [if_neg c3, if_neg (by omega)]
theorem spl_byte {l : List Int} {o : Nat} {x : Int} (ho : o < l.length) : spl (bcs l) o (Value.int .u8 x).cells.toList = bcs (l.set o x) := by
  show (bcs l).take o ++ [Value.int .u8 x] ++ (bcs l).drop (o + 1) = bcs (l.set o x)
  unfold bcs
  rw [List.map_set, List.set_eq_take_append_cons_drop, if_pos (by simpa using ho)]
  simp
end Go.Proofs.YtkkjppeaaicgaaaGreat
end

section
namespace Go.Ck
open Go
section
variable {P : Program} {n : Nat} {K : Bs} {F : List (Nat × Value)} {h : View} {L : List Res} {Q : Exit → Act → World → Prop}
theorem wp_region_lexL {ops : Array Oper} {S : World → Prop} {lo : Nat → Bool} {id : Nat} {Q : Exit → Act → World → Prop} {a : Act} {w : World} (hm : P.follows .mixedOrders = true) (hB : lexOkAt ops (masks ops) lo (barOf ops) = true)
    (h : wpX P ops S lo (barOf ops) (Q .normal) (enumFrom 0 ops.toList) a w.drew) : (Code.region id ops true).wp P Q a w := by
  refine wp_region_any hm (lex_any hB _ (enumFrom 0 ops.toList) _ a _ (by simp [enumFrom_length]) ⟨?_, ?_, ?_, ?_, ?_⟩ h)
  · intro p hp
    obtain ⟨j, h1, h2⟩ := (enumFrom_mem _ _ _).1 hp
    have : p.1 = j := by omega
    rw [this]; simpa using h1
  · exact enumFrom_sorted _ _
  · intro i hi
    simp only [Array.getD_eq_getD_getElem?, Array.getElem?_replicate, hi, if_true, Option.getD_some, true_iff]
    exact ⟨ops[i], (enumFrom_mem _ _ _).2 ⟨i, by simp [hi], by simp⟩⟩
  · intro i o ho hl
    simp only [Array.getD_eq_getD_getElem?, Array.getElem?_replicate] at hl
    split at hl <;> simp at hl
  · simp
/-- the operations of 'ex' are taken for loud ones -/
theorem cx_region_drawL {id : Nat} {ops : Array Oper} (LS : List Res) (ex : List Nat) (hm : P.follows .mixedOrders = true) (hB : lexOkAt ops (masks ops) (fun i => loOf ops i || ex.contains i) (barOf ops) = true)
    (hx : RX P n K ⟨ops, Hd h LS, fun i => loOf ops i || ex.contains i, barOf ops⟩ (enumFrom 0 ops.toList) F h L Q) : CX P n K (.region id ops true) F h L Q := by
  unfold CX
  unfold RX at hx
  exact fun a w f s => wp_region_lexL hm hB (hx a w.drew ⟨f.size, f.dfs, f.get⟩ s.drew)
end
end Go.Ck
namespace Go.Proofs.YtkkjppeaaicgaaaGreat
open Go Go.Ck
set_option maxRecDepth 100000
set_option maxHeartbeats 1000000
set_option linter.unusedVariables false

theorem byte_cell {h : View} {L : List Res} {g o i : Nat} {l : List Int} (c : Cells h L ⟨g, 0, none⟩ (bcs l)) (ho : o = 0 + i) (hi : i < l.length) : CellAt h L g o (.int .u8 (l.getD i 0)) := by
  rw [ho]
  exact c.cell (by simp [bcs, hi])

theorem byte_cellx {h : View} {L : List Res} {g o i : Nat} {l : List Int} {x : Int} (hx : l.getD i 0 = x) (c : Cells h L ⟨g, 0, none⟩ (bcs l)) (ho : o = 0 + i) (hi : i < l.length) : CellAt h L g o (.int .u8 x) := by
  rw [← hx]
  exact byte_cell c ho hi
theorem spl_byte' {l : List Int} {o t : Nat} {x : Int} (ho : o = t) (hi : t < l.length) : spl (bcs l) o (Value.int .u8 x).cells.toList = bcs (l.set t x) := by
  subst ho
  exact spl_byte hi

theorem Reverse_sp (g cap : Nat) (l : List Int) (hl : l.length ≤ 1000000) (h : View) (w : World) (s : St ⟨w, h, doms [rowB (.slice (some ⟨g, 0, none⟩) l.length cap) l]⟩ h [rowB (.slice (some ⟨g, 0, none⟩) l.length cap) l] w) :
    Calls Tryz.prog 94 [.slice (some ⟨g, 0, none⟩) l.length cap].toArray w fun e w' => ∃ x : Value, e = .returned x ∧ St ⟨w, h, doms [rowB (.slice (some ⟨g, 0, none⟩) l.length cap) l]⟩ h [rowB (.slice (some ⟨g, 0, none⟩) l.length cap) l.reverse] w' ∧ True := by
  refine calls_enter Tryz.func94 rfl Tryz.ntmps94 rfl s ?_
  repeat' (first | refine tw_ ?_ | (refine ta_ ?_; intro _) | ((fail_if_success (refine ybi rfl ?_)); refine ybj rfl ?_ ?_ <;> (intro ht; rw [ht]; first | replace ht := of_decide_eq_true ht | replace ht := of_decide_eq_false ht | skip)) | (refine ych ?_; first | (refine ybw rfl ?_ ?_ <;> intro ht) | (refine ybx rfl ?_ ?_ <;> intro ht)))
  refine cx_loop (X := Nat) (fun i => [(0, .slice (some ⟨g, 0, none⟩) l.length cap), (2, .int .i64 i), (3, .int .i64 ((l.length : Int) - 1 - i))]) (fun _ => h) (fun i => [Res.row 5 1 (.slice (some ⟨g, 0, none⟩) l.length cap) l.length (bcs (rvK l i))]) (fun i => 2 * i ≤ l.length + 1) (fun i => l.length - i) 0 (by omega) ?_ (fun _ s => ?_) ?_
  · refine Sub.cons rfl rfl (Sub.cons rfl rfl (Sub.cons rfl ?_ Sub.nil))
    congr 1
    show (l.length : Int) - 1 = (l.length : Int) - 1 - ((0 : Nat) : Int)
    omega
  · rw [rvK_zero]; exact s
  intro i hi
  by_cases hil : 2 * i + 1 < l.length
  · have hk := rvK_len l i
    have hkk : ((l.length : Int) - 1 - (i : Int)).toNat = l.length - 1 - i := by omega
    have e1 : (rvK l i).getD i 0 = l.getD i 0 := by
      have := rvK_at (l := l) (i := i) (t := i) (by omega)
      rw [if_neg (by omega)] at this
      rw [List.getD_eq_getElem?_getD, List.getElem?_eq_getElem (by omega), this]; rfl
    have e2 : (rvK l i).getD (l.length - 1 - i) 0 = l.getD (l.length - 1 - i) 0 := by
      have := rvK_at (l := l) (i := i) (t := l.length - 1 - i) (by omega)
      rw [if_neg (by omega)] at this
      rw [List.getD_eq_getElem?_getD, List.getElem?_eq_getElem (by omega), this]; rfl
    have hij : i ≠ l.length - 1 - i := by omega
    have hpart : ∀ l2 : List Int, l2.length = l.length → l2.getD (l.length - 1 - i) 0 = l.getD (l.length - 1 - i) 0 → ∀ w, Hd h [Res.row 5 1 (.slice (some ⟨g, 0, none⟩) l.length cap) l.length (bcs l2)] w → Hd h [Res.part g (0 + ((l.length : Int) - 1 - (i : Int)).toNat * 1) (.int .u8 (l.getD (l.length - 1 - i) 0)) []] w := fun l2 hl2 hg w s => ⟨s.view, fun r hr => by
      have hr : r = Res.part g (0 + ((l.length : Int) - 1 - (i : Int)).toNat * 1) (.int .u8 (l.getD (l.length - 1 - i) 0)) [] := by simpa using hr
      subst hr
      intro j u hj
      cases j with
      | zero =>
        have hc := cell_at_out (byte_cell (h := h) (o := 0 + ((l.length : Int) - 1 - (i : Int)).toNat * 1 + 0) (row_cells 0 rfl) (i := l.length - 1 - i) (by omega) (by omega)) w s
        rw [hg] at hc
        have hu : u = .int .u8 (l.getD (l.length - 1 - i) 0) := by simpa using hj.symm
        rw [hu]; exact hc
      | succ j => simp at hj⟩
    have hs1 : ((rvK l i).set i (l.getD (l.length - 1 - i) 0)).getD (l.length - 1 - i) 0 = l.getD (l.length - 1 - i) 0 := by
      rw [List.getD_eq_getElem?_getD, List.getElem?_set_ne hij, ← List.getD_eq_getElem?_getD, e2]
    have hl1 : ((rvK l i).set i (l.getD (l.length - 1 - i) 0)).length = l.length := by rw [List.length_set, hk]
    have hnx : (l.length : Int) - 1 - (i : Int) - 1 = (l.length : Int) - 1 - ((i + 1 : Nat) : Int) := by omega
    repeat' (first | refine tw_ ?_ | (refine ta_ ?_; intro _) | ((fail_if_success (refine ybi rfl ?_)); refine ybj rfl ?_ ?_ <;> (intro ht; rw [ht]; first | replace ht := of_decide_eq_true ht | replace ht := of_decide_eq_false ht | skip)) | (refine ych ?_; first | (refine ybw rfl ?_ ?_ <;> intro ht) | (refine ybx rfl ?_ ?_ <;> intro ht)))
    · refine cx_region_drawL [Res.part g (0 + ((l.length : Int) - 1 - (i : Int)).toNat * 1) (.int .u8 (l.getD (l.length - 1 - i) 0)) []] [11] rfl (by kernel_rfl) ?_
      repeat' (refine ycf ?_;(first|(first|(apply ybm;(·(first|(apply yae;(·rfl);(·(first|exact Cells.cell0 (part_cells 0 rfl)|exact byte_cellx e1 (row_cells 0 rfl) (by omega) (by omega))))|exact tq_));(·rfl);(·rfl);(·(first|exact fun w s => hpart _ hk e2 w s|exact fun w s => hpart _ hl1 hs1 w s)))|refine ybl rfl rfl ?_|((fail_if_success (refine ybi rfl ?_));refine ybj rfl ?_ ?_<;>(intro ht;rw [ht];first|replace ht := of_decide_eq_true ht|replace ht := of_decide_eq_false ht|skip))|(refine tb_ ?_ ?_ ?_;(·(first|exact ybf|(refine .inl ?_;(first|exact fun w s => hpart _ hk e2 w s|exact fun w s => hpart _ hl1 hs1 w s))|exact to_));(·intro _;(first|exact ybf|(refine .inl ?_;(first|exact fun w s => hpart _ hk e2 w s|exact fun w s => hpart _ hl1 hs1 w s))|exact to_));intro _)|(first|(first|(refine rx_rowstore 0 rfl rfl rfl rfl (by show 0 + i * 1 + 1 ≤ _;omega) rfl (spl_byte' (t := i) (by show 0 + i * 1 = i;omega) (by omega)) rfl rfl ?_ ?_ ?_;(·(first|exact ybf|(refine .inl ?_;(first|exact fun w s => hpart _ hk e2 w s|exact fun w s => hpart _ hl1 hs1 w s))|exact to_));(·(first|exact ybf|(refine .inl ?_;(first|exact fun w s => hpart _ hk e2 w s|exact fun w s => hpart _ hl1 hs1 w s))|exact to_)))|(refine rx_rowstore 0 rfl rfl rfl rfl (by show 0 + ((l.length : Int) - 1 - (i : Int)).toNat * 1 + 1 ≤ _;omega) rfl (spl_byte' (t := l.length - 1 - i) (by omega) (by omega)) rfl rfl ?_ ?_ ?_;(·(first|exact ybf|(refine .inl ?_;(first|exact fun w s => hpart _ hk e2 w s|exact fun w s => hpart _ hl1 hs1 w s))|exact to_));(·(first|exact ybf|(refine .inl ?_;(first|exact fun w s => hpart _ hk e2 w s|exact fun w s => hpart _ hl1 hs1 w s))|exact to_))))|(refine tqs_ ?_ ?_ ?_;(·(first|exact ybf|(refine .inl ?_;(first|exact fun w s => hpart _ hk e2 w s|exact fun w s => hpart _ hl1 hs1 w s))|exact to_));(·(first|exact ybf|(refine .inl ?_;(first|exact fun w s => hpart _ hk e2 w s|exact fun w s => hpart _ hl1 hs1 w s))|exact to_))))|(apply ybn;(·(first|(apply yae;(·rfl);(·(first|exact Cells.cell0 (part_cells 0 rfl)|exact byte_cellx e1 (row_cells 0 rfl) (by omega) (by omega))))|exact tq_));(·rfl);(·rfl);(·rfl);(·(first|exact ybf|(refine .inl ?_;(first|exact fun w s => hpart _ hk e2 w s|exact fun w s => hpart _ hl1 hs1 w s))|exact to_))))|refine ycg ?_))
      repeat' (first|(refine ycf ?_;apply ybk;(·first|(apply yae;(·rfl);(·(first|exact Cells.cell0 (part_cells 0 rfl)|exact byte_cellx e1 (row_cells 0 rfl) (by omega) (by omega)))));(·rfl);(·rfl))|(first|(refine rx_rowstore 0 rfl rfl rfl rfl (by show 0 + i * 1 + 1 ≤ _;omega) rfl (spl_byte' (t := i) (by show 0 + i * 1 = i;omega) (by omega)) rfl rfl ?_ ?_ ?_;(·(first|exact ybf|(refine .inl ?_;(first|exact fun w s => hpart _ hk e2 w s|exact fun w s => hpart _ hl1 hs1 w s))|exact to_));(·(first|exact ybf|(refine .inl ?_;(first|exact fun w s => hpart _ hk e2 w s|exact fun w s => hpart _ hl1 hs1 w s))|exact to_)))|(refine rx_rowstore 0 rfl rfl rfl rfl (by show 0 + ((l.length : Int) - 1 - (i : Int)).toNat * 1 + 1 ≤ _;omega) rfl (spl_byte' (t := l.length - 1 - i) (by omega) (by omega)) rfl rfl ?_ ?_ ?_;(·(first|exact ybf|(refine .inl ?_;(first|exact fun w s => hpart _ hk e2 w s|exact fun w s => hpart _ hl1 hs1 w s))|exact to_));(·(first|exact ybf|(refine .inl ?_;(first|exact fun w s => hpart _ hk e2 w s|exact fun w s => hpart _ hl1 hs1 w s))|exact to_))))|refine t1_ ?_|(refine ta_ ?_;intro _)|((fail_if_success (refine ybi rfl ?_));refine ybj rfl ?_ ?_<;>(intro ht;rw [ht];first|replace ht := of_decide_eq_true ht|replace ht := of_decide_eq_false ht|skip))|(refine ych ?_;first|(refine ybw rfl ?_ ?_<;>intro ht)|(refine ybx rfl ?_ ?_<;>intro ht)))
      refine nx_round (i + 1) (by omega) (by omega) (Sub.cons rfl rfl (Sub.cons rfl rfl (Sub.cons rfl (congrArg (Value.int .i64) hnx) Sub.nil))) (fun _ s => ?_)
      rw [← rvK_step hil]
      exact s
    · omega
  · repeat' (first|(refine ycf ?_;apply ybk;(·first|(apply yae;(·rfl);(·(first|exact Cells.cell0 (part_cells 0 rfl)|exact byte_cellx e1 (row_cells 0 rfl) (by omega) (by omega)))));(·rfl);(·rfl))|(first|(refine rx_rowstore 0 rfl rfl rfl rfl (by show 0 + i * 1 + 1 ≤ _;omega) rfl (spl_byte' (t := i) (by show 0 + i * 1 = i;omega) (by omega)) rfl rfl ?_ ?_ ?_;(·(first|exact ybf|(refine .inl ?_;(first|exact fun w s => hpart _ hk e2 w s|exact fun w s => hpart _ hl1 hs1 w s))|exact to_));(·(first|exact ybf|(refine .inl ?_;(first|exact fun w s => hpart _ hk e2 w s|exact fun w s => hpart _ hl1 hs1 w s))|exact to_)))|(refine rx_rowstore 0 rfl rfl rfl rfl (by show 0 + ((l.length : Int) - 1 - (i : Int)).toNat * 1 + 1 ≤ _;omega) rfl (spl_byte' (t := l.length - 1 - i) (by omega) (by omega)) rfl rfl ?_ ?_ ?_;(·(first|exact ybf|(refine .inl ?_;(first|exact fun w s => hpart _ hk e2 w s|exact fun w s => hpart _ hl1 hs1 w s))|exact to_));(·(first|exact ybf|(refine .inl ?_;(first|exact fun w s => hpart _ hk e2 w s|exact fun w s => hpart _ hl1 hs1 w s))|exact to_))))|refine t1_ ?_|(refine ta_ ?_;intro _)|((fail_if_success (refine ybi rfl ?_));refine ybj rfl ?_ ?_<;>(intro ht;rw [ht];first|replace ht := of_decide_eq_true ht|replace ht := of_decide_eq_false ht|skip))|(refine ych ?_;first|(refine ybw rfl ?_ ?_<;>intro ht)|(refine ybx rfl ?_ ?_<;>intro ht)))
    · omega
    refine nx_end0 rfl (fun w' s' => ⟨_, rfl, ?_, trivial⟩)
    rw [← rvK_end (i := i) (by omega)]
    show St _ _ [Res.row 5 1 (.slice (some ⟨g, 0, none⟩) l.length cap) (rvK l i).length (bcs (rvK l i))] _
    rw [rvK_len]
    exact s'
end Go.Proofs.YtkkjppeaaicgaaaGreat
end
