/-
  CkMore: comparisons of structs, arrays and slices; more laws on slices.
  Conditions: none; each law states its own.
-/
import Derived.Test.YtbpahaciegfpfaaCkSl
import Derived.Laws.StructEq
namespace Go.Ck
open Go
set_option linter.unusedVariables false
set_option linter.unusedSimpArgs false
section
variable {P : Program} {n : Nat} {K : Bs} {F : List (Nat × Value)} {h : View} {L : List Res} {Q : Exit → Act → World → Prop}
variable {dst : Option Nat} {ty : Nat} {pos : String} {af : Array Edge} {gd : Option (Nat × Bool)}

/-- '==' at a type: what it gives -/
class TyG (P : Program) (T : Nat) : Prop where
  g : P.eqGuardType P.depth T = false
theorem run_guard_agg {op : BinOp} {T : Nat} {x y : Operand} {a b : Array Value} {w : World} [tg : TyG P T] : (eqGuard op T x y (.agg a) (.agg b)).run P w = .ok () w := run_eqGuard_agg w op T x y a b tg.g
theorem qv_eql_agg {T T' : Nat} {x y : Operand} {a b : Array Value} {t : Bool} [tg : TyG P T] (hx : ev F x = some (.agg a)) (hy : ev F y = some (.agg b)) (he : ∀ w, (Op.equal T (.agg a) (.agg b)).run P w = .ok t w) :
    QV P n F h L ⟨dst, .binOp .eql T x y T', ty, pos, af, gd⟩ (.bool t) := .mk fun ac w f s => by
  simp [execOp, f.ev hx, f.ev hy, run_guard_agg, binOp, he]
theorem qv_neq_agg {T T' : Nat} {x y : Operand} {a b : Array Value} {t : Bool} [tg : TyG P T] (hx : ev F x = some (.agg a)) (hy : ev F y = some (.agg b)) (he : ∀ w, (Op.equal T (.agg a) (.agg b)).run P w = .ok t w) :
    QV P n F h L ⟨dst, .binOp .neq T x y T', ty, pos, af, gd⟩ (.bool (!t)) := .mk fun ac w f s => by
  simp [execOp, f.ev hx, f.ev hy, run_guard_agg, binOp, he]

/-- arrays of ints -/
theorem run_equal_arr {T e m by' : Nat} {z : Value} {k k' : IntKind} [tu : TyU P T (.array m e)] [te : TyU P e (.int k')] [ta : TyA P e false] [tb : TyB P e z 1 by'] (u v : List Int) (hu : u.length = m) (hv : v.length = m) (w : World) :
    (Op.equal T (.agg (u.map (Value.int k)).toArray) (.agg (v.map (Value.int k)).toArray)).run P w = .ok (decide (u = v)) w := by
  obtain ⟨i, hi, _, hsz, _⟩ := tb.ex
  have hc : P.cellsOf e = 1 := by simp [Program.cellsOf, hi, hsz]
  unfold Op.equal Op.maxDepth
  rw [run_equalIn_array w 9999 _ _ tu.u hi, hc]
  have key : ∀ (c i : Nat), i + c = m → (Op.eqItems 9999 e 1 (u.map (Value.int k)).toArray (v.map (Value.int k)).toArray (List.range' i c)).run P w = .ok (decide (u.drop i = v.drop i)) w := by
    intro c
    induction c with
    | zero =>
      intro i hi
      have h1 : u.drop i = [] := List.drop_eq_nil_of_le (by omega)
      have h2 : v.drop i = [] := List.drop_eq_nil_of_le (by omega)
      simp [Op.eqItems, h1, h2]
    | succ c ih =>
      intro i hi
      have hlu : i < u.length := by omega
      have hlv : i < v.length := by omega
      have p1 : (part e (u.map (Value.int k)).toArray (i * 1)).run P w = .ok (.int k u[i]) w := by simp [part, ta.a, hlu]
      have p2 : (part e (v.map (Value.int k)).toArray (i * 1)).run P w = .ok (.int k v[i]) w := by simp [part, ta.a, hlv]
      have p3 : (Op.equalIn 9999 e (.int k u[i]) (.int k v[i])).run P w = .ok (u[i] == v[i]) w := run_equalIn_int w 9998 e k k' _ _ te.u
      rw [List.range'_succ]
      simp only [Op.eqItems, Sem.run_bind, p1, p2, p3, Result.andThen_ok]
      have eu := List.drop_eq_getElem_cons hlu
      have ev := List.drop_eq_getElem_cons hlv
      by_cases heq : u[i] = v[i]
      · have hb : (u[i] == v[i]) = true := by simpa using heq
        simp only [hb, Bool.not_true, Bool.false_eq_true, if_false]
        rw [ih (i + 1) (by omega), eu, ev, heq]
        simp only [List.cons.injEq, true_and]
      · have hb : (u[i] == v[i]) = false := by simpa using heq
        simp only [hb, Bool.not_false, if_true, Sem.run_pure]
        rw [eu, ev]
        simp only [List.cons.injEq, heq, false_and, decide_false]
  have := key m 0 (by omega)
  rw [← List.range_eq_range'] at this
  simpa using this

/-! slices -/
theorem run_eq_slnil {T e : Nat} {ad : Option Addr} {m c m' c' : Nat} {w : World} (hu : P.underlying T = some (.slice e)) : (Op.equal T (.slice ad m c) (.slice none m' c')).run P w = .ok ad.isNone w := by
  unfold Op.equal Op.maxDepth
  rw [Op.equalIn]
  simp only [Sem.run_bind, run_underlying hu, Result.andThen_ok]
  cases ad <;> simp
theorem qv_eql_slnil {T T' e : Nat} {x y : Operand} {ad : Option Addr} {m c m' c' : Nat} [tu : TyU P T (.slice e)] (hx : ev F x = some (.slice ad m c)) (hy : ev F y = some (.slice none m' c')) :
    QV P n F h L ⟨dst, .binOp .eql T x y T', ty, pos, af, gd⟩ (.bool ad.isNone) := .mk fun a w f s => by
  have hg : (eqGuard .eql T x y (.slice ad m c) (.slice none m' c')).run P w = .ok () w := by simp [eqGuard]
  simp only [execOp, f.ev hx, f.ev hy, Sem.run_bind, hg, Result.andThen_ok]
  have hb : (binOp .eql T (.slice ad m c) (.slice none m' c')).run P w = .ok (.bool ad.isNone) w := by
    simp only [binOp, Sem.run_bind, run_eq_slnil tu.u, Result.andThen_ok, Sem.run_pure]
  rw [hb]; rfl
theorem qv_neq_slnil {T T' e : Nat} {x y : Operand} {ad : Option Addr} {m c m' c' : Nat} [tu : TyU P T (.slice e)] (hx : ev F x = some (.slice ad m c)) (hy : ev F y = some (.slice none m' c')) :
    QV P n F h L ⟨dst, .binOp .neq T x y T', ty, pos, af, gd⟩ (.bool ad.isSome) := .mk fun a w f s => by
  have hg : (eqGuard .neq T x y (.slice ad m c) (.slice none m' c')).run P w = .ok () w := by simp [eqGuard]
  simp only [execOp, f.ev hx, f.ev hy, Sem.run_bind, hg, Result.andThen_ok]
  have hb : (binOp .neq T (.slice ad m c) (.slice none m' c')).run P w = .ok (.bool ad.isSome) w := by
    simp only [binOp, Sem.run_bind, run_eq_slnil tu.u, Result.andThen_ok, Sem.run_pure]
    cases ad <;> rfl
  rw [hb]; rfl
theorem qv_cap {T : Nat} {x : Operand} {ad : Option Addr} {len cap e : Nat} [tu : TyU P T (.slice e)] (hx : ev F x = some (.slice ad len cap)) :
    QV P n F h L ⟨dst, .call ⟨.builtin .cap, #[x], #[T]⟩, ty, pos, af, gd⟩ (.int .i64 cap) := .mk fun a w f s => by
  simp [execOp, resolve, invoke, builtin, Builtin.cap_, run_underlying tu.u, f.ev hx, goInt]
/-- x[:i] -/
theorem qv_slice_to {T e k : Nat} {x y : Operand} {ad : Option Addr} {len cap : Nat} {ki : IntKind} {i : Int} [tu : TyU P T (.slice e)] [ts : TyS P e k] (hx : ev F x = some (.slice ad len cap)) (hy : ev F y = some (.int ki i)) (h0 : 0 ≤ i) (h1 : i ≤ cap) :
    QV P n F h L ⟨dst, .slice T x none (some y) none, ty, pos, af, gd⟩ (.slice ad i.toNat cap) := .mk fun a w f s => by
  simp [execOp, f.ev hx, f.ev hy, Instr.sliceAt, Instr.slice, Instr.sliceBounds, Instr.sliceBound, asIntOf, run_underlying tu.u, h0, h1, ts.s]
  intro hc
  cases ad with
  | none => rfl
  | some ad => simp [Addr.add]
/-- a block of no cells as a row -/
theorem St.rowOf {b : Nat} {cs : Array Value} {e : TypeId} {k m cap : Nat} {w : World} (s : St K h (Res.blk b (.cells cs e (0, 0)) :: L) w) (hm : m ≤ cap) (hc : cap ≤ maxLen) (hs : cs.size = cap * k) : St K h (Res.row e k (.slice (some ⟨b, 0, none⟩) m cap) m (cs.toList.take (m * k)) :: L) w := by
  have hd : doms (Res.row e k (.slice (some ⟨b, 0, Option.none⟩) m cap) m (cs.toList.take (m * k)) :: L) = doms (Res.blk b (.cells cs e (0, 0)) :: L) := by simp [doms_cons, Res.row, Res.blk, Value.ownBlock]
  have hb : w.heap[b]? = some (.cells cs e (0, 0)) := s.hd.own _ (List.mem_cons_self ..)
  exact ⟨s.os, s.tape, s.output, s.drawn, s.size, s.keep, ⟨s.hd.view, fun r hr => by
    rcases List.mem_cons.1 hr with rfl | hr
    · refine ⟨?_, .inr ⟨b, cap, cs, rfl, Nat.zero_le _, hb, hm, hc, hs, rfl⟩⟩
      have : m * k ≤ cap * k := Nat.mul_le_mul_right _ hm
      simp; omega
    · exact s.hd.own r (List.mem_cons_of_mem _ hr)⟩, by rw [hd]; exact s.nd, fun b hb => s.src b (by rw [← hd]; exact hb), s.grow, s.new, fun b hb => s.dis b (by rw [← hd]; exact hb)⟩
theorem rx_rowOf {g : Rg} {prs : List (Nat × Oper)} {b : Nat} {cs : Array Value} {e : TypeId} (k m cap : Nat) (hm : m ≤ cap) (hc : cap ≤ maxLen) (hs : cs.size = cap * k) (hx : RX P n K g prs F h (Res.row e k (.slice (some ⟨b, 0, none⟩) m cap) m (cs.toList.take (m * k)) :: L) Q) :
    RX P n K g prs F h (Res.blk b (.cells cs e (0, 0)) :: L) Q := by
  unfold RX at *
  exact fun a w f s => hx a w f (s.rowOf hm hc hs)

theorem ma_buildSlice0 {T e sz : Nat} [tu : TyU P T (.slice e)] [ts : TyS P e sz] : MA P n F h L ⟨dst, .buildSlice T 0 #[], ty, pos, af, gd⟩ (fun b => .slice (some ⟨b, 0, none⟩) 0 0) (.cells #[] e) := .mk fun a w f s => by
  simp [execOp, Instr.buildSlice, run_underlying tu.u, ts.s, Instr.fill, newRow, newObj, Sem.run]
  have : Array.map (fun _ : Nat => (default : Value)) (Array.range 0) = #[] := by apply Array.ext'; simp
  rw [this]

/-- a slice whose cells are read, as append's source -/
theorem Sc.src {k m cap : Nat} {ad : Option Addr} {xs : List Value} (s : Sc h k (.slice ad m cap) m xs) : (xs = [] ∧ m * k = 0) ∨ ∃ b o, ad = some ⟨b, o, none⟩ ∧ Cells h L ⟨b, o, none⟩ xs := by
  have s' := s
  obtain ⟨h1, ad', cap', h2, h3, h4⟩ := s'
  cases h2
  rcases h4 with rfl | ⟨b, o, _, _, _, rfl, _⟩
  · exact .inl ⟨rfl, by simpa using h1.symm⟩
  · exact .inr ⟨b, o, rfl, s.cells⟩

/-- append of a slice that is read, whatever it is: the row takes its cells -/
theorem rx_append_sc {g : Rg} {i : Nat} {r : List (Nat × Oper)} {T e : Nat} {x y : Operand} {z v : Value} {sz by' m0 m c : Nat} {ad : Option Addr} {xs news : List Value} (k : Nat) [tu : TyU P T (.slice e)] [tb : TyB P e z sz by'] (hx : ev F x = some v) (hy : ev F y = some (.slice ad m c))
    (hk : L[k]? = some (Res.row e sz v m0 xs)) (hnews : Sc h sz (.slice ad m c) m news) (h1 : ∀ u ∈ news, u.oneCell' = true) (hzs : z.cells.size = sz) (hsz : 0 < sz) (h63 : m0 + m ≤ maxLen) (hbytes : (m0 + m) * by' ≤ 140737488355328)
    (hw : wantedF g.ops F ⟨dst, .call ⟨.builtin .append, #[x, y], #[T, T]⟩, ty, pos, af, gd⟩ = some true) (hd : okd n dst = true) (hlo : g.lo i = true) (o1 : Owe g i h L)
    (o2 : ∀ v', Owe g i h (L.set k (Res.row e sz v' (m0 + m) (xs ++ news))))
    (hn : ∀ v', (v' = .slice none 0 0 ↔ v = .slice none 0 0 ∧ m = 0) → RX P n K g r (putF dst v' F) h (L.set k (Res.row e sz v' (m0 + m) (xs ++ news))) Q) :
    RX P n K g ((i, ⟨dst, .call ⟨.builtin .append, #[x, y], #[T, T]⟩, ty, pos, af, gd⟩) :: r) F h L Q := by
  have hl : news.length = m * sz := hnews.1
  rcases hnews.src (L := L) with ⟨rfl, hm⟩ | ⟨b, o, rfl, hc⟩
  · have hm : m = 0 := by
      rcases Nat.mul_eq_zero.1 hm with h | h
      · exact h
      · omega
    subst hm
    cases ad with
    | some ad => exact rx_append k hx hy hk (fun w s j u hj => by simp at hj) (by simp) h1 hzs hsz h63 hbytes hw hd hlo o1 o2 hn
    | none =>
      have hset : L.set k (Res.row e sz v (m0 + 0) (xs ++ [])) = L := by
        have : Res.row e sz v (m0 + 0) (xs ++ []) = Res.row e sz v m0 xs := by simp
        rw [this]
        obtain ⟨hlt, he⟩ := List.getElem?_eq_some_iff.1 hk
        rw [← he]
        exact List.set_getElem_self hlt
      have hn' := hn v (by simp)
      rw [hset] at hn'
      unfold RX at *
      intro a w f s
      have hown : w.ownsRow 0 e sz v m0 xs := s.hd.own _ (List.mem_of_getElem? hk)
      obtain ⟨ii, hi, hz, hsize, hby⟩ := tb.ex
      refine .inr (.inr ⟨wantedF_ok f hw, hlo, o1.out s, ?_⟩)
      unfold Oper.wp
      have : (execOp a.eval ⟨dst, .call ⟨.builtin .append, #[x, y], #[T, T]⟩, ty, pos, af, gd⟩).run P w = .ok (.value v) w := by
        rcases hown.2 with ⟨rfl, rfl⟩ | ⟨g', cap, cur, rfl, _, _, hnc, _⟩
        · simp [execOp, resolve, invoke, builtin, f.ev hx, f.ev hy, Builtin.append_, run_underlying tu.u, sizeOf, typeInfo, hi, Builtin.lenOf, Builtin.firstCells]
        · simp [execOp, resolve, invoke, builtin, f.ev hx, f.ev hy, Builtin.append_, run_underlying tu.u, sizeOf, typeInfo, hi, Builtin.lenOf, Builtin.firstCells, hnc, storeCells]
      rw [this]
      exact ⟨o1.out s, hn' _ _ (f.put hd v) s⟩
  · exact rx_append k hx hy hk hc hl h1 hzs hsz h63 hbytes hw hd hlo o1 o2 hn
end
end Go.Ck
