/-
  Part 2 of a proof: CkSl CkLaid CkMore CkConv CkBits CkTy CkTc.
  Conditions: each theorem states its own.
-/
import Derived.OpenShut
import Derived.JoinedTies
import Derived.Laws.StructEq
import Derived.Test.YtgeepceieckooaaGreatDoorRows
import Derived.Test.YtgeepceieckooaaGreatDoorSeEPM1
set_option maxRecDepth 100000
set_option linter.unusedVariables false
set_option linter.unusedSimpArgs false
section
namespace Go.Ck
open Go
section
variable {P : Program} {n : Nat} {K : Bs} {F : List (Nat × Value)} {h : View} {L : List Res} {Q : Exit → Act → World → Prop}
variable {dst : Option Nat} {ty : Nat} {pos : String} {af : Array Edge} {gd : Option (Nat × Bool)}
def Sc (h : View) (k : Nat) (v : Value) (m : Nat) (xs : List Value) : Prop :=
  xs.length = m * k ∧ ∃ ad cap, v = .slice ad m cap ∧ m ≤ cap ∧ (xs = [] ∨ ∃ b o cs e fz, ad = some ⟨b, o, none⟩ ∧ h b = some (.cells cs e fz) ∧ ∀ j u, xs[j]? = some u → cs[o + j]? = some u)
theorem Sc.mono {h h' : View} {k m : Nat} {v : Value} {xs : List Value} (s : Sc h k v m xs) (hl : Le h h') : Sc h' k v m xs := by
  obtain ⟨h1, ad, cap, h2, h3, h4⟩ := s
  refine ⟨h1, ad, cap, h2, h3, h4.imp id ?_⟩
  rintro ⟨b, o, cs, e, fz, q1, q2, q3⟩
  exact ⟨b, o, cs, e, fz, q1, hl _ _ q2, q3⟩
theorem Sc.nil (h : View) (k : Nat) (ad : Option Addr) (cap : Nat) : Sc h k (.slice ad 0 cap) 0 [] := ⟨by simp, ad, cap, rfl, Nat.zero_le _, .inl rfl⟩
theorem cell_at {b o : Nat} {v : Value} (hx : ∀ w, Hd h L w → w.cell? ⟨b, o, none⟩ = some v) : CellAt h L b o v := by unfold CellAt; exact hx
theorem cell_at_out {b o : Nat} {v : Value} (hx : CellAt h L b o v) : ∀ w, Hd h L w → w.cell? ⟨b, o, none⟩ = some v := by unfold CellAt at hx; exact hx
theorem Cells.cell {b o : Nat} {vs : List Value} (c : Cells h L ⟨b, o, none⟩ vs) {j : Nat} {u : Value} (hj : vs[j]? = some u) : CellAt h L b (o + j) u := cell_at fun w s => by
  have := c w s j u hj
  rwa [Addr.add_off] at this
theorem Cells.cell0 {b o : Nat} {u : Value} {vs : List Value} (c : Cells h L ⟨b, o, none⟩ (u :: vs)) : CellAt h L b o u := c.cell (j := 0) rfl
theorem Cells.drop {b o : Nat} {vs : List Value} (c : Cells h L ⟨b, o, none⟩ vs) (j : Nat) : Cells h L ⟨b, o + j, none⟩ (vs.drop j) := fun w s i u hi => by
  rw [List.getElem?_drop] at hi
  have := c w s (j + i) u hi
  rw [Addr.add_off] at this ⊢
  rwa [Nat.add_assoc]
theorem Cells.take {ad : Addr} {vs : List Value} (c : Cells h L ad vs) (j : Nat) : Cells h L ad (vs.take j) := fun w s i u hi => by
  rw [List.getElem?_take] at hi
  split at hi
  · exact c w s i u hi
  · cases hi
theorem Sc.cells {k m cap b o : Nat} {xs : List Value} (s : Sc h k (.slice (some ⟨b, o, none⟩) m cap) m xs) : Cells h L ⟨b, o, none⟩ xs := fun w hd j u hj => by
  obtain ⟨h1, ad, cap', h2, h3, h4⟩ := s
  cases h2
  rcases h4 with rfl | ⟨b', o', cs, e, fz, q1, q2, q3⟩
  · simp at hj
  · cases q1
    have := hd.view _ _ q2
    rw [Addr.add_off]
    simp [World.cell?, this, q3 j u hj]
theorem Sc.ad {k m cap : Nat} {ad : Option Addr} {xs : List Value} (s : Sc h k (.slice ad m cap) m xs) (hm : 0 < m) (hk : 0 < k) : ∃ b o, ad = some ⟨b, o, none⟩ := by
  obtain ⟨h1, ad', cap', h2, h3, h4⟩ := s
  cases h2
  rcases h4 with rfl | ⟨b, o, _, _, _, q1, _⟩
  · simp only [List.length_nil] at h1
    rcases Nat.mul_eq_zero.1 h1.symm with h | h <;> omega
  · exact ⟨b, o, q1⟩
theorem run_loadFrom_cells {ad : Addr} {vs : List Value} {w : World} : ∀ (k i : Nat) (acc : Array Value), i + k = vs.length → (∀ j u, vs[j]? = some u → w.cell? (ad.add j) = some u) → (loadCellsFrom ad i k acc).run P w = .ok (acc ++ (vs.drop i).toArray) w
  | 0, i, acc, hk, hc => by
    have : vs.drop i = [] := List.drop_eq_nil_of_le (by omega)
    simp [loadCellsFrom, this]
  | k + 1, i, acc, hk, hc => by
    have hlt : i < vs.length := by omega
    have hl : (load (ad.add i)).run P w = .ok vs[i] w := by simp [load, Sem.run, hc i vs[i] (by simp [hlt])]
    simp only [loadCellsFrom, Sem.run_bind, hl, Result.andThen_ok]
    rw [run_loadFrom_cells k (i + 1) _ (by omega) hc]
    rw [List.drop_eq_getElem_cons hlt]
    simp
theorem run_loadCells_cells {ad : Addr} {vs : List Value} {w : World} (hc : ∀ j u, vs[j]? = some u → w.cell? (ad.add j) = some u) : (loadCells ad vs.length).run P w = .ok vs.toArray w := by
  have := run_loadFrom_cells (P := P) (w := w) vs.length 0 #[] (by simp) hc
  simpa [loadCells] using this
theorem yad {T : Nat} {x : Operand} {ad : Addr} {k : Nat} {vs : List Value} [ta : TyA P T true] [ts : TyS P T k] (hx : ev F x = some (.pointer (some ad))) (hc : Cells h L ad vs) (hk : vs.length = k) :
    QV P n F h L ⟨dst, .load T x, ty, pos, af, gd⟩ (.agg vs.toArray) := .mk fun a w f s => by
  subst hk
  simp [execOp, f.ev hx, Instr.loadAt, Instr.sureAddr, loadVar, ta.a, ts.s, run_loadCells_cells (P := P) (hc w s)]
theorem rv_cells {T s k : Nat} {ad : Addr} {vs : List Value} [ta : TyA P T true] [ts : TyS P T k] (hx : lk F s = some (.pointer (some ad))) (hc : Cells h L ad vs) (hk : vs.length = k) :
    RV P F h L (.cell s T) (.agg vs.toArray) := ⟨ad, hx, fun w hd => by subst hk; simp [loadVar, ta.a, ts.s, run_loadCells_cells (P := P) (hc w hd)]⟩
theorem flat_len {α : Type} {enc : α → List Value} {k : Nat} (hk : ∀ x, (enc x).length = k) (l : List α) : (l.flatMap enc).length = l.length * k := by
  induction l with
  | nil => simp
  | cons x l ih => simp [hk, ih, Nat.add_mul, Nat.add_comm]
theorem flat_at {α : Type} {enc : α → List Value} {k : Nat} (hk : ∀ x, (enc x).length = k) : ∀ (l : List α) (i : Nat) (hi : i < l.length), ((l.flatMap enc).drop (i * k)).take k = enc l[i]
  | x :: l, 0, _ => by simp [hk]
  | x :: l, i + 1, hi => by
    have h1 : (i + 1) * k = (enc x).length + i * k := by rw [hk, Nat.add_mul]; omega
    simp only [List.flatMap_cons, h1, List.drop_append, List.getElem_cons_succ]
    have h2 : List.drop ((enc x).length + i * k) (enc x) = [] := List.drop_eq_nil_of_le (by omega)
    rw [h2, List.nil_append, Nat.add_sub_cancel_left]
    exact flat_at hk l i (by simpa using hi)
theorem row_cells {e : TypeId} {sz m cap g : Nat} {xs : List Value} (k : Nat) (hk : L[k]? = some (Res.row e sz (.slice (some ⟨g, 0, none⟩) m cap) m xs)) : Cells h L ⟨g, 0, none⟩ xs := fun w s j u hj => by
  have ho : w.ownsRow 0 e sz (.slice (some ⟨g, 0, none⟩) m cap) m xs := s.own _ (List.mem_of_getElem? hk)
  exact ho.cells (g := g) rfl j u hj
theorem cx_rowform {c : Code} {e : TypeId} {sz m : Nat} {v : Value} {xs : List Value} (k : Nat) (hk : L[k]? = some (Res.row e sz v m xs)) (h1 : v = .slice Option.none 0 0 → m = 0 → xs = [] → CX P n K c F h L Q) (h2 : ∀ g cap, v = .slice (some ⟨g, 0, Option.none⟩) m cap → CX P n K c F h L Q) : CX P n K c F h L Q := by
  unfold CX at *
  intro a w f s
  have ho : w.ownsRow 0 e sz v m xs := s.hd.own _ (List.mem_of_getElem? hk)
  rcases ho.2 with ⟨q1, q2⟩ | ⟨g, cap, cur, q1, _⟩
  · exact h1 q1 q2 (List.eq_nil_of_length_eq_zero (by rw [ho.1, q2]; simp)) a w f s
  · exact h2 g cap q1 a w f s
theorem rx_rowform {g : Rg} {prs : List (Nat × Oper)} {e : TypeId} {sz m : Nat} {v : Value} {xs : List Value} (k : Nat) (hk : L[k]? = some (Res.row e sz v m xs)) (h1 : v = .slice Option.none 0 0 → m = 0 → xs = [] → RX P n K g prs F h L Q) (h2 : ∀ g' cap, v = .slice (some ⟨g', 0, Option.none⟩) m cap → RX P n K g prs F h L Q) : RX P n K g prs F h L Q := by
  unfold RX at *
  intro a w f s
  have ho : w.ownsRow 0 e sz v m xs := s.hd.own _ (List.mem_of_getElem? hk)
  rcases ho.2 with ⟨q1, q2⟩ | ⟨g, cap, cur, q1, _⟩
  · exact h1 q1 q2 (List.eq_nil_of_length_eq_zero (by rw [ho.1, q2]; simp)) a w f s
  · exact h2 g cap q1 a w f s
theorem St.rowPersist {e : TypeId} {k m : Nat} {v : Value} {xs : List Value} {w : World} (s : St K h (Res.row e k v m xs :: L) w) (hA : K.A = []) : ∃ h', Le h h' ∧ Sc h' k v m xs ∧ St K h' L w := by
  have ho : w.ownsRow 0 e k v m xs := s.hd.own _ (List.mem_cons_self ..)
  rcases ho.2 with ⟨rfl, rfl⟩ | ⟨g, cap, cur, rfl, _, hg, hn, _, hcs, htake⟩
  · have : xs = [] := List.eq_nil_of_length_eq_zero (by rw [ho.1]; simp)
    subst this
    exact ⟨h, Le.refl h, Sc.nil h k Option.none 0, s.tl⟩
  · have hd : doms (Res.row e k (.slice (some ⟨g, 0, Option.none⟩) m cap) m xs :: L) = doms (Res.blk g (.cells cur e (0, 0)) :: L) := by simp [doms_cons, Res.row, Res.blk, Value.ownBlock]
    have s2 : St K h (Res.blk g (.cells cur e (0, 0)) :: L) w := ⟨s.os, s.tape, s.output, s.drawn, s.size, s.keep, ⟨s.hd.view, fun r hr => by
      rcases List.mem_cons.1 hr with rfl | hr
      · exact hg
      · exact s.hd.own r (List.mem_cons_of_mem _ hr)⟩, by rw [← hd]; exact s.nd, fun b hb => s.src b (by rw [hd]; exact hb), s.grow, s.new, fun b hb => s.dis b (by rw [hd]; exact hb)⟩
    refine ⟨addV h g (.cells cur e (0, 0)), Le.addV (s2.dis g (by rw [doms_cons]; exact List.mem_append_left _ (List.mem_singleton.2 rfl))), ⟨ho.1, some ⟨g, 0, Option.none⟩, cap, rfl, hn, .inr ⟨g, 0, cur, e, (0, 0), rfl, addV_same, fun j u hj => ?_⟩⟩, s2.persist hA⟩
    rw [← htake, List.getElem?_take] at hj
    split at hj
    · simpa using hj
    · cases hj
theorem cx_persist {c : Code} {e : TypeId} {sz m : Nat} {v : Value} {xs : List Value} (hA : K.A = []) (hx : ∀ h', Le h h' → Sc h' sz v m xs → CX P n K c F h' L Q) : CX P n K c F h (Res.row e sz v m xs :: L) Q := by
  unfold CX at *
  intro a w f s
  obtain ⟨h', h1, h2, h3⟩ := s.rowPersist hA
  exact hx h' h1 h2 a w f h3
theorem rx_persist {g : Rg} {prs : List (Nat × Oper)} {e : TypeId} {sz m : Nat} {v : Value} {xs : List Value} (hA : K.A = []) (hx : ∀ h', Le h h' → Sc h' sz v m xs → RX P n K g prs F h' L Q) : RX P n K g prs F h (Res.row e sz v m xs :: L) Q := by
  unfold RX at *
  intro a w f s
  obtain ⟨h', h1, h2, h3⟩ := s.rowPersist hA
  exact hx h' h1 h2 a w f h3
def partsF (F : List (Nat × Value)) : List (Nat × Operand) → Option (List (Nat × Value))
  | [] => some []
  | (i, x) :: r => match ev F x, partsF F r with
    | some v, some vs => some ((i, v) :: vs)
    | _, _ => none
theorem partsF_ok {a : Act} (f : Fr n F a) : ∀ (l : List (Nat × Operand)) (ps : List (Nat × Value)), partsF F l = some ps → l.map (fun (p : Nat × Operand) => (p.1, a.eval p.2)) = ps
  | [], ps, hp => by simp [partsF] at hp; subst hp; rfl
  | (i, x) :: r, ps, hp => by
    simp only [partsF] at hp
    split at hp
    · rename_i v vs h1 h2
      cases hp
      simp [f.ev h1, partsF_ok f r vs h2]
    · cases hp
class TyP (P : Program) (T : Nat) (pl : outParam (List (Nat × Nat))) : Prop where
  p : ∃ fs : Array Field, P.underlying T = some (.struct fs) ∧ ∀ w, (fs.mapM fun f => do pure (f.offset, ← sizeOf f.type) : Sem (Array (Nat × Nat))).run P w = .ok pl.toArray w
theorem yax {T : Nat} {parts : Array (Nat × Operand)} {pl : List (Nat × Nat)} {z : Value} {ps : List (Nat × Value)} {cs : List Value} [tp : TyP P T pl] [tz : TyZ P T z] (hp : partsF F parts.toList = some ps) (hc : fillL (fun i : Nat => pl[i]?) z.cells.toList ps = some cs) :
    QV P n F h L ⟨dst, .build T parts, ty, pos, af, gd⟩ (.agg cs.toArray) := .mk fun a w f s => by
  obtain ⟨fs, h1, h2⟩ := tp.p
  have h3 := partsF_ok f _ _ hp
  have h4 : (parts.map (fun (p : Nat × Operand) => (p.1, a.eval p.2))).toList = ps := by rw [Array.toList_map]; exact h3
  have h5 : Instr.fill (fun i : Nat => pl.toArray[i]?) z.cells ps = some cs.toArray := by
    rw [fill_eq]
    have : (fun i : Nat => pl.toArray[i]?) = (fun i : Nat => pl[i]?) := by funext i; simp
    rw [this, hc]; rfl
  simp only [execOp, Sem.run_bind, Instr.build, tz.z, Result.andThen_ok, run_underlying h1, h2, h4, h5]
  rfl
theorem qv_build_arr {T e len sz : Nat} {parts : Array (Nat × Operand)} {z : Value} {ps : List (Nat × Value)} {cs : List Value} [tu : TyU P T (.array len e)] [ts : TyS P e sz] [tz : TyZ P T z] (hp : partsF F parts.toList = some ps) (hc : fillL (fun i => some (i * sz, sz)) z.cells.toList ps = some cs) :
    QV P n F h L ⟨dst, .build T parts, ty, pos, af, gd⟩ (.agg cs.toArray) := .mk fun a w f s => by
  have h3 := partsF_ok f _ _ hp
  have h4 : (parts.map (fun (p : Nat × Operand) => (p.1, a.eval p.2))).toList = ps := by rw [Array.toList_map]; exact h3
  have h5 : Instr.fill (fun i => some (i * sz, sz)) z.cells ps = some cs.toArray := by rw [fill_eq, hc]; rfl
  simp only [execOp, Sem.run_bind, Instr.build, tz.z, Result.andThen_ok, run_underlying tu.u, ts.s, h4, h5]
  rfl
def zerosL (z : List Value) (m : Nat) : List Value := (List.range m).map fun j => z[j % z.length]!
theorem ybd {T e sz len : Nat} {parts : Array (Nat × Operand)} {z : Value} {ps : List (Nat × Value)} {cs : List Value} [tu : TyU P T (.slice e)] [ts : TyS P e sz] [tz : TyZ P e z] (hlen : Nat.ble (len * sz) 16777216 = true) (hpos : Nat.beq (len * sz) 0 = false)
    (hp : partsF F parts.toList = some ps) (hc : fillL (fun i => some (i * sz, sz)) (zerosL z.cells.toList (len * sz)) ps = some cs) :
    MA P n F h L ⟨dst, .buildSlice T len parts, ty, pos, af, gd⟩ (fun b => .slice (some ⟨b, 0, none⟩) len len) (.cells cs.toArray e) := .mk fun a w f s => by
  have hlen : ¬ (len * sz > 2 ^ 24) := by have := Nat.le_of_ble_eq_true hlen; omega
  have hpos : ¬ (len * sz = 0) := fun e => by rw [e] at hpos; simp at hpos
  have h3 := partsF_ok f _ _ hp
  have h4 : (parts.map (fun (p : Nat × Operand) => (p.1, a.eval p.2))).toList = ps := by rw [Array.toList_map]; exact h3
  have h5 : Instr.fill (fun i => some (i * sz, sz)) ((Array.range (len * sz)).map (fun j => z.cells[j % z.cells.size]!)) ps = some cs.toArray := by
    rw [fill_eq]
    have : ((Array.range (len * sz)).map (fun j => z.cells[j % z.cells.size]!)).toList = zerosL z.cells.toList (len * sz) := by
      simp only [Array.toList_map, Array.toList_range, zerosL, Array.length_toList]
      refine List.map_congr_left fun j _ => ?_
      simp [getElem!_def]
    rw [this, hc]; rfl
  simp only [execOp, Sem.run_bind, Instr.buildSlice, run_underlying tu.u, Result.andThen_ok, ts.s, hlen, if_false, hpos, tz.z, h4, Sem.run_pure, h5, newRow, newObj, Sem.run]
  rfl
theorem ybe {sz : Nat} {z : List Value} {v : Value} (hz : z.length = sz) (hv : v.cells.size = sz) : fillL (fun i => some (i * sz, sz)) z [(0, v)] = some v.cells.toList := by
  simp only [fillL, hv, Nat.zero_mul, Nat.zero_add, hz]
  rw [if_neg (by simp)]
  congr 1
  exact ybh (by simp [hv, hz])
end
end Go.Ck
end

section
namespace Go.Ck
open Go Go.ChangeShapes
theorem var_heap {P : Program} {w : World} {n : String} {g : Nat} {cs : Array Value} (hg : P.globalNamed n = some g) (h : w.var? P n = some cs) : ∃ t fz, w.heap[g]? = some (.cells cs t fz) := by
  simp only [World.var?, hg, Option.bind_some] at h
  split at h
  · rename_i c t fr hb
    cases h
    exact ⟨t, fr, hb⟩
  · cases h
theorem trod_ints {H : Type} {enc : TypeId × Value → H} {P : Program} {w : World} {base : Nat} {spare : Nat → Bool} {held : Bool} {fuel N : Nat} {t e : TypeId} {cs : List Value} {k : IntKind} {l : List Int} {p : List MemPlace}
    (hu : P.underlying t = some (.array N e)) (he : P.underlying e = some (.int k)) (hc : P.cellsOf e = 1) (hct : P.cellsOf t = N)
    (h : DataW.trod enc P w base spare held fuel t cs = some (.agg (l.map fun x => .lit (.int k x)), p)) : cs = l.map (.int k) := by
  obtain ⟨xs, m, rfl, hx, hlen, hn, hel⟩ := DataW.trod_array hu h
  simp only [Prod.mk.injEq, DataW.agg.injEq] at hx
  have hl : l.length = N := by
    have := congrArg List.length hx.1
    simp only [List.length_map] at this
    omega
  apply List.ext_getElem (by simp [hlen, hct, hl])
  intro i h1 h2
  have hi : i < N := by omega
  have hxi : i < xs.length := by omega
  have := hel i hi
  rw [hc, Nat.mul_one, List.getElem?_eq_getElem hxi] at this
  obtain ⟨n, e1, e2, _⟩ := DataW.trod_int he this
  have e3 : (cs.drop i).take 1 = [cs[i]] := by
    rw [List.drop_eq_getElem_cons h1]
    rfl
  rw [e3] at e1
  have e4 : (xs.map (·.1))[i]? = some (.lit (.int k n)) := by simp [List.getElem?_eq_getElem hxi, e2]
  rw [← hx.1] at e4
  have hli : i < l.length := by omega
  simp only [List.getElem?_map, List.getElem?_eq_getElem hli, Option.map_some, Option.some.injEq, DataW.lit.injEq, Lit.int.injEq, true_and] at e4
  simp only [List.cons.injEq, and_true] at e1
  rw [e1]
  simp [e4]
theorem laid_ints {P : Program} {w : World} {n : String} {g : Nat} {t e : TypeId} {N : Nat} {k : IntKind} {l : List Int} {r : List (String × DataW Unit)} {ps : List MemPlace}
    (hg : P.globalNamed n = some g) (ht : (P.globals[g]?).map (·.type) = some t) (hu : P.underlying t = some (.array N e)) (he : P.underlying e = some (.int k)) (hc : P.cellsOf e = 1) (hct : P.cellsOf t = N)
    (h : DataW.LaidVars P w ((n, .agg (l.map fun x => .lit (.int k x))) :: r) ps) : (∃ ty fz, w.heap[g]? = some (.cells (l.map (.int k)).toArray ty fz)) ∧ ∃ qs, DataW.LaidVars P w r qs := by
  obtain ⟨g', t', cs, fuel, p, q, hg', ht', hv, hd, hr, _⟩ := h
  obtain rfl := Option.some.inj (hg.symm.trans hg')
  obtain rfl := Option.some.inj (ht.symm.trans ht')
  obtain ⟨ty, fz, hh⟩ := var_heap hg hv
  have := trod_ints hu he hc hct hd
  refine ⟨⟨ty, fz, ?_⟩, q, hr⟩
  rw [hh, ← this]
end Go.Ck
end

section
namespace Go.Ck
open Go
section
variable {P : Program} {n : Nat} {K : Bs} {F : List (Nat × Value)} {h : View} {L : List Res} {Q : Exit → Act → World → Prop}
variable {dst : Option Nat} {ty : Nat} {pos : String} {af : Array Edge} {gd : Option (Nat × Bool)}
class TyG (P : Program) (T : Nat) : Prop where
  g : P.eqGuardType P.depth T = false
theorem run_guard_agg {op : BinOp} {T : Nat} {x y : Operand} {a b : Array Value} {w : World} [tg : TyG P T] : (eqGuard op T x y (.agg a) (.agg b)).run P w = .ok () w := run_eqGuard_agg w op T x y a b tg.g
theorem qv_eql_agg {T T' : Nat} {x y : Operand} {a b : Array Value} {t : Bool} [tg : TyG P T] (hx : ev F x = some (.agg a)) (hy : ev F y = some (.agg b)) (he : ∀ w, (Op.equal T (.agg a) (.agg b)).run P w = .ok t w) :
    QV P n F h L ⟨dst, .binOp .eql T x y T', ty, pos, af, gd⟩ (.bool t) := .mk fun ac w f s => by
  simp [execOp, f.ev hx, f.ev hy, run_guard_agg, binOp, he]
theorem qv_neq_agg {T T' : Nat} {x y : Operand} {a b : Array Value} {t : Bool} [tg : TyG P T] (hx : ev F x = some (.agg a)) (hy : ev F y = some (.agg b)) (he : ∀ w, (Op.equal T (.agg a) (.agg b)).run P w = .ok t w) :
    QV P n F h L ⟨dst, .binOp .neq T x y T', ty, pos, af, gd⟩ (.bool (!t)) := .mk fun ac w f s => by
  simp [execOp, f.ev hx, f.ev hy, run_guard_agg, binOp, he]
theorem run_equal_arr {T e m by' : Nat} {z : Value} {k k' : IntKind} [tu : TyU P T (.array m e)] [te : TyU P e (.int k')] [ta : TyA P e false] [tb : TyB P e z 1 by'] (u v : List Int) (hu : u.length = m) (hv : v.length = m) (w : World) :
    (Op.equal T (.agg (u.map (Value.int k)).toArray) (.agg (v.map (Value.int k)).toArray)).run P w = .ok (decide (u = v)) w := by
  obtain ⟨i, hi, _, hsz, _⟩ := tb.ex
  have hc : P.cellsOf e = 1 := by simp [Program.cellsOf, hi, hsz]
  unfold Op.equal Op.maxDepth
  rw [run_equalIn_array w 9999 _ _ tu.u hi, hc]
  have key : ∀ (c i : Nat), i + c = m → (Op.eqItems 9999 e 1 (u.map (Value.int k)).toArray (v.map (Value.int k)).toArray (List.range' i c)).run P w = .ok (decide (u.drop i = v.drop i)) w := by
    intro c
    induction c with
    | zero =>
      intro i hi
      have h1 : u.drop i = [] := List.drop_eq_nil_of_le (by omega)
      have h2 : v.drop i = [] := List.drop_eq_nil_of_le (by omega)
      simp [Op.eqItems, h1, h2]
    | succ c ih =>
      intro i hi
      have hlu : i < u.length := by omega
      have hlv : i < v.length := by omega
      have p1 : (part e (u.map (Value.int k)).toArray (i * 1)).run P w = .ok (.int k u[i]) w := by simp [part, ta.a, hlu]
      have p2 : (part e (v.map (Value.int k)).toArray (i * 1)).run P w = .ok (.int k v[i]) w := by simp [part, ta.a, hlv]
      have p3 : (Op.equalIn 9999 e (.int k u[i]) (.int k v[i])).run P w = .ok (u[i] == v[i]) w := run_equalIn_int w 9998 e k k' _ _ te.u
      rw [List.range'_succ]
      simp only [Op.eqItems, Sem.run_bind, p1, p2, p3, Result.andThen_ok]
      have eu := List.drop_eq_getElem_cons hlu
      have ev := List.drop_eq_getElem_cons hlv
      by_cases heq : u[i] = v[i]
      · have hb : (u[i] == v[i]) = true := by simpa using heq
        simp only [hb, Bool.not_true, Bool.false_eq_true, if_false]
        rw [ih (i + 1) (by omega), eu, ev, heq]
        simp only [List.cons.injEq, true_and]
      · have hb : (u[i] == v[i]) = false := by simpa using heq
        simp only [hb, Bool.not_false, if_true, Sem.run_pure]
        rw [eu, ev]
        simp only [List.cons.injEq, heq, false_and, decide_false]
  have := key m 0 (by omega)
  rw [← List.range_eq_range'] at this
  simpa using this
theorem run_eq_slnil {T e : Nat} {ad : Option Addr} {m c m' c' : Nat} {w : World} (hu : P.underlying T = some (.slice e)) : (Op.equal T (.slice ad m c) (.slice none m' c')).run P w = .ok ad.isNone w := by
  unfold Op.equal Op.maxDepth
  rw [Op.equalIn]
  simp only [Sem.run_bind, run_underlying hu, Result.andThen_ok]
  cases ad <;> simp
theorem qv_eql_slnil {T T' e : Nat} {x y : Operand} {ad : Option Addr} {m c m' c' : Nat} [tu : TyU P T (.slice e)] (hx : ev F x = some (.slice ad m c)) (hy : ev F y = some (.slice none m' c')) :
    QV P n F h L ⟨dst, .binOp .eql T x y T', ty, pos, af, gd⟩ (.bool ad.isNone) := .mk fun a w f s => by
  have hg : (eqGuard .eql T x y (.slice ad m c) (.slice none m' c')).run P w = .ok () w := by simp [eqGuard]
  simp only [execOp, f.ev hx, f.ev hy, Sem.run_bind, hg, Result.andThen_ok]
  have hb : (binOp .eql T (.slice ad m c) (.slice none m' c')).run P w = .ok (.bool ad.isNone) w := by
    simp only [binOp, Sem.run_bind, run_eq_slnil tu.u, Result.andThen_ok, Sem.run_pure]
  rw [hb]; rfl
theorem qv_cap {T : Nat} {x : Operand} {ad : Option Addr} {len cap e : Nat} [tu : TyU P T (.slice e)] (hx : ev F x = some (.slice ad len cap)) :
    QV P n F h L ⟨dst, .call ⟨.builtin .cap, #[x], #[T]⟩, ty, pos, af, gd⟩ (.int .i64 cap) := .mk fun a w f s => by
  simp [execOp, resolve, invoke, builtin, Builtin.cap_, run_underlying tu.u, f.ev hx, goInt]
theorem qv_slice_to {T e k : Nat} {x y : Operand} {ad : Option Addr} {len cap : Nat} {ki : IntKind} {i : Int} [tu : TyU P T (.slice e)] [ts : TyS P e k] (hx : ev F x = some (.slice ad len cap)) (hy : ev F y = some (.int ki i)) (h0 : 0 ≤ i) (h1 : i ≤ cap) :
    QV P n F h L ⟨dst, .slice T x none (some y) none, ty, pos, af, gd⟩ (.slice ad i.toNat cap) := .mk fun a w f s => by
  simp [execOp, f.ev hx, f.ev hy, Instr.sliceAt, Instr.slice, Instr.sliceBounds, Instr.sliceBound, asIntOf, run_underlying tu.u, h0, h1, ts.s]
  intro hc
  cases ad with
  | none => rfl
  | some ad => simp [Addr.add]
theorem St.rowOf {b : Nat} {cs : Array Value} {e : TypeId} {k m cap : Nat} {w : World} (s : St K h (Res.blk b (.cells cs e (0, 0)) :: L) w) (hm : m ≤ cap) (hc : cap ≤ maxLen) (hs : cs.size = cap * k) : St K h (Res.row e k (.slice (some ⟨b, 0, none⟩) m cap) m (cs.toList.take (m * k)) :: L) w := by
  have hd : doms (Res.row e k (.slice (some ⟨b, 0, Option.none⟩) m cap) m (cs.toList.take (m * k)) :: L) = doms (Res.blk b (.cells cs e (0, 0)) :: L) := by simp [doms_cons, Res.row, Res.blk, Value.ownBlock]
  have hb : w.heap[b]? = some (.cells cs e (0, 0)) := s.hd.own _ (List.mem_cons_self ..)
  exact ⟨s.os, s.tape, s.output, s.drawn, s.size, s.keep, ⟨s.hd.view, fun r hr => by
    rcases List.mem_cons.1 hr with rfl | hr
    · refine ⟨?_, .inr ⟨b, cap, cs, rfl, Nat.zero_le _, hb, hm, hc, hs, rfl⟩⟩
      have : m * k ≤ cap * k := Nat.mul_le_mul_right _ hm
      simp; omega
    · exact s.hd.own r (List.mem_cons_of_mem _ hr)⟩, by rw [hd]; exact s.nd, fun b hb => s.src b (by rw [← hd]; exact hb), s.grow, s.new, fun b hb => s.dis b (by rw [← hd]; exact hb)⟩
theorem rx_rowOf {g : Rg} {prs : List (Nat × Oper)} {b : Nat} {cs : Array Value} {e : TypeId} (k m cap : Nat) (hm : m ≤ cap) (hc : cap ≤ maxLen) (hs : cs.size = cap * k) (hx : RX P n K g prs F h (Res.row e k (.slice (some ⟨b, 0, none⟩) m cap) m (cs.toList.take (m * k)) :: L) Q) :
    RX P n K g prs F h (Res.blk b (.cells cs e (0, 0)) :: L) Q := by
  unfold RX at *
  exact fun a w f s => hx a w f (s.rowOf hm hc hs)
theorem ma_buildSlice0 {T e sz : Nat} [tu : TyU P T (.slice e)] [ts : TyS P e sz] : MA P n F h L ⟨dst, .buildSlice T 0 #[], ty, pos, af, gd⟩ (fun b => .slice (some ⟨b, 0, none⟩) 0 0) (.cells #[] e) := .mk fun a w f s => by
  simp [execOp, Instr.buildSlice, run_underlying tu.u, ts.s, Instr.fill, newRow, newObj, Sem.run]
  have : Array.map (fun _ : Nat => (default : Value)) (Array.range 0) = #[] := by apply Array.ext'; simp
  rw [this]
theorem Sc.src {k m cap : Nat} {ad : Option Addr} {xs : List Value} (s : Sc h k (.slice ad m cap) m xs) : (xs = [] ∧ m * k = 0) ∨ ∃ b o, ad = some ⟨b, o, none⟩ ∧ Cells h L ⟨b, o, none⟩ xs := by
  have s' := s
  obtain ⟨h1, ad', cap', h2, h3, h4⟩ := s'
  cases h2
  rcases h4 with rfl | ⟨b, o, _, _, _, rfl, _⟩
  · exact .inl ⟨rfl, by simpa using h1.symm⟩
  · exact .inr ⟨b, o, rfl, s.cells⟩
theorem rx_append_sc {g : Rg} {i : Nat} {r : List (Nat × Oper)} {T e : Nat} {x y : Operand} {z v : Value} {sz by' m0 m c : Nat} {ad : Option Addr} {xs news : List Value} (k : Nat) [tu : TyU P T (.slice e)] [tb : TyB P e z sz by'] (hx : ev F x = some v) (hy : ev F y = some (.slice ad m c))
    (hk : L[k]? = some (Res.row e sz v m0 xs)) (hnews : Sc h sz (.slice ad m c) m news) (h1 : ∀ u ∈ news, u.oneCell' = true) (hzs : z.cells.size = sz) (hsz : 0 < sz) (h63 : m0 + m ≤ maxLen) (hbytes : (m0 + m) * by' ≤ 140737488355328)
    (hw : wantedF g.ops F ⟨dst, .call ⟨.builtin .append, #[x, y], #[T, T]⟩, ty, pos, af, gd⟩ = some true) (hd : okd n dst = true) (hlo : g.lo i = true) (o1 : Owe g i h L)
    (o2 : ∀ v', Owe g i h (L.set k (Res.row e sz v' (m0 + m) (xs ++ news))))
    (hn : ∀ v', (v' = .slice none 0 0 ↔ v = .slice none 0 0 ∧ m = 0) → RX P n K g r (putF dst v' F) h (L.set k (Res.row e sz v' (m0 + m) (xs ++ news))) Q) :
    RX P n K g ((i, ⟨dst, .call ⟨.builtin .append, #[x, y], #[T, T]⟩, ty, pos, af, gd⟩) :: r) F h L Q := by
  have hl : news.length = m * sz := hnews.1
  rcases hnews.src (L := L) with ⟨rfl, hm⟩ | ⟨b, o, rfl, hc⟩
  · have hm : m = 0 := by
      rcases Nat.mul_eq_zero.1 hm with h | h
      · exact h
      · omega
    subst hm
    cases ad with
    | some ad => exact rx_append k hx hy hk (fun w s j u hj => by simp at hj) (by simp) h1 hzs hsz h63 hbytes hw hd hlo o1 o2 hn
    | none =>
      have hset : L.set k (Res.row e sz v (m0 + 0) (xs ++ [])) = L := by
        have : Res.row e sz v (m0 + 0) (xs ++ []) = Res.row e sz v m0 xs := by simp
        rw [this]
        obtain ⟨hlt, he⟩ := List.getElem?_eq_some_iff.1 hk
        rw [← he]
        exact List.set_getElem_self hlt
      have hn' := hn v (by simp)
      rw [hset] at hn'
      unfold RX at *
      intro a w f s
      have hown : w.ownsRow 0 e sz v m0 xs := s.hd.own _ (List.mem_of_getElem? hk)
      obtain ⟨ii, hi, hz, hsize, hby⟩ := tb.ex
      refine .inr (.inr ⟨wantedF_ok f hw, hlo, o1.out s, ?_⟩)
      unfold Oper.wp
      have : (execOp a.eval ⟨dst, .call ⟨.builtin .append, #[x, y], #[T, T]⟩, ty, pos, af, gd⟩).run P w = .ok (.value v) w := by
        rcases hown.2 with ⟨rfl, rfl⟩ | ⟨g', cap, cur, rfl, _, _, hnc, _⟩
        · simp [execOp, resolve, invoke, builtin, f.ev hx, f.ev hy, Builtin.append_, run_underlying tu.u, sizeOf, typeInfo, hi, Builtin.lenOf, Builtin.firstCells]
        · simp [execOp, resolve, invoke, builtin, f.ev hx, f.ev hy, Builtin.append_, run_underlying tu.u, sizeOf, typeInfo, hi, Builtin.lenOf, Builtin.firstCells, hnc, storeCells]
      rw [this]
      exact ⟨o1.out s, hn' _ _ (f.put hd v) s⟩
  · exact rx_append k hx hy hk hc hl h1 hzs hsz h63 hbytes hw hd hlo o1 o2 hn
end
end Go.Ck
end

section
namespace Go.Ck
open Go
section
variable {P : Program} {n : Nat} {F : List (Nat × Value)} {h : View} {L : List Res} {dst : Option Nat} {ty : Nat} {pos : String} {af : Array Edge} {gd : Option (Nat × Bool)}
theorem qv_convert_int {S D : Nat} {x : Operand} {us : TypeDesc} {kd ks : IntKind} {i : Int} [t1 : TyU P S us] [t2 : TyU P D (.int kd)] (hx : ev F x = some (.int ks i)) :
    QV P n F h L ⟨dst, .convert S D x, ty, pos, af, gd⟩ (.int kd (kd.wrap i)) := .mk fun a w f s => by
  simp [execOp, f.ev hx, convert, run_underlying t1.u, run_underlying t2.u, Conv.intToInt]
theorem qv_convert_int' {S D : Nat} {x : Operand} {us : TypeDesc} {kd ks : IntKind} {i r : Int} [t1 : TyU P S us] [t2 : TyU P D (.int kd)] (hx : ev F x = some (.int ks i)) (hr : kd.wrap i = r) :
    QV P n F h L ⟨dst, .convert S D x, ty, pos, af, gd⟩ (.int kd r) := by subst hr; exact qv_convert_int hx
theorem qv_rem {T T' : Nat} {x y : Operand} {k : IntKind} {i j : Int} (hx : ev F x = some (.int k i)) (hy : ev F y = some (.int k j)) (hj : j ≠ 0) :
    QV P n F h L ⟨dst, .binOp .rem T x y T', ty, pos, af, gd⟩ (.int k (i.tmod j)) := .mk fun a w f s => by
  simp [execOp, f.ev hx, f.ev hy, run_guard_int, binOp, Op.intDiv, hj]
end
end Go.Ck
end

section
namespace Go.Ck
open Go
theorem wrapw {k : IntKind} {m : Nat} (hk : k.bits = m) (hs : k.signed = false) (i : Int) : k.wrap i = ((BitVec.ofInt m i).toNat : Int) := by
  subst hk
  unfold IntKind.wrap
  rw [hs]
  simp only [Bool.false_and, if_neg, BitVec.toNat_ofInt]
  have hp : (0 : Int) < 2 ^ k.bits := Int.pow_pos (by decide)
  have h : 0 ≤ i % (2 ^ k.bits : Int) := Int.emod_nonneg _ (by omega)
  simp
  omega
theorem wrapw_nat {k : IntKind} {m : Nat} (hk : k.bits = m) (hs : k.signed = false) (i : Nat) : k.wrap (i : Int) = ((BitVec.ofNat m i).toNat : Int) := by
  rw [wrapw hk hs, BitVec.ofInt_natCast]
theorem wrapw_id {k : IntKind} {m : Nat} (hk : k.bits = m) (hs : k.signed = false) (a : BitVec m) : k.wrap (a.toNat : Int) = (a.toNat : Int) := by
  rw [wrapw_nat hk hs]
  simp
theorem ofInt_toNat {m : Nat} (a : BitVec m) : BitVec.ofInt m (a.toNat : Int) = a := by
  rw [BitVec.ofInt_natCast]
  simp
section
variable {P : Program} {n : Nat} {F : List (Nat × Value)} {h : View} {L : List Res} {dst : Option Nat} {ty : Nat} {pos : String} {af : Array Edge} {gd : Option (Nat × Bool)}
variable {T T' : Nat} {x y : Operand} {k k' : IntKind} {m : Nat} {a b : BitVec m}
theorem qv_xorw (hx : ev F x = some (.int k (a.toNat : Int))) (hy : ev F y = some (.int k (b.toNat : Int))) (hk : k.bits = m) (hs : k.signed = false) : QV P n F h L ⟨dst, .binOp .xor T x y T', ty, pos, af, gd⟩ (.int k ((a ^^^ b).toNat : Int)) := .mk fun ac w f s => by
  have e := wrapw_id hk hs (a ^^^ b)
  subst hk
  simp only [execOp, f.ev hx, f.ev hy, Sem.run_bind, run_guard_int, Result.andThen_ok, binOp, Op.intBits, ofInt_toNat, e]
  simp
theorem qv_andw (hx : ev F x = some (.int k (a.toNat : Int))) (hy : ev F y = some (.int k (b.toNat : Int))) (hk : k.bits = m) (hs : k.signed = false) : QV P n F h L ⟨dst, .binOp .and T x y T', ty, pos, af, gd⟩ (.int k ((a &&& b).toNat : Int)) := .mk fun ac w f s => by
  have e := wrapw_id hk hs (a &&& b)
  subst hk
  simp only [execOp, f.ev hx, f.ev hy, Sem.run_bind, run_guard_int, Result.andThen_ok, binOp, Op.intBits, ofInt_toNat, e]
  simp
theorem qv_orw (hx : ev F x = some (.int k (a.toNat : Int))) (hy : ev F y = some (.int k (b.toNat : Int))) (hk : k.bits = m) (hs : k.signed = false) : QV P n F h L ⟨dst, .binOp .or T x y T', ty, pos, af, gd⟩ (.int k ((a ||| b).toNat : Int)) := .mk fun ac w f s => by
  have e := wrapw_id hk hs (a ||| b)
  subst hk
  simp only [execOp, f.ev hx, f.ev hy, Sem.run_bind, run_guard_int, Result.andThen_ok, binOp, Op.intBits, ofInt_toNat, e]
  simp
theorem qv_addw (hx : ev F x = some (.int k (a.toNat : Int))) (hy : ev F y = some (.int k (b.toNat : Int))) (hk : k.bits = m) (hs : k.signed = false) : QV P n F h L ⟨dst, .binOp .add T x y T', ty, pos, af, gd⟩ (.int k ((a + b).toNat : Int)) := by
  have e : k.wrap ((a.toNat : Int) + (b.toNat : Int)) = ((a + b).toNat : Int) := by
    rw [← Int.natCast_add, wrapw_nat hk hs, BitVec.ofNat_add]
    simp
  rw [← e]
  exact qv_add_w hx hy
theorem qv_mulw (hx : ev F x = some (.int k (a.toNat : Int))) (hy : ev F y = some (.int k (b.toNat : Int))) (hk : k.bits = m) (hs : k.signed = false) : QV P n F h L ⟨dst, .binOp .mul T x y T', ty, pos, af, gd⟩ (.int k ((a * b).toNat : Int)) := by
  have e : k.wrap ((a.toNat : Int) * (b.toNat : Int)) = ((a * b).toNat : Int) := by
    rw [← Int.natCast_mul, wrapw_nat hk hs, BitVec.ofNat_mul]
    simp
  rw [← e]
  exact qv_mul_w hx hy
theorem qv_notw (hx : ev F x = some (.int k (a.toNat : Int))) (hk : k.bits = m) (hs : k.signed = false) : QV P n F h L ⟨dst, .unOp .xor T x, ty, pos, af, gd⟩ (.int k ((~~~a).toNat : Int)) := .mk fun ac w f s => by
  have e := wrapw_id hk hs (~~~a)
  have hm : BitVec.ofInt m k.max = BitVec.allOnes m := by
    unfold IntKind.max
    rw [hs, hk]
    apply BitVec.eq_of_toNat_eq
    rw [BitVec.toNat_ofInt, BitVec.toNat_allOnes]
    have hp := Nat.two_pow_pos m
    simp only [Bool.false_eq_true, if_false]
    have e2 : ((2 : Int) ^ m - 1) = ((2 ^ m - 1 : Nat) : Int) := by
      rw [Int.natCast_sub (by omega)]
      simp
    rw [e2, show ((2 ^ m : Nat) : Int) = ((2 ^ m : Nat) : Int) from rfl, ← Int.natCast_emod, Int.toNat_natCast, Nat.mod_eq_of_lt (by omega)]
  subst hk
  simp only [execOp, f.ev hx, Op.unary, hs, Bool.false_eq_true, if_false, Op.intBits, hm, ofInt_toNat]
  rw [BitVec.allOnes_xor, e]
  simp
theorem qv_shlw {j : Nat} (hx : ev F x = some (.int k (a.toNat : Int))) (hy : ev F y = some (.int k' (j : Int))) (hk : k.bits = m) (hs : k.signed = false) : QV P n F h L ⟨dst, .binOp .shl T x y T', ty, pos, af, gd⟩ (.int k ((a <<< j).toNat : Int)) := by
  refine .mk fun ac w f s => ?_
  have h0 : ¬ ((j : Int) < 0) := by omega
  have hg : (eqGuard .shl T x y (.int k a.toNat) (.int k' j)).run P w = .ok () w := by simp [eqGuard]
  have e : k.wrap ((a.toNat : Int) * 2 ^ (min j m)) = ((a <<< j).toNat : Int) := by
    have e1 : (a.toNat : Int) * 2 ^ (min j m) = ((a.toNat * 2 ^ (min j m) : Nat) : Int) := by simp
    rw [e1, wrapw_nat hk hs, BitVec.toNat_ofNat, BitVec.toNat_shiftLeft, Nat.shiftLeft_eq]
    by_cases hj : j ≤ m
    · rw [Nat.min_eq_left hj]
    · rw [Nat.min_eq_right (by omega)]
      have h1 : a.toNat * 2 ^ m % 2 ^ m = 0 := Nat.mul_mod_left _ _
      have h2 : a.toNat * 2 ^ j % 2 ^ m = 0 := by
        rw [show j = m + (j - m) by omega, Nat.pow_add, Nat.mul_left_comm]
        exact Nat.mul_mod_right _ _
      rw [h1, h2]
  subst hk
  simp [execOp, f.ev hx, f.ev hy, hg, binOp, Op.shift, h0, e]
theorem qv_shrw {j : Nat} (hx : ev F x = some (.int k (a.toNat : Int))) (hy : ev F y = some (.int k' (j : Int))) (hk : k.bits = m) : QV P n F h L ⟨dst, .binOp .shr T x y T', ty, pos, af, gd⟩ (.int k ((a >>> j).toNat : Int)) := by
  refine .mk fun ac w f s => ?_
  have h0 : ¬ ((j : Int) < 0) := by omega
  have hg : (eqGuard .shr T x y (.int k a.toNat) (.int k' j)).run P w = .ok () w := by simp [eqGuard]
  have e : (a.toNat : Int).fdiv (2 ^ (min j m)) = ((a >>> j).toNat : Int) := by
    have e1 : (2 : Int) ^ (min j m) = ((2 ^ (min j m) : Nat) : Int) := by simp
    rw [e1, Int.fdiv_eq_ediv_of_nonneg _ (Int.natCast_nonneg _), ← Int.natCast_ediv, BitVec.toNat_ushiftRight, Nat.shiftRight_eq_div_pow]
    by_cases hj : j ≤ m
    · rw [Nat.min_eq_left hj]
    · rw [Nat.min_eq_right (by omega)]
      have h1 : a.toNat / 2 ^ m = 0 := Nat.div_eq_of_lt a.isLt
      have h2 : a.toNat / 2 ^ j = 0 := Nat.div_eq_of_lt (Nat.lt_of_lt_of_le a.isLt (Nat.pow_le_pow_right (by omega) (by omega)))
      rw [h1, h2]
  subst hk
  simp [execOp, f.ev hx, f.ev hy, hg, binOp, Op.shift, h0, e]
theorem qv_addr {i j r : Int} (hx : ev F x = some (.int k i)) (hy : ev F y = some (.int k j)) (hr : k.wrap (i + j) = r) : QV P n F h L ⟨dst, .binOp .add T x y T', ty, pos, af, gd⟩ (.int k r) := by subst hr; exact qv_add_w hx hy
theorem qv_subr {i j r : Int} (hx : ev F x = some (.int k i)) (hy : ev F y = some (.int k j)) (hr : k.wrap (i - j) = r) : QV P n F h L ⟨dst, .binOp .sub T x y T', ty, pos, af, gd⟩ (.int k r) := by subst hr; exact qv_sub_w hx hy
theorem qv_remr {i j r : Int} (hx : ev F x = some (.int k i)) (hy : ev F y = some (.int k j)) (hj : j ≠ 0) (hr : i.tmod j = r) : QV P n F h L ⟨dst, .binOp .rem T x y T', ty, pos, af, gd⟩ (.int k r) := by subst hr; exact qv_rem hx hy hj
theorem qv_quor {i j r : Int} (hx : ev F x = some (.int k i)) (hy : ev F y = some (.int k j)) (hj : j ≠ 0) (hr : k.wrap (i.tdiv j) = r) : QV P n F h L ⟨dst, .binOp .quo T x y T', ty, pos, af, gd⟩ (.int k r) := by
  subst hr
  exact .mk fun a w f s => by simp [execOp, f.ev hx, f.ev hy, run_guard_int, binOp, Op.intDiv, hj]
theorem qv_negr {i r : Int} (hx : ev F x = some (.int k i)) (hr : k.wrap (0 - i) = r) : QV P n F h L ⟨dst, .unOp .neg T x, ty, pos, af, gd⟩ (.int k r) := by
  subst hr
  exact .mk fun a w f s => by simp [execOp, f.ev hx, Op.unary, Op.intArith]
theorem qv_widen {S D : Nat} {us : TypeDesc} {kd : IntKind} {m' : Nat} [t1 : TyU P S us] [t2 : TyU P D (.int kd)] (hx : ev F x = some (.int k (a.toNat : Int))) (hk : kd.bits = m') (hs : kd.signed = false) (hm : m ≤ m') :
    QV P n F h L ⟨dst, .convert S D x, ty, pos, af, gd⟩ (.int kd (a.toNat : Int)) := by
  refine qv_convert_int' hx ?_
  rw [wrapw_nat hk hs, BitVec.toNat_ofNat, Nat.mod_eq_of_lt (Nat.lt_of_lt_of_le a.isLt (Nat.pow_le_pow_right (by omega) hm))]
end
end Go.Ck
end

section
namespace Go.Proofs.YtgeepceieckooaaGreatDoor
open Go Go.Ck
instance cku3 : TyU Tryz.prog 3 (Go.TypeDesc.int Go.IntKind.i64) := ⟨Tryz.underlying3⟩
instance cku4 : TyU Tryz.prog 4 (Go.TypeDesc.bool) := ⟨Tryz.underlying4⟩
instance cku5 : TyU Tryz.prog 5 (Go.TypeDesc.int Go.IntKind.u8) := ⟨Tryz.underlying5⟩
instance cku9 : TyU Tryz.prog 9 (Go.TypeDesc.string) := ⟨Tryz.underlying9⟩
instance cku22 : TyU Tryz.prog 22 (Go.TypeDesc.slice 5) := ⟨Tryz.underlying22⟩
instance ckf24_0 : TyF Tryz.prog 24 0 0 3 1 := ⟨_, _, Tryz.underlying24, rfl, rfl, rfl, Tryz.sizeOf3⟩
instance ckf24_1 : TyF Tryz.prog 24 1 1 3 1 := ⟨_, _, Tryz.underlying24, rfl, rfl, rfl, Tryz.sizeOf3⟩
instance cku33 : TyU Tryz.prog 33 (Go.TypeDesc.array 32 5) := ⟨Tryz.underlying33⟩
instance cku72 : TyU Tryz.prog 72 (Go.TypeDesc.pointer 102) := ⟨Tryz.underlying72⟩
instance cku85 : TyU Tryz.prog 85 (Go.TypeDesc.pointer 132) := ⟨Tryz.underlying85⟩
instance ckf102_0 : TyF Tryz.prog 102 0 0 22 1 := ⟨_, _, Tryz.underlying102, rfl, rfl, rfl, Tryz.sizeOf22⟩
instance ckf102_1 : TyF Tryz.prog 102 1 1 4 1 := ⟨_, _, Tryz.underlying102, rfl, rfl, rfl, Tryz.sizeOf4⟩
instance cku117 : TyU Tryz.prog 117 (Go.TypeDesc.array 12 5) := ⟨Tryz.underlying117⟩
instance ckf132_0 : TyF Tryz.prog 132 0 0 22 1 := ⟨_, _, Tryz.underlying132, rfl, rfl, rfl, Tryz.sizeOf22⟩
instance ckf132_1 : TyF Tryz.prog 132 1 1 42 1 := ⟨_, _, Tryz.underlying132, rfl, rfl, rfl, Tryz.sizeOf42⟩
instance cku136 : TyU Tryz.prog 136 (Go.TypeDesc.int Go.IntKind.u64) := ⟨Tryz.underlying136⟩
instance cku141 : TyU Tryz.prog 141 (Go.TypeDesc.int Go.IntKind.u32) := ⟨Tryz.underlying141⟩
instance cku151 : TyU Tryz.prog 151 (Go.TypeDesc.int Go.IntKind.u64) := ⟨Tryz.underlying151⟩
instance cku154 : TyU Tryz.prog 154 (Go.TypeDesc.slice 22) := ⟨Tryz.underlying154⟩
instance cku158 : TyU Tryz.prog 158 (Go.TypeDesc.array 64 5) := ⟨Tryz.underlying158⟩
instance cku164 : TyU Tryz.prog 164 (Go.TypeDesc.array 8 141) := ⟨Tryz.underlying164⟩
instance cku166 : TyU Tryz.prog 166 (Go.TypeDesc.array 16 141) := ⟨Tryz.underlying166⟩
instance cku179 : TyU Tryz.prog 179 (Go.TypeDesc.array 64 141) := ⟨Tryz.underlying179⟩
instance cka3 : TyA Tryz.prog 3 false := ⟨Tryz.isAgg3⟩
instance cka4 : TyA Tryz.prog 4 false := ⟨Tryz.isAgg4⟩
instance cka5 : TyA Tryz.prog 5 false := ⟨Tryz.isAgg5⟩
instance cka9 : TyA Tryz.prog 9 false := ⟨Tryz.isAgg9⟩
instance cka22 : TyA Tryz.prog 22 false := ⟨Tryz.isAgg22⟩
instance cka24 : TyA Tryz.prog 24 true := ⟨Tryz.isAgg24⟩
instance cka33 : TyA Tryz.prog 33 true := ⟨Tryz.isAgg33⟩
instance cka42 : TyA Tryz.prog 42 false := ⟨Tryz.isAgg42⟩
instance cka88 : TyA Tryz.prog 88 false := ⟨Tryz.isAgg88⟩
instance cka117 : TyA Tryz.prog 117 true := ⟨Tryz.isAgg117⟩
instance cka136 : TyA Tryz.prog 136 false := ⟨Tryz.isAgg136⟩
instance cka141 : TyA Tryz.prog 141 false := ⟨Tryz.isAgg141⟩
instance cka158 : TyA Tryz.prog 158 true := ⟨Tryz.isAgg158⟩
instance cka164 : TyA Tryz.prog 164 true := ⟨Tryz.isAgg164⟩
instance cka166 : TyA Tryz.prog 166 true := ⟨Tryz.isAgg166⟩
instance cka179 : TyA Tryz.prog 179 true := ⟨Tryz.isAgg179⟩
instance cks3 : TyS Tryz.prog 3 1 := ⟨Tryz.sizeOf3⟩
instance cks4 : TyS Tryz.prog 4 1 := ⟨Tryz.sizeOf4⟩
instance cks5 : TyS Tryz.prog 5 1 := ⟨Tryz.sizeOf5⟩
instance cks9 : TyS Tryz.prog 9 1 := ⟨Tryz.sizeOf9⟩
instance cks22 : TyS Tryz.prog 22 1 := ⟨Tryz.sizeOf22⟩
instance cks24 : TyS Tryz.prog 24 2 := ⟨Tryz.sizeOf24⟩
instance cks33 : TyS Tryz.prog 33 32 := ⟨Tryz.sizeOf33⟩
instance cks42 : TyS Tryz.prog 42 1 := ⟨Tryz.sizeOf42⟩
instance cks88 : TyS Tryz.prog 88 1 := ⟨Tryz.sizeOf88⟩
instance cks117 : TyS Tryz.prog 117 12 := ⟨Tryz.sizeOf117⟩
instance cks136 : TyS Tryz.prog 136 1 := ⟨Tryz.sizeOf136⟩
instance cks141 : TyS Tryz.prog 141 1 := ⟨Tryz.sizeOf141⟩
instance cks158 : TyS Tryz.prog 158 64 := ⟨Tryz.sizeOf158⟩
instance cks164 : TyS Tryz.prog 164 8 := ⟨Tryz.sizeOf164⟩
instance cks166 : TyS Tryz.prog 166 16 := ⟨Tryz.sizeOf166⟩
instance cks179 : TyS Tryz.prog 179 64 := ⟨Tryz.sizeOf179⟩
instance ckz3 : TyZ Tryz.prog 3 (Go.Value.int Go.IntKind.i64 0) := ⟨Tryz.zeroValue3⟩
instance ckz4 : TyZ Tryz.prog 4 (Go.Value.bool false) := ⟨Tryz.zeroValue4⟩
instance ckz5 : TyZ Tryz.prog 5 (Go.Value.int Go.IntKind.u8 0) := ⟨Tryz.zeroValue5⟩
instance ckz9 : TyZ Tryz.prog 9 (Go.Value.string { data := #[] }) := ⟨Tryz.zeroValue9⟩
instance ckz22 : TyZ Tryz.prog 22 (Go.Value.slice none 0 0) := ⟨Tryz.zeroValue22⟩
instance ckz24 : TyZ Tryz.prog 24 (Go.Value.agg #[Go.Value.int Go.IntKind.i64 0, Go.Value.int Go.IntKind.i64 0]) := ⟨Tryz.zeroValue24⟩
instance ckz33 : TyZ Tryz.prog 33 (Go.Value.agg #[Go.Value.int Go.IntKind.u8 0, Go.Value.int Go.IntKind.u8 0, Go.Value.int Go.IntKind.u8 0, Go.Value.int Go.IntKind.u8 0, Go.Value.int Go.IntKind.u8 0, Go.Value.int Go.IntKind.u8 0, Go.Value.int Go.IntKind.u8 0, Go.Value.int Go.IntKind.u8 0, Go.Value.int Go.IntKind.u8 0, Go.Value.int Go.IntKind.u8 0, Go.Value.int Go.IntKind.u8 0, Go.Value.int Go.IntKind.u8 0, Go.Value.int Go.IntKind.u8 0, Go.Value.int Go.IntKind.u8 0, Go.Value.int Go.IntKind.u8 0, Go.Value.int Go.IntKind.u8 0, Go.Value.int Go.IntKind.u8 0, Go.Value.int Go.IntKind.u8 0, Go.Value.int Go.IntKind.u8 0, Go.Value.int Go.IntKind.u8 0, Go.Value.int Go.IntKind.u8 0, Go.Value.int Go.IntKind.u8 0, Go.Value.int Go.IntKind.u8 0, Go.Value.int Go.IntKind.u8 0, Go.Value.int Go.IntKind.u8 0, Go.Value.int Go.IntKind.u8 0, Go.Value.int Go.IntKind.u8 0, Go.Value.int Go.IntKind.u8 0, Go.Value.int Go.IntKind.u8 0, Go.Value.int Go.IntKind.u8 0, Go.Value.int Go.IntKind.u8 0, Go.Value.int Go.IntKind.u8 0]) := ⟨Tryz.zeroValue33⟩
instance ckz88 : TyZ Tryz.prog 88 (Go.Value.pointer none) := ⟨Tryz.zeroValue88⟩
instance ckz102 : TyZ Tryz.prog 102 (Go.Value.agg #[Go.Value.slice none 0 0, Go.Value.bool false]) := ⟨Tryz.zeroValue102⟩
instance ckz117 : TyZ Tryz.prog 117 (Go.Value.agg #[Go.Value.int Go.IntKind.u8 0, Go.Value.int Go.IntKind.u8 0, Go.Value.int Go.IntKind.u8 0, Go.Value.int Go.IntKind.u8 0, Go.Value.int Go.IntKind.u8 0, Go.Value.int Go.IntKind.u8 0, Go.Value.int Go.IntKind.u8 0, Go.Value.int Go.IntKind.u8 0, Go.Value.int Go.IntKind.u8 0, Go.Value.int Go.IntKind.u8 0, Go.Value.int Go.IntKind.u8 0, Go.Value.int Go.IntKind.u8 0]) := ⟨Tryz.zeroValue117⟩
instance ckz132 : TyZ Tryz.prog 132 (Go.Value.agg #[Go.Value.slice none 0 0, Go.Value.int Go.IntKind.i64 0]) := ⟨Tryz.zeroValue132⟩
instance ckz158 : TyZ Tryz.prog 158 (Go.Value.agg #[Go.Value.int Go.IntKind.u8 0, Go.Value.int Go.IntKind.u8 0, Go.Value.int Go.IntKind.u8 0, Go.Value.int Go.IntKind.u8 0, Go.Value.int Go.IntKind.u8 0, Go.Value.int Go.IntKind.u8 0, Go.Value.int Go.IntKind.u8 0, Go.Value.int Go.IntKind.u8 0, Go.Value.int Go.IntKind.u8 0, Go.Value.int Go.IntKind.u8 0, Go.Value.int Go.IntKind.u8 0, Go.Value.int Go.IntKind.u8 0, Go.Value.int Go.IntKind.u8 0, Go.Value.int Go.IntKind.u8 0, Go.Value.int Go.IntKind.u8 0, Go.Value.int Go.IntKind.u8 0, Go.Value.int Go.IntKind.u8 0, Go.Value.int Go.IntKind.u8 0, Go.Value.int Go.IntKind.u8 0, Go.Value.int Go.IntKind.u8 0, Go.Value.int Go.IntKind.u8 0, Go.Value.int Go.IntKind.u8 0, Go.Value.int Go.IntKind.u8 0, Go.Value.int Go.IntKind.u8 0, Go.Value.int Go.IntKind.u8 0, Go.Value.int Go.IntKind.u8 0, Go.Value.int Go.IntKind.u8 0, Go.Value.int Go.IntKind.u8 0, Go.Value.int Go.IntKind.u8 0, Go.Value.int Go.IntKind.u8 0, Go.Value.int Go.IntKind.u8 0, Go.Value.int Go.IntKind.u8 0, Go.Value.int Go.IntKind.u8 0, Go.Value.int Go.IntKind.u8 0, Go.Value.int Go.IntKind.u8 0, Go.Value.int Go.IntKind.u8 0, Go.Value.int Go.IntKind.u8 0, Go.Value.int Go.IntKind.u8 0, Go.Value.int Go.IntKind.u8 0, Go.Value.int Go.IntKind.u8 0, Go.Value.int Go.IntKind.u8 0, Go.Value.int Go.IntKind.u8 0, Go.Value.int Go.IntKind.u8 0, Go.Value.int Go.IntKind.u8 0, Go.Value.int Go.IntKind.u8 0, Go.Value.int Go.IntKind.u8 0, Go.Value.int Go.IntKind.u8 0, Go.Value.int Go.IntKind.u8 0, Go.Value.int Go.IntKind.u8 0, Go.Value.int Go.IntKind.u8 0, Go.Value.int Go.IntKind.u8 0, Go.Value.int Go.IntKind.u8 0, Go.Value.int Go.IntKind.u8 0, Go.Value.int Go.IntKind.u8 0, Go.Value.int Go.IntKind.u8 0, Go.Value.int Go.IntKind.u8 0, Go.Value.int Go.IntKind.u8 0, Go.Value.int Go.IntKind.u8 0, Go.Value.int Go.IntKind.u8 0, Go.Value.int Go.IntKind.u8 0, Go.Value.int Go.IntKind.u8 0, Go.Value.int Go.IntKind.u8 0, Go.Value.int Go.IntKind.u8 0, Go.Value.int Go.IntKind.u8 0]) := ⟨Tryz.zeroValue158⟩
instance ckz164 : TyZ Tryz.prog 164 (Go.Value.agg #[Go.Value.int Go.IntKind.u32 0, Go.Value.int Go.IntKind.u32 0, Go.Value.int Go.IntKind.u32 0, Go.Value.int Go.IntKind.u32 0, Go.Value.int Go.IntKind.u32 0, Go.Value.int Go.IntKind.u32 0, Go.Value.int Go.IntKind.u32 0, Go.Value.int Go.IntKind.u32 0]) := ⟨Tryz.zeroValue164⟩
instance ckz166 : TyZ Tryz.prog 166 (Go.Value.agg #[Go.Value.int Go.IntKind.u32 0, Go.Value.int Go.IntKind.u32 0, Go.Value.int Go.IntKind.u32 0, Go.Value.int Go.IntKind.u32 0, Go.Value.int Go.IntKind.u32 0, Go.Value.int Go.IntKind.u32 0, Go.Value.int Go.IntKind.u32 0, Go.Value.int Go.IntKind.u32 0, Go.Value.int Go.IntKind.u32 0, Go.Value.int Go.IntKind.u32 0, Go.Value.int Go.IntKind.u32 0, Go.Value.int Go.IntKind.u32 0, Go.Value.int Go.IntKind.u32 0, Go.Value.int Go.IntKind.u32 0, Go.Value.int Go.IntKind.u32 0, Go.Value.int Go.IntKind.u32 0]) := ⟨Tryz.zeroValue166⟩
instance ckz179 : TyZ Tryz.prog 179 (Go.Value.agg #[Go.Value.int Go.IntKind.u32 0, Go.Value.int Go.IntKind.u32 0, Go.Value.int Go.IntKind.u32 0, Go.Value.int Go.IntKind.u32 0, Go.Value.int Go.IntKind.u32 0, Go.Value.int Go.IntKind.u32 0, Go.Value.int Go.IntKind.u32 0, Go.Value.int Go.IntKind.u32 0, Go.Value.int Go.IntKind.u32 0, Go.Value.int Go.IntKind.u32 0, Go.Value.int Go.IntKind.u32 0, Go.Value.int Go.IntKind.u32 0, Go.Value.int Go.IntKind.u32 0, Go.Value.int Go.IntKind.u32 0, Go.Value.int Go.IntKind.u32 0, Go.Value.int Go.IntKind.u32 0, Go.Value.int Go.IntKind.u32 0, Go.Value.int Go.IntKind.u32 0, Go.Value.int Go.IntKind.u32 0, Go.Value.int Go.IntKind.u32 0, Go.Value.int Go.IntKind.u32 0, Go.Value.int Go.IntKind.u32 0, Go.Value.int Go.IntKind.u32 0, Go.Value.int Go.IntKind.u32 0, Go.Value.int Go.IntKind.u32 0, Go.Value.int Go.IntKind.u32 0, Go.Value.int Go.IntKind.u32 0, Go.Value.int Go.IntKind.u32 0, Go.Value.int Go.IntKind.u32 0, Go.Value.int Go.IntKind.u32 0, Go.Value.int Go.IntKind.u32 0, Go.Value.int Go.IntKind.u32 0, Go.Value.int Go.IntKind.u32 0, Go.Value.int Go.IntKind.u32 0, Go.Value.int Go.IntKind.u32 0, Go.Value.int Go.IntKind.u32 0, Go.Value.int Go.IntKind.u32 0, Go.Value.int Go.IntKind.u32 0, Go.Value.int Go.IntKind.u32 0, Go.Value.int Go.IntKind.u32 0, Go.Value.int Go.IntKind.u32 0, Go.Value.int Go.IntKind.u32 0, Go.Value.int Go.IntKind.u32 0, Go.Value.int Go.IntKind.u32 0, Go.Value.int Go.IntKind.u32 0, Go.Value.int Go.IntKind.u32 0, Go.Value.int Go.IntKind.u32 0, Go.Value.int Go.IntKind.u32 0, Go.Value.int Go.IntKind.u32 0, Go.Value.int Go.IntKind.u32 0, Go.Value.int Go.IntKind.u32 0, Go.Value.int Go.IntKind.u32 0, Go.Value.int Go.IntKind.u32 0, Go.Value.int Go.IntKind.u32 0, Go.Value.int Go.IntKind.u32 0, Go.Value.int Go.IntKind.u32 0, Go.Value.int Go.IntKind.u32 0, Go.Value.int Go.IntKind.u32 0, Go.Value.int Go.IntKind.u32 0, Go.Value.int Go.IntKind.u32 0, Go.Value.int Go.IntKind.u32 0, Go.Value.int Go.IntKind.u32 0, Go.Value.int Go.IntKind.u32 0, Go.Value.int Go.IntKind.u32 0]) := ⟨Tryz.zeroValue179⟩
instance ckb5 : TyB Tryz.prog 5 (Go.Value.int Go.IntKind.u8 0) 1 1 := ⟨by kernel_rfl⟩
instance ckb9 : TyB Tryz.prog 9 (Go.Value.string { data := #[] }) 1 16 := ⟨by kernel_rfl⟩
instance ckb22 : TyB Tryz.prog 22 (Go.Value.slice none 0 0) 1 24 := ⟨by kernel_rfl⟩
instance ckb141 : TyB Tryz.prog 141 (Go.Value.int Go.IntKind.u32 0) 1 4 := ⟨by kernel_rfl⟩
instance ckp24 : TyP Tryz.prog 24 [(0, 1), (1, 1)] := ⟨_, Tryz.underlying24, fun w => by simp [Tryz.sizeOf3]⟩
instance ckp102 : TyP Tryz.prog 102 [(0, 1), (1, 1)] := ⟨_, Tryz.underlying102, fun w => by simp [Tryz.sizeOf4, Tryz.sizeOf22]⟩
instance ckp132 : TyP Tryz.prog 132 [(0, 1), (1, 1)] := ⟨_, Tryz.underlying132, fun w => by simp [Tryz.sizeOf22, Tryz.sizeOf42]⟩
end Go.Proofs.YtgeepceieckooaaGreatDoor
end

section
namespace Go.Proofs.YtgeepceieckooaaGreatDoor
open Go Go.Ck
instance ckf26_0 : TyF Tryz.prog 26 0 0 22 1 := ⟨_, _, Tryz.underlying26, rfl, rfl, rfl, Tryz.sizeOf22⟩
instance ckf26_1 : TyF Tryz.prog 26 1 1 3 1 := ⟨_, _, Tryz.underlying26, rfl, rfl, rfl, Tryz.sizeOf3⟩
instance ckf26_2 : TyF Tryz.prog 26 2 2 3 1 := ⟨_, _, Tryz.underlying26, rfl, rfl, rfl, Tryz.sizeOf3⟩
instance ckf26_3 : TyF Tryz.prog 26 3 3 24 2 := ⟨_, _, Tryz.underlying26, rfl, rfl, rfl, Tryz.sizeOf24⟩
instance ckf26_4 : TyF Tryz.prog 26 4 5 22 1 := ⟨_, _, Tryz.underlying26, rfl, rfl, rfl, Tryz.sizeOf22⟩
instance ckf26_5 : TyF Tryz.prog 26 5 6 22 1 := ⟨_, _, Tryz.underlying26, rfl, rfl, rfl, Tryz.sizeOf22⟩
instance ckf26_6 : TyF Tryz.prog 26 6 7 4 1 := ⟨_, _, Tryz.underlying26, rfl, rfl, rfl, Tryz.sizeOf4⟩
instance ckf28_0 : TyF Tryz.prog 28 0 0 9 1 := ⟨_, _, Tryz.underlying28, rfl, rfl, rfl, Tryz.sizeOf9⟩
instance ckf28_1 : TyF Tryz.prog 28 1 1 3 1 := ⟨_, _, Tryz.underlying28, rfl, rfl, rfl, Tryz.sizeOf3⟩
instance ckf28_2 : TyF Tryz.prog 28 2 2 3 1 := ⟨_, _, Tryz.underlying28, rfl, rfl, rfl, Tryz.sizeOf3⟩
instance ckf28_3 : TyF Tryz.prog 28 3 3 24 2 := ⟨_, _, Tryz.underlying28, rfl, rfl, rfl, Tryz.sizeOf24⟩
instance ckf28_4 : TyF Tryz.prog 28 4 5 9 1 := ⟨_, _, Tryz.underlying28, rfl, rfl, rfl, Tryz.sizeOf9⟩
instance ckf28_5 : TyF Tryz.prog 28 5 6 9 1 := ⟨_, _, Tryz.underlying28, rfl, rfl, rfl, Tryz.sizeOf9⟩
instance cku29 : TyU Tryz.prog 29 (Go.TypeDesc.pointer 107) := ⟨Tryz.underlying29⟩
instance ckf36_0 : TyF Tryz.prog 36 0 0 3 1 := ⟨_, _, Tryz.underlying36, rfl, rfl, rfl, Tryz.sizeOf3⟩
instance ckf36_1 : TyF Tryz.prog 36 1 1 3 1 := ⟨_, _, Tryz.underlying36, rfl, rfl, rfl, Tryz.sizeOf3⟩
instance ckf36_2 : TyF Tryz.prog 36 2 2 24 2 := ⟨_, _, Tryz.underlying36, rfl, rfl, rfl, Tryz.sizeOf24⟩
instance ckf36_3 : TyF Tryz.prog 36 3 4 22 1 := ⟨_, _, Tryz.underlying36, rfl, rfl, rfl, Tryz.sizeOf22⟩
instance cku39 : TyU Tryz.prog 39 (Go.TypeDesc.array 32 5) := ⟨Tryz.underlying39⟩
instance ckf41_0 : TyF Tryz.prog 41 0 0 39 32 := ⟨_, _, Tryz.underlying41, rfl, rfl, rfl, Tryz.sizeOf39⟩
instance ckf41_1 : TyF Tryz.prog 41 1 32 36 5 := ⟨_, _, Tryz.underlying41, rfl, rfl, rfl, Tryz.sizeOf36⟩
instance ckf41_2 : TyF Tryz.prog 41 2 37 22 1 := ⟨_, _, Tryz.underlying41, rfl, rfl, rfl, Tryz.sizeOf22⟩
instance cku64 : TyU Tryz.prog 64 (Go.TypeDesc.slice 9) := ⟨Tryz.underlying64⟩
instance cku65 : TyU Tryz.prog 65 (Go.TypeDesc.slice 124) := ⟨Tryz.underlying65⟩
instance ckf67_0 : TyF Tryz.prog 67 0 0 4 1 := ⟨_, _, Tryz.underlying67, rfl, rfl, rfl, Tryz.sizeOf4⟩
instance ckf67_1 : TyF Tryz.prog 67 1 1 9 1 := ⟨_, _, Tryz.underlying67, rfl, rfl, rfl, Tryz.sizeOf9⟩
instance ckf67_2 : TyF Tryz.prog 67 2 2 64 1 := ⟨_, _, Tryz.underlying67, rfl, rfl, rfl, Tryz.sizeOf64⟩
instance ckf67_3 : TyF Tryz.prog 67 3 3 65 1 := ⟨_, _, Tryz.underlying67, rfl, rfl, rfl, Tryz.sizeOf65⟩
instance cku103 : TyU Tryz.prog 103 (Go.TypeDesc.map 9 3) := ⟨Tryz.underlying103⟩
instance cku104 : TyU Tryz.prog 104 (Go.TypeDesc.map 114 4) := ⟨Tryz.underlying104⟩
instance cku105 : TyU Tryz.prog 105 (Go.TypeDesc.map 116 22) := ⟨Tryz.underlying105⟩
instance ckf107_0 : TyF Tryz.prog 107 0 0 4 1 := ⟨_, _, Tryz.underlying107, rfl, rfl, rfl, Tryz.sizeOf4⟩
instance ckf107_1 : TyF Tryz.prog 107 1 1 33 32 := ⟨_, _, Tryz.underlying107, rfl, rfl, rfl, Tryz.sizeOf33⟩
instance ckf107_2 : TyF Tryz.prog 107 2 33 103 1 := ⟨_, _, Tryz.underlying107, rfl, rfl, rfl, Tryz.sizeOf103⟩
instance ckf107_3 : TyF Tryz.prog 107 3 34 104 1 := ⟨_, _, Tryz.underlying107, rfl, rfl, rfl, Tryz.sizeOf104⟩
instance ckf107_4 : TyF Tryz.prog 107 4 35 105 1 := ⟨_, _, Tryz.underlying107, rfl, rfl, rfl, Tryz.sizeOf105⟩
instance ckf124_1 : TyF Tryz.prog 124 1 1 3 1 := ⟨_, _, Tryz.underlying124, rfl, rfl, rfl, Tryz.sizeOf3⟩
instance ckf124_2 : TyF Tryz.prog 124 2 2 3 1 := ⟨_, _, Tryz.underlying124, rfl, rfl, rfl, Tryz.sizeOf3⟩
instance cku146 : TyU Tryz.prog 146 (Go.TypeDesc.array 16 5) := ⟨Tryz.underlying146⟩
instance cku167 : TyU Tryz.prog 167 (Go.TypeDesc.array 16 141) := ⟨Tryz.underlying167⟩
instance cku172 : TyU Tryz.prog 172 (Go.TypeDesc.array 5 136) := ⟨Tryz.underlying172⟩
instance cku184 : TyU Tryz.prog 184 (Go.TypeDesc.array 34 3) := ⟨Tryz.underlying184⟩
instance cku188 : TyU Tryz.prog 188 (Go.TypeDesc.slice 141) := ⟨Tryz.underlying188⟩
instance cku196 : TyU Tryz.prog 196 (Go.TypeDesc.array 17 5) := ⟨Tryz.underlying196⟩
instance cku202 : TyU Tryz.prog 202 (Go.TypeDesc.array 2 3) := ⟨Tryz.underlying202⟩
instance cku203 : TyU Tryz.prog 203 (Go.TypeDesc.array 2 202) := ⟨Tryz.underlying203⟩
instance cka26 : TyA Tryz.prog 26 true := ⟨Tryz.isAgg26⟩
instance cka28 : TyA Tryz.prog 28 true := ⟨Tryz.isAgg28⟩
instance cka36 : TyA Tryz.prog 36 true := ⟨Tryz.isAgg36⟩
instance cka39 : TyA Tryz.prog 39 true := ⟨Tryz.isAgg39⟩
instance cka41 : TyA Tryz.prog 41 true := ⟨Tryz.isAgg41⟩
instance cka64 : TyA Tryz.prog 64 false := ⟨Tryz.isAgg64⟩
instance cka65 : TyA Tryz.prog 65 false := ⟨Tryz.isAgg65⟩
instance cka103 : TyA Tryz.prog 103 false := ⟨Tryz.isAgg103⟩
instance cka104 : TyA Tryz.prog 104 false := ⟨Tryz.isAgg104⟩
instance cka105 : TyA Tryz.prog 105 false := ⟨Tryz.isAgg105⟩
instance cka114 : TyA Tryz.prog 114 true := ⟨Tryz.isAgg114⟩
instance cka146 : TyA Tryz.prog 146 true := ⟨Tryz.isAgg146⟩
instance cka167 : TyA Tryz.prog 167 true := ⟨Tryz.isAgg167⟩
instance cka172 : TyA Tryz.prog 172 true := ⟨Tryz.isAgg172⟩
instance cka184 : TyA Tryz.prog 184 true := ⟨Tryz.isAgg184⟩
instance cka202 : TyA Tryz.prog 202 true := ⟨Tryz.isAgg202⟩
instance cks26 : TyS Tryz.prog 26 8 := ⟨Tryz.sizeOf26⟩
instance cks28 : TyS Tryz.prog 28 7 := ⟨Tryz.sizeOf28⟩
instance cks36 : TyS Tryz.prog 36 5 := ⟨Tryz.sizeOf36⟩
instance cks39 : TyS Tryz.prog 39 32 := ⟨Tryz.sizeOf39⟩
instance cks41 : TyS Tryz.prog 41 38 := ⟨Tryz.sizeOf41⟩
instance cks64 : TyS Tryz.prog 64 1 := ⟨Tryz.sizeOf64⟩
instance cks65 : TyS Tryz.prog 65 1 := ⟨Tryz.sizeOf65⟩
instance cks114 : TyS Tryz.prog 114 2 := ⟨Tryz.sizeOf114⟩
instance cks124 : TyS Tryz.prog 124 6 := ⟨Tryz.sizeOf124⟩
instance cks146 : TyS Tryz.prog 146 16 := ⟨Tryz.sizeOf146⟩
instance cks167 : TyS Tryz.prog 167 16 := ⟨Tryz.sizeOf167⟩
instance cks172 : TyS Tryz.prog 172 5 := ⟨Tryz.sizeOf172⟩
instance cks184 : TyS Tryz.prog 184 34 := ⟨Tryz.sizeOf184⟩
instance cks202 : TyS Tryz.prog 202 2 := ⟨Tryz.sizeOf202⟩
instance ckz28 : TyZ Tryz.prog 28 (Go.Value.agg #[Go.Value.string { data := #[] }, Go.Value.int Go.IntKind.i64 0, Go.Value.int Go.IntKind.i64 0, Go.Value.int Go.IntKind.i64 0, Go.Value.int Go.IntKind.i64 0, Go.Value.string { data := #[] }, Go.Value.string { data := #[] }]) := ⟨Tryz.zeroValue28⟩
instance ckz36 : TyZ Tryz.prog 36 (Go.Value.agg #[Go.Value.int Go.IntKind.i64 0, Go.Value.int Go.IntKind.i64 0, Go.Value.int Go.IntKind.i64 0, Go.Value.int Go.IntKind.i64 0, Go.Value.slice none 0 0]) := ⟨Tryz.zeroValue36⟩
instance ckz39 : TyZ Tryz.prog 39 (Go.Value.agg #[Go.Value.int Go.IntKind.u8 0, Go.Value.int Go.IntKind.u8 0, Go.Value.int Go.IntKind.u8 0, Go.Value.int Go.IntKind.u8 0, Go.Value.int Go.IntKind.u8 0, Go.Value.int Go.IntKind.u8 0, Go.Value.int Go.IntKind.u8 0, Go.Value.int Go.IntKind.u8 0, Go.Value.int Go.IntKind.u8 0, Go.Value.int Go.IntKind.u8 0, Go.Value.int Go.IntKind.u8 0, Go.Value.int Go.IntKind.u8 0, Go.Value.int Go.IntKind.u8 0, Go.Value.int Go.IntKind.u8 0, Go.Value.int Go.IntKind.u8 0, Go.Value.int Go.IntKind.u8 0, Go.Value.int Go.IntKind.u8 0, Go.Value.int Go.IntKind.u8 0, Go.Value.int Go.IntKind.u8 0, Go.Value.int Go.IntKind.u8 0, Go.Value.int Go.IntKind.u8 0, Go.Value.int Go.IntKind.u8 0, Go.Value.int Go.IntKind.u8 0, Go.Value.int Go.IntKind.u8 0, Go.Value.int Go.IntKind.u8 0, Go.Value.int Go.IntKind.u8 0, Go.Value.int Go.IntKind.u8 0, Go.Value.int Go.IntKind.u8 0, Go.Value.int Go.IntKind.u8 0, Go.Value.int Go.IntKind.u8 0, Go.Value.int Go.IntKind.u8 0, Go.Value.int Go.IntKind.u8 0]) := ⟨Tryz.zeroValue39⟩
instance ckz41 : TyZ Tryz.prog 41 (Go.Value.agg #[Go.Value.int Go.IntKind.u8 0, Go.Value.int Go.IntKind.u8 0, Go.Value.int Go.IntKind.u8 0, Go.Value.int Go.IntKind.u8 0, Go.Value.int Go.IntKind.u8 0, Go.Value.int Go.IntKind.u8 0, Go.Value.int Go.IntKind.u8 0, Go.Value.int Go.IntKind.u8 0, Go.Value.int Go.IntKind.u8 0, Go.Value.int Go.IntKind.u8 0, Go.Value.int Go.IntKind.u8 0, Go.Value.int Go.IntKind.u8 0, Go.Value.int Go.IntKind.u8 0, Go.Value.int Go.IntKind.u8 0, Go.Value.int Go.IntKind.u8 0, Go.Value.int Go.IntKind.u8 0, Go.Value.int Go.IntKind.u8 0, Go.Value.int Go.IntKind.u8 0, Go.Value.int Go.IntKind.u8 0, Go.Value.int Go.IntKind.u8 0, Go.Value.int Go.IntKind.u8 0, Go.Value.int Go.IntKind.u8 0, Go.Value.int Go.IntKind.u8 0, Go.Value.int Go.IntKind.u8 0, Go.Value.int Go.IntKind.u8 0, Go.Value.int Go.IntKind.u8 0, Go.Value.int Go.IntKind.u8 0, Go.Value.int Go.IntKind.u8 0, Go.Value.int Go.IntKind.u8 0, Go.Value.int Go.IntKind.u8 0, Go.Value.int Go.IntKind.u8 0, Go.Value.int Go.IntKind.u8 0, Go.Value.int Go.IntKind.i64 0, Go.Value.int Go.IntKind.i64 0, Go.Value.int Go.IntKind.i64 0, Go.Value.int Go.IntKind.i64 0, Go.Value.slice none 0 0, Go.Value.slice none 0 0]) := ⟨Tryz.zeroValue41⟩
instance ckz67 : TyZ Tryz.prog 67 (Go.Value.agg #[Go.Value.bool false, Go.Value.string { data := #[] }, Go.Value.slice none 0 0, Go.Value.slice none 0 0]) := ⟨Tryz.zeroValue67⟩
instance ckz107 : TyZ Tryz.prog 107 (Go.Value.agg #[Go.Value.bool false, Go.Value.int Go.IntKind.u8 0, Go.Value.int Go.IntKind.u8 0, Go.Value.int Go.IntKind.u8 0, Go.Value.int Go.IntKind.u8 0, Go.Value.int Go.IntKind.u8 0, Go.Value.int Go.IntKind.u8 0, Go.Value.int Go.IntKind.u8 0, Go.Value.int Go.IntKind.u8 0, Go.Value.int Go.IntKind.u8 0, Go.Value.int Go.IntKind.u8 0, Go.Value.int Go.IntKind.u8 0, Go.Value.int Go.IntKind.u8 0, Go.Value.int Go.IntKind.u8 0, Go.Value.int Go.IntKind.u8 0, Go.Value.int Go.IntKind.u8 0, Go.Value.int Go.IntKind.u8 0, Go.Value.int Go.IntKind.u8 0, Go.Value.int Go.IntKind.u8 0, Go.Value.int Go.IntKind.u8 0, Go.Value.int Go.IntKind.u8 0, Go.Value.int Go.IntKind.u8 0, Go.Value.int Go.IntKind.u8 0, Go.Value.int Go.IntKind.u8 0, Go.Value.int Go.IntKind.u8 0, Go.Value.int Go.IntKind.u8 0, Go.Value.int Go.IntKind.u8 0, Go.Value.int Go.IntKind.u8 0, Go.Value.int Go.IntKind.u8 0, Go.Value.int Go.IntKind.u8 0, Go.Value.int Go.IntKind.u8 0, Go.Value.int Go.IntKind.u8 0, Go.Value.int Go.IntKind.u8 0, Go.Value.map none, Go.Value.map none, Go.Value.map none]) := ⟨Tryz.zeroValue107⟩
instance ckz114 : TyZ Tryz.prog 114 (Go.Value.agg #[Go.Value.int Go.IntKind.i64 0, Go.Value.int Go.IntKind.i64 0]) := ⟨Tryz.zeroValue114⟩
instance ckz116 : TyZ Tryz.prog 116 (Go.Value.agg #[Go.Value.int Go.IntKind.i64 0, Go.Value.int Go.IntKind.i64 0, Go.Value.int Go.IntKind.i64 0, Go.Value.string { data := #[] }, Go.Value.string { data := #[] }]) := ⟨Tryz.zeroValue116⟩
instance ckz124 : TyZ Tryz.prog 124 (Go.Value.agg #[Go.Value.int Go.IntKind.i64 0, Go.Value.int Go.IntKind.i64 0, Go.Value.int Go.IntKind.i64 0, Go.Value.string { data := #[] }, Go.Value.string { data := #[] }, Go.Value.string { data := #[] }]) := ⟨Tryz.zeroValue124⟩
instance ckz146 : TyZ Tryz.prog 146 (Go.Value.agg #[Go.Value.int Go.IntKind.u8 0, Go.Value.int Go.IntKind.u8 0, Go.Value.int Go.IntKind.u8 0, Go.Value.int Go.IntKind.u8 0, Go.Value.int Go.IntKind.u8 0, Go.Value.int Go.IntKind.u8 0, Go.Value.int Go.IntKind.u8 0, Go.Value.int Go.IntKind.u8 0, Go.Value.int Go.IntKind.u8 0, Go.Value.int Go.IntKind.u8 0, Go.Value.int Go.IntKind.u8 0, Go.Value.int Go.IntKind.u8 0, Go.Value.int Go.IntKind.u8 0, Go.Value.int Go.IntKind.u8 0, Go.Value.int Go.IntKind.u8 0, Go.Value.int Go.IntKind.u8 0]) := ⟨Tryz.zeroValue146⟩
instance ckz167 : TyZ Tryz.prog 167 (Go.Value.agg #[Go.Value.int Go.IntKind.u32 0, Go.Value.int Go.IntKind.u32 0, Go.Value.int Go.IntKind.u32 0, Go.Value.int Go.IntKind.u32 0, Go.Value.int Go.IntKind.u32 0, Go.Value.int Go.IntKind.u32 0, Go.Value.int Go.IntKind.u32 0, Go.Value.int Go.IntKind.u32 0, Go.Value.int Go.IntKind.u32 0, Go.Value.int Go.IntKind.u32 0, Go.Value.int Go.IntKind.u32 0, Go.Value.int Go.IntKind.u32 0, Go.Value.int Go.IntKind.u32 0, Go.Value.int Go.IntKind.u32 0, Go.Value.int Go.IntKind.u32 0, Go.Value.int Go.IntKind.u32 0]) := ⟨Tryz.zeroValue167⟩
instance ckz172 : TyZ Tryz.prog 172 (Go.Value.agg #[Go.Value.int Go.IntKind.u64 0, Go.Value.int Go.IntKind.u64 0, Go.Value.int Go.IntKind.u64 0, Go.Value.int Go.IntKind.u64 0, Go.Value.int Go.IntKind.u64 0]) := ⟨Tryz.zeroValue172⟩
instance ckz184 : TyZ Tryz.prog 184 (Go.Value.agg #[Go.Value.int Go.IntKind.i64 0, Go.Value.int Go.IntKind.i64 0, Go.Value.int Go.IntKind.i64 0, Go.Value.int Go.IntKind.i64 0, Go.Value.int Go.IntKind.i64 0, Go.Value.int Go.IntKind.i64 0, Go.Value.int Go.IntKind.i64 0, Go.Value.int Go.IntKind.i64 0, Go.Value.int Go.IntKind.i64 0, Go.Value.int Go.IntKind.i64 0, Go.Value.int Go.IntKind.i64 0, Go.Value.int Go.IntKind.i64 0, Go.Value.int Go.IntKind.i64 0, Go.Value.int Go.IntKind.i64 0, Go.Value.int Go.IntKind.i64 0, Go.Value.int Go.IntKind.i64 0, Go.Value.int Go.IntKind.i64 0, Go.Value.int Go.IntKind.i64 0, Go.Value.int Go.IntKind.i64 0, Go.Value.int Go.IntKind.i64 0, Go.Value.int Go.IntKind.i64 0, Go.Value.int Go.IntKind.i64 0, Go.Value.int Go.IntKind.i64 0, Go.Value.int Go.IntKind.i64 0, Go.Value.int Go.IntKind.i64 0, Go.Value.int Go.IntKind.i64 0, Go.Value.int Go.IntKind.i64 0, Go.Value.int Go.IntKind.i64 0, Go.Value.int Go.IntKind.i64 0, Go.Value.int Go.IntKind.i64 0, Go.Value.int Go.IntKind.i64 0, Go.Value.int Go.IntKind.i64 0, Go.Value.int Go.IntKind.i64 0, Go.Value.int Go.IntKind.i64 0]) := ⟨Tryz.zeroValue184⟩
instance ckz196 : TyZ Tryz.prog 196 (Go.Value.agg #[Go.Value.int Go.IntKind.u8 0, Go.Value.int Go.IntKind.u8 0, Go.Value.int Go.IntKind.u8 0, Go.Value.int Go.IntKind.u8 0, Go.Value.int Go.IntKind.u8 0, Go.Value.int Go.IntKind.u8 0, Go.Value.int Go.IntKind.u8 0, Go.Value.int Go.IntKind.u8 0, Go.Value.int Go.IntKind.u8 0, Go.Value.int Go.IntKind.u8 0, Go.Value.int Go.IntKind.u8 0, Go.Value.int Go.IntKind.u8 0, Go.Value.int Go.IntKind.u8 0, Go.Value.int Go.IntKind.u8 0, Go.Value.int Go.IntKind.u8 0, Go.Value.int Go.IntKind.u8 0, Go.Value.int Go.IntKind.u8 0]) := ⟨Tryz.zeroValue196⟩
instance ckz202 : TyZ Tryz.prog 202 (Go.Value.agg #[Go.Value.int Go.IntKind.i64 0, Go.Value.int Go.IntKind.i64 0]) := ⟨Tryz.zeroValue202⟩
instance ckz203 : TyZ Tryz.prog 203 (Go.Value.agg #[Go.Value.int Go.IntKind.i64 0, Go.Value.int Go.IntKind.i64 0, Go.Value.int Go.IntKind.i64 0, Go.Value.int Go.IntKind.i64 0]) := ⟨Tryz.zeroValue203⟩
instance ckb124 : TyB Tryz.prog 124 (Go.Value.agg #[Go.Value.int Go.IntKind.i64 0, Go.Value.int Go.IntKind.i64 0, Go.Value.int Go.IntKind.i64 0, Go.Value.string { data := #[] }, Go.Value.string { data := #[] }, Go.Value.string { data := #[] }]) 6 72 := ⟨by kernel_rfl⟩
instance ckp28 : TyP Tryz.prog 28 [(0, 1), (1, 1), (2, 1), (3, 2), (5, 1), (6, 1)] := ⟨_, Tryz.underlying28, fun w => by simp [Tryz.sizeOf3, Tryz.sizeOf9, Tryz.sizeOf24]⟩
instance ckp36 : TyP Tryz.prog 36 [(0, 1), (1, 1), (2, 2), (4, 1)] := ⟨_, Tryz.underlying36, fun w => by simp [Tryz.sizeOf3, Tryz.sizeOf22, Tryz.sizeOf24]⟩
instance ckp41 : TyP Tryz.prog 41 [(0, 32), (32, 5), (37, 1)] := ⟨_, Tryz.underlying41, fun w => by simp [Tryz.sizeOf22, Tryz.sizeOf36, Tryz.sizeOf39]⟩
instance ckp67 : TyP Tryz.prog 67 [(0, 1), (1, 1), (2, 1), (3, 1)] := ⟨_, Tryz.underlying67, fun w => by simp [Tryz.sizeOf4, Tryz.sizeOf9, Tryz.sizeOf64, Tryz.sizeOf65]⟩
instance ckp107 : TyP Tryz.prog 107 [(0, 1), (1, 32), (33, 1), (34, 1), (35, 1)] := ⟨_, Tryz.underlying107, fun w => by simp [Tryz.sizeOf4, Tryz.sizeOf33, Tryz.sizeOf103, Tryz.sizeOf104, Tryz.sizeOf105]⟩
instance ckp114 : TyP Tryz.prog 114 [(0, 1), (1, 1)] := ⟨_, Tryz.underlying114, fun w => by simp [Tryz.sizeOf3]⟩
instance ckp116 : TyP Tryz.prog 116 [(0, 2), (2, 1), (3, 1), (4, 1)] := ⟨_, Tryz.underlying116, fun w => by simp [Tryz.sizeOf3, Tryz.sizeOf9, Tryz.sizeOf114]⟩
instance ckp124 : TyP Tryz.prog 124 [(0, 1), (1, 1), (2, 1), (3, 1), (4, 1), (5, 1)] := ⟨_, Tryz.underlying124, fun w => by simp [Tryz.sizeOf3, Tryz.sizeOf9]⟩
instance ckg28 : TyG Tryz.prog 28 := ⟨Tryz.eqGuardType28⟩
instance ckg39 : TyG Tryz.prog 39 := ⟨Tryz.eqGuardType39⟩
end Go.Proofs.YtgeepceieckooaaGreatDoor
end
