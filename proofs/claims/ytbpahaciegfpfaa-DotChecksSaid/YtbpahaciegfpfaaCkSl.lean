/-
  CkSl: slices that are read, literals of structs and slices, function values, in the small logic.
  Conditions: none; each law states its own.
-/
import Derived.Test.YtbpahaciegfpfaaCkMem
namespace Go.Ck
open Go
set_option linter.unusedVariables false
set_option linter.unusedSimpArgs false
section
variable {P : Program} {n : Nat} {K : Bs} {F : List (Nat × Value)} {h : View} {L : List Res} {Q : Exit → Act → World → Prop}
variable {dst : Option Nat} {ty : Nat} {pos : String} {af : Array Edge} {gd : Option (Nat × Bool)}

/-- a slice of m elements of k cells each, whose cells are xs -/
def Sc (h : View) (k : Nat) (v : Value) (m : Nat) (xs : List Value) : Prop :=
  xs.length = m * k ∧ ∃ ad cap, v = .slice ad m cap ∧ m ≤ cap ∧ (xs = [] ∨ ∃ b o cs e fz, ad = some ⟨b, o, none⟩ ∧ h b = some (.cells cs e fz) ∧ ∀ j u, xs[j]? = some u → cs[o + j]? = some u)
theorem Sc.mono {h h' : View} {k m : Nat} {v : Value} {xs : List Value} (s : Sc h k v m xs) (hl : Le h h') : Sc h' k v m xs := by
  obtain ⟨h1, ad, cap, h2, h3, h4⟩ := s
  refine ⟨h1, ad, cap, h2, h3, h4.imp id ?_⟩
  rintro ⟨b, o, cs, e, fz, q1, q2, q3⟩
  exact ⟨b, o, cs, e, fz, q1, hl _ _ q2, q3⟩
theorem Sc.nil (h : View) (k : Nat) (ad : Option Addr) (cap : Nat) : Sc h k (.slice ad 0 cap) 0 [] := ⟨by simp, ad, cap, rfl, Nat.zero_le _, .inl rfl⟩

theorem cell_at {b o : Nat} {v : Value} (hx : ∀ w, Hd h L w → w.cell? ⟨b, o, none⟩ = some v) : CellAt h L b o v := by unfold CellAt; exact hx
theorem cell_at_out {b o : Nat} {v : Value} (hx : CellAt h L b o v) : ∀ w, Hd h L w → w.cell? ⟨b, o, none⟩ = some v := by unfold CellAt at hx; exact hx
theorem Cells.cell {b o : Nat} {vs : List Value} (c : Cells h L ⟨b, o, none⟩ vs) {j : Nat} {u : Value} (hj : vs[j]? = some u) : CellAt h L b (o + j) u := cell_at fun w s => by
  have := c w s j u hj
  rwa [Addr.add_off] at this
theorem Cells.cell0 {b o : Nat} {u : Value} {vs : List Value} (c : Cells h L ⟨b, o, none⟩ (u :: vs)) : CellAt h L b o u := c.cell (j := 0) rfl
theorem Cells.drop {b o : Nat} {vs : List Value} (c : Cells h L ⟨b, o, none⟩ vs) (j : Nat) : Cells h L ⟨b, o + j, none⟩ (vs.drop j) := fun w s i u hi => by
  rw [List.getElem?_drop] at hi
  have := c w s (j + i) u hi
  rw [Addr.add_off] at this ⊢
  rwa [Nat.add_assoc]
theorem Cells.take {ad : Addr} {vs : List Value} (c : Cells h L ad vs) (j : Nat) : Cells h L ad (vs.take j) := fun w s i u hi => by
  rw [List.getElem?_take] at hi
  split at hi
  · exact c w s i u hi
  · cases hi

theorem Sc.cells {k m cap b o : Nat} {xs : List Value} (s : Sc h k (.slice (some ⟨b, o, none⟩) m cap) m xs) : Cells h L ⟨b, o, none⟩ xs := fun w hd j u hj => by
  obtain ⟨h1, ad, cap', h2, h3, h4⟩ := s
  cases h2
  rcases h4 with rfl | ⟨b', o', cs, e, fz, q1, q2, q3⟩
  · simp at hj
  · cases q1
    have := hd.view _ _ q2
    rw [Addr.add_off]
    simp [World.cell?, this, q3 j u hj]
/-- the address, where there is an element -/
theorem Sc.ad {k m cap : Nat} {ad : Option Addr} {xs : List Value} (s : Sc h k (.slice ad m cap) m xs) (hm : 0 < m) (hk : 0 < k) : ∃ b o, ad = some ⟨b, o, none⟩ := by
  obtain ⟨h1, ad', cap', h2, h3, h4⟩ := s
  cases h2
  rcases h4 with rfl | ⟨b, o, _, _, _, q1, _⟩
  · simp only [List.length_nil] at h1
    rcases Nat.mul_eq_zero.1 h1.symm with h | h <;> omega
  · exact ⟨b, o, q1⟩

theorem run_loadFrom_cells {ad : Addr} {vs : List Value} {w : World} : ∀ (k i : Nat) (acc : Array Value), i + k = vs.length → (∀ j u, vs[j]? = some u → w.cell? (ad.add j) = some u) → (loadCellsFrom ad i k acc).run P w = .ok (acc ++ (vs.drop i).toArray) w
  | 0, i, acc, hk, hc => by
    have : vs.drop i = [] := List.drop_eq_nil_of_le (by omega)
    simp [loadCellsFrom, this]
  | k + 1, i, acc, hk, hc => by
    have hlt : i < vs.length := by omega
    have hl : (load (ad.add i)).run P w = .ok vs[i] w := by simp [load, Sem.run, hc i vs[i] (by simp [hlt])]
    simp only [loadCellsFrom, Sem.run_bind, hl, Result.andThen_ok]
    rw [run_loadFrom_cells k (i + 1) _ (by omega) hc]
    rw [List.drop_eq_getElem_cons hlt]
    simp
theorem run_loadCells_cells {ad : Addr} {vs : List Value} {w : World} (hc : ∀ j u, vs[j]? = some u → w.cell? (ad.add j) = some u) : (loadCells ad vs.length).run P w = .ok vs.toArray w := by
  have := run_loadFrom_cells (P := P) (w := w) vs.length 0 #[] (by simp) hc
  simpa [loadCells] using this

theorem yad {T : Nat} {x : Operand} {ad : Addr} {k : Nat} {vs : List Value} [ta : TyA P T true] [ts : TyS P T k] (hx : ev F x = some (.pointer (some ad))) (hc : Cells h L ad vs) (hk : vs.length = k) :
    QV P n F h L ⟨dst, .load T x, ty, pos, af, gd⟩ (.agg vs.toArray) := .mk fun a w f s => by
  subst hk
  simp [execOp, f.ev hx, Instr.loadAt, Instr.sureAddr, loadVar, ta.a, ts.s, run_loadCells_cells (P := P) (hc w s)]
theorem rv_cells {T s k : Nat} {ad : Addr} {vs : List Value} [ta : TyA P T true] [ts : TyS P T k] (hx : lk F s = some (.pointer (some ad))) (hc : Cells h L ad vs) (hk : vs.length = k) :
    RV P F h L (.cell s T) (.agg vs.toArray) := ⟨ad, hx, fun w hd => by subst hk; simp [loadVar, ta.a, ts.s, run_loadCells_cells (P := P) (hc w hd)]⟩

/-! elements whose cells are a function of the datum -/
theorem flat_len {α : Type} {enc : α → List Value} {k : Nat} (hk : ∀ x, (enc x).length = k) (l : List α) : (l.flatMap enc).length = l.length * k := by
  induction l with
  | nil => simp
  | cons x l ih => simp [hk, ih, Nat.add_mul, Nat.add_comm]
theorem flat_at {α : Type} {enc : α → List Value} {k : Nat} (hk : ∀ x, (enc x).length = k) : ∀ (l : List α) (i : Nat) (hi : i < l.length), ((l.flatMap enc).drop (i * k)).take k = enc l[i]
  | x :: l, 0, _ => by simp [hk]
  | x :: l, i + 1, hi => by
    have h1 : (i + 1) * k = (enc x).length + i * k := by rw [hk, Nat.add_mul]; omega
    simp only [List.flatMap_cons, h1, List.drop_append, List.getElem_cons_succ]
    have h2 : List.drop ((enc x).length + i * k) (enc x) = [] := List.drop_eq_nil_of_le (by omega)
    rw [h2, List.nil_append, Nat.add_sub_cancel_left]
    exact flat_at hk l i (by simpa using hi)
theorem Sc.elem {α : Type} {enc : α → List Value} {k cap b o : Nat} {l : List α} (hk : ∀ x, (enc x).length = k) (s : Sc h k (.slice (some ⟨b, o, none⟩) l.length cap) l.length (l.flatMap enc)) (i : Nat) (hi : i < l.length) : Cells h L ⟨b, o + i * k, none⟩ (enc l[i]) := by
  have := ((s.cells (L := L)).drop (i * k)).take k
  rwa [flat_at hk l i hi] at this

/-- a row of the call's own is read -/
theorem row_cells {e : TypeId} {sz m cap g : Nat} {xs : List Value} (k : Nat) (hk : L[k]? = some (Res.row e sz (.slice (some ⟨g, 0, none⟩) m cap) m xs)) : Cells h L ⟨g, 0, none⟩ xs := fun w s j u hj => by
  have ho : w.ownsRow 0 e sz (.slice (some ⟨g, 0, none⟩) m cap) m xs := s.own _ (List.mem_of_getElem? hk)
  exact ho.cells (g := g) rfl j u hj
theorem cx_rowform {c : Code} {e : TypeId} {sz m : Nat} {v : Value} {xs : List Value} (k : Nat) (hk : L[k]? = some (Res.row e sz v m xs)) (h1 : v = .slice Option.none 0 0 → m = 0 → xs = [] → CX P n K c F h L Q) (h2 : ∀ g cap, v = .slice (some ⟨g, 0, Option.none⟩) m cap → CX P n K c F h L Q) : CX P n K c F h L Q := by
  unfold CX at *
  intro a w f s
  have ho : w.ownsRow 0 e sz v m xs := s.hd.own _ (List.mem_of_getElem? hk)
  rcases ho.2 with ⟨q1, q2⟩ | ⟨g, cap, cur, q1, _⟩
  · exact h1 q1 q2 (List.eq_nil_of_length_eq_zero (by rw [ho.1, q2]; simp)) a w f s
  · exact h2 g cap q1 a w f s
theorem rx_rowform {g : Rg} {prs : List (Nat × Oper)} {e : TypeId} {sz m : Nat} {v : Value} {xs : List Value} (k : Nat) (hk : L[k]? = some (Res.row e sz v m xs)) (h1 : v = .slice Option.none 0 0 → m = 0 → xs = [] → RX P n K g prs F h L Q) (h2 : ∀ g' cap, v = .slice (some ⟨g', 0, Option.none⟩) m cap → RX P n K g prs F h L Q) : RX P n K g prs F h L Q := by
  unfold RX at *
  intro a w f s
  have ho : w.ownsRow 0 e sz v m xs := s.hd.own _ (List.mem_of_getElem? hk)
  rcases ho.2 with ⟨q1, q2⟩ | ⟨g, cap, cur, q1, _⟩
  · exact h1 q1 q2 (List.eq_nil_of_length_eq_zero (by rw [ho.1, q2]; simp)) a w f s
  · exact h2 g cap q1 a w f s

/-- a row becomes one that stays as it is -/
theorem St.rowPersist {e : TypeId} {k m : Nat} {v : Value} {xs : List Value} {w : World} (s : St K h (Res.row e k v m xs :: L) w) (hA : K.A = []) : ∃ h', Le h h' ∧ Sc h' k v m xs ∧ St K h' L w := by
  have ho : w.ownsRow 0 e k v m xs := s.hd.own _ (List.mem_cons_self ..)
  rcases ho.2 with ⟨rfl, rfl⟩ | ⟨g, cap, cur, rfl, _, hg, hn, _, hcs, htake⟩
  · have : xs = [] := List.eq_nil_of_length_eq_zero (by rw [ho.1]; simp)
    subst this
    exact ⟨h, Le.refl h, Sc.nil h k Option.none 0, s.tl⟩
  · have hd : doms (Res.row e k (.slice (some ⟨g, 0, Option.none⟩) m cap) m xs :: L) = doms (Res.blk g (.cells cur e (0, 0)) :: L) := by simp [doms_cons, Res.row, Res.blk, Value.ownBlock]
    have s2 : St K h (Res.blk g (.cells cur e (0, 0)) :: L) w := ⟨s.os, s.tape, s.output, s.drawn, s.size, s.keep, ⟨s.hd.view, fun r hr => by
      rcases List.mem_cons.1 hr with rfl | hr
      · exact hg
      · exact s.hd.own r (List.mem_cons_of_mem _ hr)⟩, by rw [← hd]; exact s.nd, fun b hb => s.src b (by rw [hd]; exact hb), s.grow, s.new, fun b hb => s.dis b (by rw [hd]; exact hb)⟩
    refine ⟨addV h g (.cells cur e (0, 0)), Le.addV (s2.dis g (by rw [doms_cons]; exact List.mem_append_left _ (List.mem_singleton.2 rfl))), ⟨ho.1, some ⟨g, 0, Option.none⟩, cap, rfl, hn, .inr ⟨g, 0, cur, e, (0, 0), rfl, addV_same, fun j u hj => ?_⟩⟩, s2.persist hA⟩
    rw [← htake, List.getElem?_take] at hj
    split at hj
    · simpa using hj
    · cases hj
theorem cx_persist {c : Code} {e : TypeId} {sz m : Nat} {v : Value} {xs : List Value} (hA : K.A = []) (hx : ∀ h', Le h h' → Sc h' sz v m xs → CX P n K c F h' L Q) : CX P n K c F h (Res.row e sz v m xs :: L) Q := by
  unfold CX at *
  intro a w f s
  obtain ⟨h', h1, h2, h3⟩ := s.rowPersist hA
  exact hx h' h1 h2 a w f h3
theorem rx_persist {g : Rg} {prs : List (Nat × Oper)} {e : TypeId} {sz m : Nat} {v : Value} {xs : List Value} (hA : K.A = []) (hx : ∀ h', Le h h' → Sc h' sz v m xs → RX P n K g prs F h' L Q) : RX P n K g prs F h (Res.row e sz v m xs :: L) Q := by
  unfold RX at *
  intro a w f s
  obtain ⟨h', h1, h2, h3⟩ := s.rowPersist hA
  exact hx h' h1 h2 a w f h3

/-! literals -/
def partsF (F : List (Nat × Value)) : List (Nat × Operand) → Option (List (Nat × Value))
  | [] => some []
  | (i, x) :: r => match ev F x, partsF F r with
    | some v, some vs => some ((i, v) :: vs)
    | _, _ => none
theorem partsF_ok {a : Act} (f : Fr n F a) : ∀ (l : List (Nat × Operand)) (ps : List (Nat × Value)), partsF F l = some ps → l.map (fun (p : Nat × Operand) => (p.1, a.eval p.2)) = ps
  | [], ps, hp => by simp [partsF] at hp; subst hp; rfl
  | (i, x) :: r, ps, hp => by
    simp only [partsF] at hp
    split at hp
    · rename_i v vs h1 h2
      cases hp
      simp [f.ev h1, partsF_ok f r vs h2]
    · cases hp

/-- the places of a struct's fields -/
class TyP (P : Program) (T : Nat) (pl : outParam (List (Nat × Nat))) : Prop where
  p : ∃ fs : Array Field, P.underlying T = some (.struct fs) ∧ ∀ w, (fs.mapM fun f => do pure (f.offset, ← sizeOf f.type) : Sem (Array (Nat × Nat))).run P w = .ok pl.toArray w
theorem yax {T : Nat} {parts : Array (Nat × Operand)} {pl : List (Nat × Nat)} {z : Value} {ps : List (Nat × Value)} {cs : List Value} [tp : TyP P T pl] [tz : TyZ P T z] (hp : partsF F parts.toList = some ps) (hc : fillL (fun i : Nat => pl[i]?) z.cells.toList ps = some cs) :
    QV P n F h L ⟨dst, .build T parts, ty, pos, af, gd⟩ (.agg cs.toArray) := .mk fun a w f s => by
  obtain ⟨fs, h1, h2⟩ := tp.p
  have h3 := partsF_ok f _ _ hp
  have h4 : (parts.map (fun (p : Nat × Operand) => (p.1, a.eval p.2))).toList = ps := by rw [Array.toList_map]; exact h3
  have h5 : Instr.fill (fun i : Nat => pl.toArray[i]?) z.cells ps = some cs.toArray := by
    rw [fill_eq]
    have : (fun i : Nat => pl.toArray[i]?) = (fun i : Nat => pl[i]?) := by funext i; simp
    rw [this, hc]; rfl
  simp only [execOp, Sem.run_bind, Instr.build, tz.z, Result.andThen_ok, run_underlying h1, h2, h4, h5]
  rfl
theorem qv_build_arr {T e len sz : Nat} {parts : Array (Nat × Operand)} {z : Value} {ps : List (Nat × Value)} {cs : List Value} [tu : TyU P T (.array len e)] [ts : TyS P e sz] [tz : TyZ P T z] (hp : partsF F parts.toList = some ps) (hc : fillL (fun i => some (i * sz, sz)) z.cells.toList ps = some cs) :
    QV P n F h L ⟨dst, .build T parts, ty, pos, af, gd⟩ (.agg cs.toArray) := .mk fun a w f s => by
  have h3 := partsF_ok f _ _ hp
  have h4 : (parts.map (fun (p : Nat × Operand) => (p.1, a.eval p.2))).toList = ps := by rw [Array.toList_map]; exact h3
  have h5 : Instr.fill (fun i => some (i * sz, sz)) z.cells ps = some cs.toArray := by rw [fill_eq, hc]; rfl
  simp only [execOp, Sem.run_bind, Instr.build, tz.z, Result.andThen_ok, run_underlying tu.u, ts.s, h4, h5]
  rfl
def zerosL (z : List Value) (m : Nat) : List Value := (List.range m).map fun j => z[j % z.length]!
theorem ybd {T e sz len : Nat} {parts : Array (Nat × Operand)} {z : Value} {ps : List (Nat × Value)} {cs : List Value} [tu : TyU P T (.slice e)] [ts : TyS P e sz] [tz : TyZ P e z] (hlen : Nat.ble (len * sz) 16777216 = true) (hpos : Nat.beq (len * sz) 0 = false)
    (hp : partsF F parts.toList = some ps) (hc : fillL (fun i => some (i * sz, sz)) (zerosL z.cells.toList (len * sz)) ps = some cs) :
    MA P n F h L ⟨dst, .buildSlice T len parts, ty, pos, af, gd⟩ (fun b => .slice (some ⟨b, 0, none⟩) len len) (.cells cs.toArray e) := .mk fun a w f s => by
  have hlen : ¬ (len * sz > 2 ^ 24) := by have := Nat.le_of_ble_eq_true hlen; omega
  have hpos : ¬ (len * sz = 0) := fun e => by rw [e] at hpos; simp at hpos
  have h3 := partsF_ok f _ _ hp
  have h4 : (parts.map (fun (p : Nat × Operand) => (p.1, a.eval p.2))).toList = ps := by rw [Array.toList_map]; exact h3
  have h5 : Instr.fill (fun i => some (i * sz, sz)) ((Array.range (len * sz)).map (fun j => z.cells[j % z.cells.size]!)) ps = some cs.toArray := by
    rw [fill_eq]
    have : ((Array.range (len * sz)).map (fun j => z.cells[j % z.cells.size]!)).toList = zerosL z.cells.toList (len * sz) := by
      simp only [Array.toList_map, Array.toList_range, zerosL, Array.length_toList]
      refine List.map_congr_left fun j _ => ?_
      simp [getElem!_def]
    rw [this, hc]; rfl
  simp only [execOp, Sem.run_bind, Instr.buildSlice, run_underlying tu.u, Result.andThen_ok, ts.s, hlen, if_false, hpos, tz.z, h4, Sem.run_pure, h5, newRow, newObj, Sem.run]
  rfl
theorem zerosL_len (z : List Value) (m : Nat) : (zerosL z m).length = m := by simp [zerosL]
/-- one element -/
theorem ybe {sz : Nat} {z : List Value} {v : Value} (hz : z.length = sz) (hv : v.cells.size = sz) : fillL (fun i => some (i * sz, sz)) z [(0, v)] = some v.cells.toList := by
  simp only [fillL, hv, Nat.zero_mul, Nat.zero_add, hz]
  rw [if_neg (by simp)]
  congr 1
  exact ybh (by simp [hv, hz])

theorem yau {fn : Fn} {first captured : Array Operand} {a1 a2 : List Value} (h1 : evs F first.toList = some a1) (h2 : evs F captured.toList = some a2) : QV P n F h L ⟨dst, .makeFunc fn first captured, ty, pos, af, gd⟩ (.func fn a1.toArray a2.toArray) := .mk fun a w f s => by
  have key : ∀ (xs : Array Operand) (vs : List Value), evs F xs.toList = some vs → xs.map a.eval = vs.toArray := by
    intro xs vs hv
    apply Array.ext'
    rw [Array.toList_map]
    exact evs_ok f _ _ hv
  simp [execOp, Instr.makeFunc, key _ _ h1, key _ _ h2]
end
end Go.Ck
