/-
  CkOps: the laws of single operations in the small logic.
  Conditions: none; each law states its own.
-/
import Derived.Test.YtbpahaciegfpfaaCkBase
import Derived.WalkKit
namespace Go.Ck
open Go
set_option linter.unusedVariables false
set_option linter.unusedSimpArgs false

/-! ### facts on types, found by their numbers -/
class TyU (P : Program) (T : Nat) (d : outParam TypeDesc) : Prop where
  u : P.underlying T = some d
class TyA (P : Program) (T : Nat) (b : outParam Bool) : Prop where
  a : ∀ w, (isAgg T).run P w = .ok b w
class TyS (P : Program) (T : Nat) (k : outParam Nat) : Prop where
  s : ∀ w, (sizeOf T).run P w = .ok k w
class TyZ (P : Program) (T : Nat) (z : outParam Value) : Prop where
  z : ∀ w, (zeroValue T).run P w = .ok z w
/-- field i of the struct type T: its offset, its type and its size -/
class TyF (P : Program) (T i : Nat) (off ft k : outParam Nat) : Prop where
  f : ∃ fs fl, P.underlying T = some (.struct fs) ∧ fs[i]? = some fl ∧ fl.offset = off ∧ fl.type = ft ∧ ∀ w, (sizeOf fl.type).run P w = .ok k w
class TyB (P : Program) (T : Nat) (z : outParam Value) (size bytes : outParam Nat) : Prop where
  b : (P.info? T).map (fun i => (i.zero, i.size, i.bytes)) = some (some z, size, bytes)
theorem TyB.ex {P : Program} {T : Nat} {z : Value} {size bytes : Nat} (t : TyB P T z size bytes) : ∃ i, P.info? T = some i ∧ i.zero = some z ∧ i.size = size ∧ i.bytes = bytes := by
  have := t.b
  cases hi : P.info? T with
  | none => rw [hi] at this; cases this
  | some i =>
    rw [hi] at this
    simp only [Option.map_some, Option.some.injEq, Prod.mk.injEq] at this
    exact ⟨i, rfl, this.1, this.2.1, this.2.2⟩

section
variable {P : Program} {n : Nat} {F : List (Nat × Value)} {h : View} {L : List Res}
variable {dst : Option Nat} {ty : Nat} {pos : String} {af : Array Edge} {gd : Option (Nat × Bool)}

/-- the cell at a place -/
def lget : List Value → Nat → Option Value
  | [], _ => none
  | x :: _, 0 => some x
  | _ :: r, k + 1 => lget r k
theorem lget_eq : ∀ (l : List Value) (k : Nat), lget l k = l[k]?
  | [], k => by simp [lget]
  | x :: l, 0 => by simp [lget]
  | x :: l, k + 1 => by simp [lget, lget_eq l k]
/-- a cell of memory, in every world that the facts fit -/
def CellAt (h : View) (L : List Res) (b o : Nat) (v : Value) : Prop := ∀ w, Hd h L w → w.cell? ⟨b, o, none⟩ = some v
def BlkAt (h : View) (L : List Res) (b : Nat) (ob : Obj) : Prop := ∀ w, Hd h L w → w.heap[b]? = some ob
theorem blk_own {k : Nat} {b : Nat} {ob : Obj} (hk : L[k]? = some (Res.blk b ob)) : BlkAt h L b ob := fun w s => s.own _ (List.mem_of_getElem? hk)
theorem blk_view {b : Nat} {ob : Obj} (hb : h b = some ob) : BlkAt h L b ob := fun w s => s.view b ob hb
theorem cell_blk {b o : Nat} {cs : Array Value} {e : TypeId} {fz : Nat × Nat} {v : Value} (hb : BlkAt h L b (.cells cs e fz)) (hv : cs[o]? = some v) : CellAt h L b o v := fun w s => by
  simp [World.cell?, hb w s, hv]
theorem yay {b o : Nat} {cs : Array Value} {e : TypeId} {fz : Nat × Nat} {v : Value} (k : Nat) (hk : L[k]? = some (Res.blk b (.cells cs e fz))) (hv : lget cs.toList o = some v) : CellAt h L b o v := cell_blk (blk_own hk) (by rw [lget_eq] at hv; simpa using hv)
theorem cell_view {b o : Nat} {cs : Array Value} {e : TypeId} {fz : Nat × Nat} {v : Value} (hb : h b = some (.cells cs e fz)) (hv : lget cs.toList o = some v) : CellAt h L b o v := cell_blk (blk_view hb) (by rw [lget_eq] at hv; simpa using hv)

theorem yaa {x : Operand} {v : Value} (hx : ev F x = some v) : QV P n F h L ⟨dst, .move x, ty, pos, af, gd⟩ v := .mk fun a w f s => by
  simp [execOp, f.ev hx]
theorem yab {x : Operand} {v : Value} (hx : ev F x = some v) : QV P n F h L ⟨dst, .assign x, ty, pos, af, gd⟩ v := .mk fun a w f s => by
  simp [execOp, f.ev hx]
theorem yaf {c x y : Operand} {v : Value} (hc : ev F c = some (.bool true)) (hx : ev F x = some v) : QV P n F h L ⟨dst, .pick c x y, ty, pos, af, gd⟩ v := .mk fun a w f s => by
  simp [execOp, f.ev hc, f.ev hx, asBool]
theorem yag {c x y : Operand} {v : Value} (hc : ev F c = some (.bool false)) (hy : ev F y = some v) : QV P n F h L ⟨dst, .pick c x y, ty, pos, af, gd⟩ v := .mk fun a w f s => by
  simp [execOp, f.ev hc, f.ev hy, asBool]
theorem yae {T : Nat} {x : Operand} {b o : Nat} {v : Value} [ta : TyA P T false] (hx : ev F x = some (.pointer (some ⟨b, o, none⟩))) (hc : CellAt h L b o v) : QV P n F h L ⟨dst, .load T x, ty, pos, af, gd⟩ v := .mk fun a w f s => by
  simp [execOp, f.ev hx, Instr.loadAt, Instr.sureAddr, loadVar, ta.a, load, Sem.run, hc w s]

theorem run_loadFrom {P : Program} {b o : Nat} {cs : Array Value} {e : TypeId} {fz : Nat × Nat} : ∀ (k i : Nat) (acc : Array Value) (w : World), w.heap[b]? = some (.cells cs e fz) → o + i + k ≤ cs.size →
    (loadCellsFrom ⟨b, o, none⟩ i k acc).run P w = .ok (acc ++ cs.extract (o + i) (o + i + k)) w
  | 0, i, acc, w, hb, hk => by simp [loadCellsFrom]; omega
  | k + 1, i, acc, w, hb, hk => by
    have hlt : o + i < cs.size := by omega
    have hc : w.cell? ((⟨b, o, none⟩ : Addr).add i) = some cs[o + i] := by
      unfold Addr.add
      split
      · rename_i h0; subst h0
        simp [World.cell?, hb] at *
      · simp [World.cell?, hb, hlt]
    simp only [loadCellsFrom, Sem.run_bind]
    have hl : (load ((⟨b, o, none⟩ : Addr).add i)).run P w = .ok cs[o + i] w := by simp [load, Sem.run, hc]
    rw [hl]
    simp only [Result.andThen_ok]
    rw [run_loadFrom k (i + 1) _ w hb (by omega)]
    congr 1
    apply Array.ext'
    simp only [Array.toList_append, Array.toList_push, List.append_assoc, Array.toList_extract, List.cons_append, List.nil_append, List.append_cancel_left_eq, List.extract_eq_take_drop]
    have h1 : o + i + (k + 1) - (o + i) = k + 1 := by omega
    have h2 : o + (i + 1) + k - (o + (i + 1)) = k := by omega
    rw [h1, h2, ← Nat.add_assoc, List.drop_eq_getElem_cons (i := o + i) (by simpa using hlt)]
    simp
theorem run_loadCells {P : Program} {b o k : Nat} {cs : Array Value} {e : TypeId} {fz : Nat × Nat} {w : World} (hb : w.heap[b]? = some (.cells cs e fz)) (hk : o + k ≤ cs.size) :
    (loadCells ⟨b, o, none⟩ k).run P w = .ok (cs.extract o (o + k)) w := by
  have := run_loadFrom (P := P) k 0 #[] w hb (by simpa using hk)
  simpa [loadCells] using this

theorem qv_load_agg {T : Nat} {x : Operand} {b o k : Nat} {cs vs : Array Value} {e : TypeId} {fz : Nat × Nat} [ta : TyA P T true] [ts : TyS P T k] (hx : ev F x = some (.pointer (some ⟨b, o, none⟩)))
    (hb : BlkAt h L b (.cells cs e fz)) (hk : o + k ≤ cs.size) (hv : cs.extract o (o + k) = vs) : QV P n F h L ⟨dst, .load T x, ty, pos, af, gd⟩ (.agg vs) := .mk fun a w f s => by
  simp [execOp, f.ev hx, Instr.loadAt, Instr.sureAddr, loadVar, ta.a, ts.s, run_loadCells (hb w s) hk, hv]

theorem run_loadVar1 {T b o : Nat} {v : Value} {w : World} [ta : TyA P T false] (hc : CellAt h L b o v) (s : Hd h L w) : (loadVar T ⟨b, o, none⟩).run P w = .ok v w := by
  simp [loadVar, ta.a, load, Sem.run, hc w s]
theorem rv_cell {T s b o k : Nat} {cs vs : Array Value} {e : TypeId} {fz : Nat × Nat} [ta : TyA P T true] [ts : TyS P T k] (hx : lk F s = some (.pointer (some ⟨b, o, none⟩))) (hb : BlkAt h L b (.cells cs e fz)) (hk : o + k ≤ cs.size) (hv : cs.extract o (o + k) = vs) :
    RV P F h L (.cell s T) (.agg vs) := ⟨⟨b, o, none⟩, hx, fun w s => by simp [loadVar, ta.a, ts.s, run_loadCells (hb w s) hk, hv]⟩
theorem rv_cell1 {T s b o : Nat} {v : Value} [ta : TyA P T false] (hx : lk F s = some (.pointer (some ⟨b, o, none⟩))) (hc : CellAt h L b o v) : RV P F h L (.cell s T) v := ⟨⟨b, o, none⟩, hx, fun w s => run_loadVar1 hc s⟩
theorem rv_tmp {s : Nat} {v : Value} (hx : lk F s = some v) : RV P F h L (.tmp s) v := hx

theorem yat {x : Operand} {ad : Addr} (hx : ev F x = some (.pointer (some ad))) : QV P n F h L ⟨dst, .nilCheck x, ty, pos, af, gd⟩ (.pointer (some ad)) := .mk fun a w f s => by
  simp [execOp, f.ev hx]

theorem Addr.add_off (b o k : Nat) : (⟨b, o, none⟩ : Addr).add k = ⟨b, o + k, none⟩ := by
  unfold Addr.add; split <;> simp_all

theorem yac {T i : Nat} {x : Operand} {b o off ft k : Nat} [tf : TyF P T i off ft k] (hx : ev F x = some (.pointer (some ⟨b, o, none⟩))) (hk : Nat.beq k 0 = false) :
    QV P n F h L ⟨dst, .fieldAddr T x i, ty, pos, af, gd⟩ (.pointer (some ⟨b, o + off, none⟩)) := .mk fun a w f s => by
  have hk : k ≠ 0 := fun e => by subst e; simp at hk
  obtain ⟨fs, fl, h1, h2, rfl, rfl, h3⟩ := tf.f
  simp [execOp, f.ev hx, Instr.fieldAt, run_underlying h1, h2, Instr.sureAddr, fieldPlace, h3, hk, Addr.add_off]

theorem yas {x : Operand} {i : Nat} {vs : Array Value} {v : Value} (hx : ev F x = some (.tuple vs)) (hi : vs[i]? = some v) : QV P n F h L ⟨dst, .extract x i, ty, pos, af, gd⟩ v := .mk fun a w f s => by
  simp [execOp, f.ev hx, Instr.extract, hi]

theorem yav {T : Nat} {x y : Operand} {b o len cap : Nat} {ki : IntKind} {i : Int} {e k : Nat} [tu : TyU P T (.slice e)] [ts : TyS P e k] (hx : ev F x = some (.slice (some ⟨b, o, none⟩) len cap)) (hy : ev F y = some (.int ki i))
    (h0 : 0 ≤ i) (h1 : i < len) : QV P n F h L ⟨dst, .indexAddr T x y, ty, pos, af, gd⟩ (.pointer (some ⟨b, o + i.toNat * k, none⟩)) := .mk fun a w f s => by
  simp [execOp, f.ev hx, f.ev hy, Instr.indexAt, asIntOf, run_underlying tu.u, h0, h1, ts.s, Addr.add_off]
theorem yaw {T : Nat} {x y : Operand} {b o len : Nat} {ki : IntKind} {i : Int} {e k : Nat} [tu : TyU P T (.array len e)] [ts : TyS P e k] (hx : ev F x = some (.pointer (some ⟨b, o, none⟩))) (hy : ev F y = some (.int ki i))
    (h0 : 0 ≤ i) (h1 : i < len) : QV P n F h L ⟨dst, .indexAddr T x y, ty, pos, af, gd⟩ (.pointer (some ⟨b, o + i.toNat * k, none⟩)) := .mk fun a w f s => by
  simp [execOp, f.ev hx, f.ev hy, Instr.indexAt, Instr.sureAddr, asIntOf, run_underlying tu.u, h0, h1, ts.s, Addr.add_off]
theorem qv_index {T : Nat} {x y : Operand} {cs : Array Value} {len : Nat} {ki : IntKind} {i : Int} {e k : Nat} {v : Value} [tu : TyU P T (.array len e)] [ta : TyA P e false] [ts : TyS P e k] (hx : ev F x = some (.agg cs)) (hy : ev F y = some (.int ki i))
    (h0 : 0 ≤ i) (h1 : i < len) (hv : cs[i.toNat * k]? = some v) : QV P n F h L ⟨dst, .index T x y, ty, pos, af, gd⟩ v := .mk fun a w f s => by
  simp [execOp, f.ev hx, f.ev hy, Instr.index, asIntOf, run_underlying tu.u, h0, h1, ts.s, part, ta.a, hv]
theorem qv_index_str {T : Nat} {x y : Operand} {s : ByteArray} {ki : IntKind} {i : Int} {v : UInt8} [tu : TyU P T .string] (hx : ev F x = some (.string s)) (hy : ev F y = some (.int ki i))
    (h0 : 0 ≤ i) (hv : s[i.toNat]? = some v) : QV P n F h L ⟨dst, .index T x y, ty, pos, af, gd⟩ (.int .u8 v.toNat) := .mk fun a w f _ => by
  simp [execOp, f.ev hx, f.ev hy, Instr.index, asIntOf, run_underlying tu.u, h0, hv]

theorem yaq {T : Nat} {x : Operand} {ad : Option Addr} {len cap e : Nat} [tu : TyU P T (.slice e)] (hx : ev F x = some (.slice ad len cap)) :
    QV P n F h L ⟨dst, .call ⟨.builtin .len, #[x], #[T]⟩, ty, pos, af, gd⟩ (.int .i64 len) := .mk fun a w f s => by
  simp [execOp, resolve, invoke, builtin, Builtin.len_, run_underlying tu.u, f.ev hx, goInt]
theorem yar {T : Nat} {x : Operand} {s : ByteArray} [tu : TyU P T .string] (hx : ev F x = some (.string s)) :
    QV P n F h L ⟨dst, .call ⟨.builtin .len, #[x], #[T]⟩, ty, pos, af, gd⟩ (.int .i64 s.size) := .mk fun a w f _ => by
  simp [execOp, resolve, invoke, builtin, Builtin.len_, run_underlying tu.u, f.ev hx, goInt]

theorem yap {T : Nat} {x : Operand} {t : Bool} (hx : ev F x = some (.bool t)) : QV P n F h L ⟨dst, .unOp .not T x, ty, pos, af, gd⟩ (.bool !t) := .mk fun a w f s => by
  simp [execOp, f.ev hx, Op.unary]

/-! integers -/
section
variable {T T' : Nat} {x y : Operand} {k : IntKind} {i j : Int}
theorem run_guard_int {op : BinOp} {w : World} : (eqGuard op T x y (.int k i) (.int k j)).run P w = .ok () w := by
  unfold eqGuard
  by_cases hop : op = .eql ∨ op = .neq
  · rcases hop with rfl | rfl <;> simp
  · have : (!(op matches .eql | .neq)) = true := by cases op <;> first | rfl | exact absurd (Or.inl rfl) hop | exact absurd (Or.inr rfl) hop
    simp [this]
theorem yah (hx : ev F x = some (.int k i)) (hy : ev F y = some (.int k j)) : QV P n F h L ⟨dst, .binOp .lss T x y T', ty, pos, af, gd⟩ (.bool (decide (i < j))) := .mk fun a w f s => by
  simp [execOp, f.ev hx, f.ev hy, run_guard_int, binOp, Op.intCmp]
theorem yai (hx : ev F x = some (.int k i)) (hy : ev F y = some (.int k j)) : QV P n F h L ⟨dst, .binOp .leq T x y T', ty, pos, af, gd⟩ (.bool (decide (i ≤ j))) := .mk fun a w f s => by
  simp [execOp, f.ev hx, f.ev hy, run_guard_int, binOp, Op.intCmp]
theorem yaj (hx : ev F x = some (.int k i)) (hy : ev F y = some (.int k j)) : QV P n F h L ⟨dst, .binOp .gtr T x y T', ty, pos, af, gd⟩ (.bool (decide (j < i))) := .mk fun a w f s => by
  simp [execOp, f.ev hx, f.ev hy, run_guard_int, binOp, Op.intCmp]
theorem yak (hx : ev F x = some (.int k i)) (hy : ev F y = some (.int k j)) : QV P n F h L ⟨dst, .binOp .geq T x y T', ty, pos, af, gd⟩ (.bool (decide (j ≤ i))) := .mk fun a w f s => by
  simp [execOp, f.ev hx, f.ev hy, run_guard_int, binOp, Op.intCmp]
theorem yal (hx : ev F x = some (.int k i)) (hy : ev F y = some (.int k j)) : QV P n F h L ⟨dst, .binOp .eql T x y T', ty, pos, af, gd⟩ (.bool (decide (i = j))) := .mk fun a w f s => by
  simp [execOp, f.ev hx, f.ev hy, run_guard_int, binOp, Op.intCmp]
  exact (by rw [Bool.eq_iff_iff]; simp : (i == j) = decide (i = j))
theorem yam (hx : ev F x = some (.int k i)) (hy : ev F y = some (.int k j)) : QV P n F h L ⟨dst, .binOp .neq T x y T', ty, pos, af, gd⟩ (.bool (decide (i ≠ j))) := .mk fun a w f s => by
  have hb : (i != j) = decide (i ≠ j) := by rw [Bool.eq_iff_iff]; simp
  simp [execOp, f.ev hx, f.ev hy, run_guard_int, binOp, Op.intCmp, hb]
theorem qv_add_w (hx : ev F x = some (.int k i)) (hy : ev F y = some (.int k j)) : QV P n F h L ⟨dst, .binOp .add T x y T', ty, pos, af, gd⟩ (.int k (k.wrap (i + j))) := .mk fun a w f s => by
  simp [execOp, f.ev hx, f.ev hy, run_guard_int, binOp, Op.intArith]
theorem qv_sub_w (hx : ev F x = some (.int k i)) (hy : ev F y = some (.int k j)) : QV P n F h L ⟨dst, .binOp .sub T x y T', ty, pos, af, gd⟩ (.int k (k.wrap (i - j))) := .mk fun a w f s => by
  simp [execOp, f.ev hx, f.ev hy, run_guard_int, binOp, Op.intArith]
theorem qv_mul_w (hx : ev F x = some (.int k i)) (hy : ev F y = some (.int k j)) : QV P n F h L ⟨dst, .binOp .mul T x y T', ty, pos, af, gd⟩ (.int k (k.wrap (i * j))) := .mk fun a w f s => by
  simp [execOp, f.ev hx, f.ev hy, run_guard_int, binOp, Op.intArith]
end
/-- an int of 64 bits -/
def I64 (i : Int) : Prop := -9223372036854775808 ≤ i ∧ i ≤ 9223372036854775807
theorem wrap_i64 {i : Int} (hi : I64 i) : IntKind.i64.wrap i = i := IntWalk.i64_in _ hi
section
variable {T T' : Nat} {x y : Operand} {i j : Int}
theorem yan (hx : ev F x = some (.int .i64 i)) (hy : ev F y = some (.int .i64 j)) (hr : I64 (i + j)) : QV P n F h L ⟨dst, .binOp .add T x y T', ty, pos, af, gd⟩ (.int .i64 (i + j)) := by
  have := qv_add_w (P := P) (n := n) (h := h) (L := L) (dst := dst) (ty := ty) (pos := pos) (af := af) (gd := gd) (T := T) (T' := T') hx hy
  rwa [wrap_i64 hr] at this
theorem yao (hx : ev F x = some (.int .i64 i)) (hy : ev F y = some (.int .i64 j)) (hr : I64 (i - j)) : QV P n F h L ⟨dst, .binOp .sub T x y T', ty, pos, af, gd⟩ (.int .i64 (i - j)) := by
  have := qv_sub_w (P := P) (n := n) (h := h) (L := L) (dst := dst) (ty := ty) (pos := pos) (af := af) (gd := gd) (T := T) (T' := T') hx hy
  rwa [wrap_i64 hr] at this
theorem qv_mul (hx : ev F x = some (.int .i64 i)) (hy : ev F y = some (.int .i64 j)) (hr : I64 (i * j)) : QV P n F h L ⟨dst, .binOp .mul T x y T', ty, pos, af, gd⟩ (.int .i64 (i * j)) := by
  have := qv_mul_w (P := P) (n := n) (h := h) (L := L) (dst := dst) (ty := ty) (pos := pos) (af := af) (gd := gd) (T := T) (T' := T') hx hy
  rwa [wrap_i64 hr] at this
end

/-! memory is made -/
theorem ybb {T : Nat} {x : Operand} {v : Value} (hx : ev F x = some v) : MA P n F h L ⟨dst, .box T x, ty, pos, af, gd⟩ (fun b => .pointer (some ⟨b, 0, none⟩)) (.cells v.cells T) := .mk fun a w f s => by
  simp [execOp, f.ev hx, Instr.box, newVar, newRow, newObj, Sem.run]
theorem ybc {T : Nat} {z : Value} [tz : TyZ P T z] : MA P n F h L ⟨dst, .alloc T, ty, pos, af, gd⟩ (fun b => .pointer (some ⟨b, 0, none⟩)) (.cells z.cells T) := .mk fun a w f s => by
  simp [execOp, Instr.alloc, tz.z, newVar, newRow, newObj, Sem.run]

/-! calls -/
def evs (F : List (Nat × Value)) : List Operand → Option (List Value)
  | [] => some []
  | x :: r => match ev F x, evs F r with
    | some v, some vs => some (v :: vs)
    | _, _ => none
theorem evs_ok {a : Act} (f : Fr n F a) : ∀ (l : List Operand) (vs : List Value), evs F l = some vs → l.map a.eval = vs
  | [], vs, hp => by simp [evs] at hp; subst hp; rfl
  | x :: r, vs, hp => by
    simp only [evs] at hp
    split at hp
    · rename_i v vs' h1 h2
      cases hp
      simp [f.ev h1, evs_ok f r vs' h2]
    · cases hp
theorem ycp {fn : FuncId} {fu : Func} {c : Code} {xs : Array Operand} {ts : Array TypeId} {args : List Value} (hf : P.funcs[fn]? = some fu) (hb : fu.body = some c) (hnm : (fu.name == "runtime.NumGoroutine") = false) (hx : evs F xs.toList = some args) :
    CallOf P n F ⟨dst, .call ⟨.value (.func fn), xs, ts⟩, ty, pos, af, gd⟩ fn args.toArray := .mk fun a w f => by
  have hargs : xs.map a.eval = args.toArray := by
    apply Array.ext'
    rw [Array.toList_map]
    exact evs_ok f _ _ hx
  have hnm' : ¬ fu.name = "runtime.NumGoroutine" := by simpa using hnm
  simp [execOp, resolve, Act.eval, Deferred.ofValue, hargs, invoke, callFunc, program, Sem.run, hf, hnm', hb]
/-- a call of a function value -/
theorem call_val {fn : FuncId} {fu : Func} {c : Code} {x : Operand} {xs : Array Operand} {ts : Array TypeId} {args : List Value} {cap : Array Value} (hv : ev F x = some (.func (.func fn) #[] cap)) (hf : P.funcs[fn]? = some fu) (hb : fu.body = some c) (hnm : (fu.name == "runtime.NumGoroutine") = false) (hx : evs F xs.toList = some args) :
    CallOf P n F ⟨dst, .call ⟨.value x, xs, ts⟩, ty, pos, af, gd⟩ fn (args ++ cap.toList).toArray := .mk fun a w f => by
  have hargs : xs.map a.eval = args.toArray := by
    apply Array.ext'
    rw [Array.toList_map]
    exact evs_ok f _ _ hx
  have hnm' : ¬ fu.name = "runtime.NumGoroutine" := by simpa using hnm
  have hap : args.toArray ++ cap = (args ++ cap.toList).toArray := by apply Array.ext'; simp
  simp [execOp, resolve, f.ev hv, Deferred.ofValue, hargs, invoke, callFunc, program, Sem.run, hf, hnm', hb, hap]
end
attribute [irreducible] CellAt BlkAt
end Go.Ck
