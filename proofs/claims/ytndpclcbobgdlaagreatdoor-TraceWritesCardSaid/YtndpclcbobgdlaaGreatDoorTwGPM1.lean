/-
  Part 1 of a proof: CkOps CkMem CkSl CkGoes CkMore CkLend CkRow CkConv CkBool.
  Conditions: each theorem states its own.
-/
import Derived.WalkKit
import Derived.Laws.OwnMore
import Derived.Laws.AppendOwnNone
import GoSem.ClaimGoes
import Derived.Laws.StructEq
import Derived.Laws.Small
import Derived.Test.YtndpclcbobgdlaaGreatDoorTwGPM0
set_option maxRecDepth 100000
set_option linter.unusedVariables false
set_option linter.unusedSimpArgs false
section
namespace Go.Ck
open Go
class TyU (P : Program) (T : Nat) (d : outParam TypeDesc) : Prop where
  u : P.underlying T = some d
class TyA (P : Program) (T : Nat) (b : outParam Bool) : Prop where
  a : ∀ w, (isAgg T).run P w = .ok b w
class TyS (P : Program) (T : Nat) (k : outParam Nat) : Prop where
  s : ∀ w, (sizeOf T).run P w = .ok k w
class TyZ (P : Program) (T : Nat) (z : outParam Value) : Prop where
  z : ∀ w, (zeroValue T).run P w = .ok z w
class TyF (P : Program) (T i : Nat) (off ft k : outParam Nat) : Prop where
  f : ∃ fs fl, P.underlying T = some (.struct fs) ∧ fs[i]? = some fl ∧ fl.offset = off ∧ fl.type = ft ∧ ∀ w, (sizeOf fl.type).run P w = .ok k w
class TyB (P : Program) (T : Nat) (z : outParam Value) (size bytes : outParam Nat) : Prop where
  b : (P.info? T).map (fun i => (i.zero, i.size, i.bytes)) = some (some z, size, bytes)
theorem TyB.ex {P : Program} {T : Nat} {z : Value} {size bytes : Nat} (t : TyB P T z size bytes) : ∃ i, P.info? T = some i ∧ i.zero = some z ∧ i.size = size ∧ i.bytes = bytes := by
  have := t.b
  cases hi : P.info? T with
  | none => rw [hi] at this; cases this
  | some i =>
    rw [hi] at this
    simp only [Option.map_some, Option.some.injEq, Prod.mk.injEq] at this
    exact ⟨i, rfl, this.1, this.2.1, this.2.2⟩
section
variable {P : Program} {n : Nat} {F : List (Nat × Value)} {h : View} {L : List Res}
variable {dst : Option Nat} {ty : Nat} {pos : String} {af : Array Edge} {gd : Option (Nat × Bool)}
def lget : List Value → Nat → Option Value
  | [], _ => none
  | x :: _, 0 => some x
  | _ :: r, k + 1 => lget r k
theorem lget_eq : ∀ (l : List Value) (k : Nat), lget l k = l[k]?
  | [], k => by simp [lget]
  | x :: l, 0 => by simp [lget]
  | x :: l, k + 1 => by simp [lget, lget_eq l k]
def CellAt (h : View) (L : List Res) (b o : Nat) (v : Value) : Prop := ∀ w, Hd h L w → w.cell? ⟨b, o, none⟩ = some v
def BlkAt (h : View) (L : List Res) (b : Nat) (ob : Obj) : Prop := ∀ w, Hd h L w → w.heap[b]? = some ob
theorem blk_own {k : Nat} {b : Nat} {ob : Obj} (hk : L[k]? = some (Res.blk b ob)) : BlkAt h L b ob := fun w s => s.own _ (List.mem_of_getElem? hk)
theorem cell_blk {b o : Nat} {cs : Array Value} {e : TypeId} {fz : Nat × Nat} {v : Value} (hb : BlkAt h L b (.cells cs e fz)) (hv : cs[o]? = some v) : CellAt h L b o v := fun w s => by
  simp [World.cell?, hb w s, hv]
theorem yay {b o : Nat} {cs : Array Value} {e : TypeId} {fz : Nat × Nat} {v : Value} (k : Nat) (hk : L[k]? = some (Res.blk b (.cells cs e fz))) (hv : lget cs.toList o = some v) : CellAt h L b o v := cell_blk (blk_own hk) (by rw [lget_eq] at hv; simpa using hv)
theorem yaa {x : Operand} {v : Value} (hx : ev F x = some v) : QV P n F h L ⟨dst, .move x, ty, pos, af, gd⟩ v := .mk fun a w f s => by
  simp [execOp, f.ev hx]
theorem yab {x : Operand} {v : Value} (hx : ev F x = some v) : QV P n F h L ⟨dst, .assign x, ty, pos, af, gd⟩ v := .mk fun a w f s => by
  simp [execOp, f.ev hx]
theorem yaf {c x y : Operand} {v : Value} (hc : ev F c = some (.bool true)) (hx : ev F x = some v) : QV P n F h L ⟨dst, .pick c x y, ty, pos, af, gd⟩ v := .mk fun a w f s => by
  simp [execOp, f.ev hc, f.ev hx, asBool]
theorem yag {c x y : Operand} {v : Value} (hc : ev F c = some (.bool false)) (hy : ev F y = some v) : QV P n F h L ⟨dst, .pick c x y, ty, pos, af, gd⟩ v := .mk fun a w f s => by
  simp [execOp, f.ev hc, f.ev hy, asBool]
theorem yae {T : Nat} {x : Operand} {b o : Nat} {v : Value} [ta : TyA P T false] (hx : ev F x = some (.pointer (some ⟨b, o, none⟩))) (hc : CellAt h L b o v) : QV P n F h L ⟨dst, .load T x, ty, pos, af, gd⟩ v := .mk fun a w f s => by
  simp [execOp, f.ev hx, Instr.loadAt, Instr.sureAddr, loadVar, ta.a, load, Sem.run, hc w s]
theorem rv_tmp {s : Nat} {v : Value} (hx : lk F s = some v) : RV P F h L (.tmp s) v := hx
theorem yat {x : Operand} {ad : Addr} (hx : ev F x = some (.pointer (some ad))) : QV P n F h L ⟨dst, .nilCheck x, ty, pos, af, gd⟩ (.pointer (some ad)) := .mk fun a w f s => by
  simp [execOp, f.ev hx]
theorem Addr.add_off (b o k : Nat) : (⟨b, o, none⟩ : Addr).add k = ⟨b, o + k, none⟩ := by
  unfold Addr.add; split <;> simp_all
theorem yac {T i : Nat} {x : Operand} {b o off ft k : Nat} [tf : TyF P T i off ft k] (hx : ev F x = some (.pointer (some ⟨b, o, none⟩))) (hk : Nat.beq k 0 = false) :
    QV P n F h L ⟨dst, .fieldAddr T x i, ty, pos, af, gd⟩ (.pointer (some ⟨b, o + off, none⟩)) := .mk fun a w f s => by
  have hk : k ≠ 0 := fun e => by subst e; simp at hk
  obtain ⟨fs, fl, h1, h2, rfl, rfl, h3⟩ := tf.f
  simp [execOp, f.ev hx, Instr.fieldAt, run_underlying h1, h2, Instr.sureAddr, fieldPlace, h3, hk, Addr.add_off]
theorem yas {x : Operand} {i : Nat} {vs : Array Value} {v : Value} (hx : ev F x = some (.tuple vs)) (hi : vs[i]? = some v) : QV P n F h L ⟨dst, .extract x i, ty, pos, af, gd⟩ v := .mk fun a w f s => by
  simp [execOp, f.ev hx, Instr.extract, hi]
theorem yav {T : Nat} {x y : Operand} {b o len cap : Nat} {ki : IntKind} {i : Int} {e k : Nat} [tu : TyU P T (.slice e)] [ts : TyS P e k] (hx : ev F x = some (.slice (some ⟨b, o, none⟩) len cap)) (hy : ev F y = some (.int ki i))
    (h0 : 0 ≤ i) (h1 : i < len) : QV P n F h L ⟨dst, .indexAddr T x y, ty, pos, af, gd⟩ (.pointer (some ⟨b, o + i.toNat * k, none⟩)) := .mk fun a w f s => by
  simp [execOp, f.ev hx, f.ev hy, Instr.indexAt, asIntOf, run_underlying tu.u, h0, h1, ts.s, Addr.add_off]
theorem yaw {T : Nat} {x y : Operand} {b o len : Nat} {ki : IntKind} {i : Int} {e k : Nat} [tu : TyU P T (.array len e)] [ts : TyS P e k] (hx : ev F x = some (.pointer (some ⟨b, o, none⟩))) (hy : ev F y = some (.int ki i))
    (h0 : 0 ≤ i) (h1 : i < len) : QV P n F h L ⟨dst, .indexAddr T x y, ty, pos, af, gd⟩ (.pointer (some ⟨b, o + i.toNat * k, none⟩)) := .mk fun a w f s => by
  simp [execOp, f.ev hx, f.ev hy, Instr.indexAt, Instr.sureAddr, asIntOf, run_underlying tu.u, h0, h1, ts.s, Addr.add_off]
theorem yaq {T : Nat} {x : Operand} {ad : Option Addr} {len cap e : Nat} [tu : TyU P T (.slice e)] (hx : ev F x = some (.slice ad len cap)) :
    QV P n F h L ⟨dst, .call ⟨.builtin .len, #[x], #[T]⟩, ty, pos, af, gd⟩ (.int .i64 len) := .mk fun a w f s => by
  simp [execOp, resolve, invoke, builtin, Builtin.len_, run_underlying tu.u, f.ev hx, goInt]
theorem yar {T : Nat} {x : Operand} {s : ByteArray} [tu : TyU P T .string] (hx : ev F x = some (.string s)) :
    QV P n F h L ⟨dst, .call ⟨.builtin .len, #[x], #[T]⟩, ty, pos, af, gd⟩ (.int .i64 s.size) := .mk fun a w f _ => by
  simp [execOp, resolve, invoke, builtin, Builtin.len_, run_underlying tu.u, f.ev hx, goInt]
theorem yap {T : Nat} {x : Operand} {t : Bool} (hx : ev F x = some (.bool t)) : QV P n F h L ⟨dst, .unOp .not T x, ty, pos, af, gd⟩ (.bool !t) := .mk fun a w f s => by
  simp [execOp, f.ev hx, Op.unary]
section
variable {T T' : Nat} {x y : Operand} {k : IntKind} {i j : Int}
theorem run_guard_int {op : BinOp} {w : World} : (eqGuard op T x y (.int k i) (.int k j)).run P w = .ok () w := by
  unfold eqGuard
  by_cases hop : op = .eql ∨ op = .neq
  · rcases hop with rfl | rfl <;> simp
  · have : (!(op matches .eql | .neq)) = true := by cases op<;>first|rfl | exact absurd (Or.inl rfl) hop | exact absurd (Or.inr rfl) hop
    simp [this]
theorem yah (hx : ev F x = some (.int k i)) (hy : ev F y = some (.int k j)) : QV P n F h L ⟨dst, .binOp .lss T x y T', ty, pos, af, gd⟩ (.bool (decide (i < j))) := .mk fun a w f s => by
  simp [execOp, f.ev hx, f.ev hy, run_guard_int, binOp, Op.intCmp]
theorem yai (hx : ev F x = some (.int k i)) (hy : ev F y = some (.int k j)) : QV P n F h L ⟨dst, .binOp .leq T x y T', ty, pos, af, gd⟩ (.bool (decide (i ≤ j))) := .mk fun a w f s => by
  simp [execOp, f.ev hx, f.ev hy, run_guard_int, binOp, Op.intCmp]
theorem yaj (hx : ev F x = some (.int k i)) (hy : ev F y = some (.int k j)) : QV P n F h L ⟨dst, .binOp .gtr T x y T', ty, pos, af, gd⟩ (.bool (decide (j < i))) := .mk fun a w f s => by
  simp [execOp, f.ev hx, f.ev hy, run_guard_int, binOp, Op.intCmp]
theorem yak (hx : ev F x = some (.int k i)) (hy : ev F y = some (.int k j)) : QV P n F h L ⟨dst, .binOp .geq T x y T', ty, pos, af, gd⟩ (.bool (decide (j ≤ i))) := .mk fun a w f s => by
  simp [execOp, f.ev hx, f.ev hy, run_guard_int, binOp, Op.intCmp]
theorem yal (hx : ev F x = some (.int k i)) (hy : ev F y = some (.int k j)) : QV P n F h L ⟨dst, .binOp .eql T x y T', ty, pos, af, gd⟩ (.bool (decide (i = j))) := .mk fun a w f s => by
  simp [execOp, f.ev hx, f.ev hy, run_guard_int, binOp, Op.intCmp]
  exact (by rw [Bool.eq_iff_iff]; simp : (i == j) = decide (i = j))
theorem yam (hx : ev F x = some (.int k i)) (hy : ev F y = some (.int k j)) : QV P n F h L ⟨dst, .binOp .neq T x y T', ty, pos, af, gd⟩ (.bool (decide (i ≠ j))) := .mk fun a w f s => by
  have hb : (i != j) = decide (i ≠ j) := by rw [Bool.eq_iff_iff]; simp
  simp [execOp, f.ev hx, f.ev hy, run_guard_int, binOp, Op.intCmp, hb]
theorem qv_add_w (hx : ev F x = some (.int k i)) (hy : ev F y = some (.int k j)) : QV P n F h L ⟨dst, .binOp .add T x y T', ty, pos, af, gd⟩ (.int k (k.wrap (i + j))) := .mk fun a w f s => by
  simp [execOp, f.ev hx, f.ev hy, run_guard_int, binOp, Op.intArith]
theorem qv_sub_w (hx : ev F x = some (.int k i)) (hy : ev F y = some (.int k j)) : QV P n F h L ⟨dst, .binOp .sub T x y T', ty, pos, af, gd⟩ (.int k (k.wrap (i - j))) := .mk fun a w f s => by
  simp [execOp, f.ev hx, f.ev hy, run_guard_int, binOp, Op.intArith]
end
def I64 (i : Int) : Prop := -9223372036854775808 ≤ i ∧ i ≤ 9223372036854775807
theorem wrap_i64 {i : Int} (hi : I64 i) : IntKind.i64.wrap i = i := IntWalk.i64_in _ hi
section
variable {T T' : Nat} {x y : Operand} {i j : Int}
theorem yan (hx : ev F x = some (.int .i64 i)) (hy : ev F y = some (.int .i64 j)) (hr : I64 (i + j)) : QV P n F h L ⟨dst, .binOp .add T x y T', ty, pos, af, gd⟩ (.int .i64 (i + j)) := by
  have := qv_add_w (P := P) (n := n) (h := h) (L := L) (dst := dst) (ty := ty) (pos := pos) (af := af) (gd := gd) (T := T) (T' := T') hx hy
  rwa [wrap_i64 hr] at this
theorem yao (hx : ev F x = some (.int .i64 i)) (hy : ev F y = some (.int .i64 j)) (hr : I64 (i - j)) : QV P n F h L ⟨dst, .binOp .sub T x y T', ty, pos, af, gd⟩ (.int .i64 (i - j)) := by
  have := qv_sub_w (P := P) (n := n) (h := h) (L := L) (dst := dst) (ty := ty) (pos := pos) (af := af) (gd := gd) (T := T) (T' := T') hx hy
  rwa [wrap_i64 hr] at this
end
theorem ybb {T : Nat} {x : Operand} {v : Value} (hx : ev F x = some v) : MA P n F h L ⟨dst, .box T x, ty, pos, af, gd⟩ (fun b => .pointer (some ⟨b, 0, none⟩)) (.cells v.cells T) := .mk fun a w f s => by
  simp [execOp, f.ev hx, Instr.box, newVar, newRow, newObj, Sem.run]
theorem ybc {T : Nat} {z : Value} [tz : TyZ P T z] : MA P n F h L ⟨dst, .alloc T, ty, pos, af, gd⟩ (fun b => .pointer (some ⟨b, 0, none⟩)) (.cells z.cells T) := .mk fun a w f s => by
  simp [execOp, Instr.alloc, tz.z, newVar, newRow, newObj, Sem.run]
def evs (F : List (Nat × Value)) : List Operand → Option (List Value)
  | [] => some []
  | x :: r => match ev F x, evs F r with
    | some v, some vs => some (v :: vs)
    | _, _ => none
theorem evs_ok {a : Act} (f : Fr n F a) : ∀ (l : List Operand) (vs : List Value), evs F l = some vs → l.map a.eval = vs
  | [], vs, hp => by simp [evs] at hp; subst hp; rfl
  | x :: r, vs, hp => by
    simp only [evs] at hp
    split at hp
    · rename_i v vs' h1 h2
      cases hp
      simp [f.ev h1, evs_ok f r vs' h2]
    · cases hp
theorem ycp {fn : FuncId} {fu : Func} {c : Code} {xs : Array Operand} {ts : Array TypeId} {args : List Value} (hf : P.funcs[fn]? = some fu) (hb : fu.body = some c) (hnm : (fu.name == "runtime.NumGoroutine") = false) (hx : evs F xs.toList = some args) :
    CallOf P n F ⟨dst, .call ⟨.value (.func fn), xs, ts⟩, ty, pos, af, gd⟩ fn args.toArray := .mk fun a w f => by
  have hargs : xs.map a.eval = args.toArray := by
    apply Array.ext'
    rw [Array.toList_map]
    exact evs_ok f _ _ hx
  have hnm' : ¬ fu.name = "runtime.NumGoroutine" := by simpa using hnm
  simp [execOp, resolve, Act.eval, Deferred.ofValue, hargs, invoke, callFunc, program, Sem.run, hf, hnm', hb]
end
attribute [irreducible] CellAt BlkAt
end Go.Ck
end

section
namespace Go.Ck
open Go
section
variable {P : Program} {n : Nat} {K : Bs} {F : List (Nat × Value)} {h : View} {L : List Res} {Q : Exit → Act → World → Prop}
variable {dst : Option Nat} {ty : Nat} {pos : String} {af : Array Edge} {gd : Option (Nat × Bool)}
theorem Owe.out {g : Rg} {i : Nat} (o : Owe g i h L) {w : World} (s : St K h L w) : g.S w ∨ g.bar i = true := o.imp (fun k => k w s.hd) id
def spl (cs : List Value) (o : Nat) (vs : List Value) : List Value := cs.take o ++ vs ++ cs.drop (o + vs.length)
theorem ybh {z vs : List Value} (hl : vs.length = z.length) : spl z 0 vs = vs := by simp [spl, hl]
theorem ybg {g : Rg} {i : Nat} {r : List (Nat × Oper)} {T : Nat} {x y : Operand} {b o sz : Nat} {v : Value} {cs : Array Value} {e : TypeId} (k : Nat) [ts : TyS P T sz] (hx : ev F x = some (.pointer (some ⟨b, o, none⟩))) (hy : ev F y = some v)
    (hk : L[k]? = some (Res.blk b (.cells cs e (0, 0)))) (hsz : v.cells.size = sz) (hfit : o + v.cells.size ≤ cs.size) (h1 : v.cells.toList.all Value.oneCell' = true) {cs' : List Value} (hcs : spl cs.toList o v.cells.toList = cs')
    (hw : wantedF g.ops F ⟨none, .store T x y, ty, pos, af, gd⟩ = some true) (hl : g.lo i = true) (o1 : Owe g i h L) (o2 : Owe g i h (L.set k (Res.blk b (.cells cs'.toArray e (0, 0)))))
    (hn : RX P n K g r F h (L.set k (Res.blk b (.cells cs'.toArray e (0, 0)))) Q) : RX P n K g ((i, ⟨none, .store T x y, ty, pos, af, gd⟩) :: r) F h L Q := by
  unfold RX at *
  intro a w f s
  subst hcs
  have h1 : ∀ u ∈ v.cells.toList, u.oneCell' = true := fun u hu => List.all_eq_true.1 h1 u hu
  have hb : w.heap[b]? = some (.cells cs e (0, 0)) := s.hd.own _ (List.mem_of_getElem? hk)
  have hrun : (execOp a.eval ⟨none, .store T x y, ty, pos, af, gd⟩).run P w = .ok .skip (w.setRow b (spl cs.toList o v.cells.toList).toArray) := by
    have hst := run_storeCells_at P b o e v.cells.toList 0 cs w hb (by simpa using hfit) h1
    simp only [Nat.add_zero] at hst
    simp [execOp, f.ev hx, f.ev hy, Instr.storeAt, Instr.sureAddr, storeVar, ts.s, hsz, hst, spl]
  have s' : St K h (L.set k (Res.blk b (.cells (spl cs.toList o v.cells.toList).toArray e (0, 0)))) (w.setRow b (spl cs.toList o v.cells.toList).toArray) :=
    s.writeAt hk rfl rfl rfl (by simp) (by simp) (fun j hj => setRow_other w b j _ hj) (setRow_heap w b cs _ e _ hb)
  refine .inr (.inr ⟨wantedF_ok f hw, hl, o1.out s, ?_⟩)
  unfold Oper.wp
  rw [hrun]
  exact ⟨o2.out s', hn _ _ f s'⟩
def Res.row (e : TypeId) (k : Nat) (v : Value) (n : Nat) (xs : List Value) : Res where
  dom := v.ownBlock.toList
  sat := fun w => w.ownsRow 0 e k v n xs
  loc := fun w w' hh hs => by
    refine ⟨hs.1, ?_⟩
    rcases hs.2 with hn | ⟨g, cap, cur, rfl, hb, hgg, rest⟩
    · exact .inl hn
    · exact .inr ⟨g, cap, cur, rfl, hb, by rw [hh g (by simp [Value.ownBlock])]; exact hgg, rest⟩
  lt := fun w hs b hb => by
    have hb : v.ownBlock = some b := by simpa using hb
    exact (hs.lt b hb).2
theorem St.rowNil {w : World} (s : St K h L w) (e : TypeId) (k : Nat) : St K h (Res.row e k (.slice none 0 0) 0 [] :: L) w := by
  have hd : doms (Res.row e k (.slice none 0 0) 0 [] :: L) = doms L := by simp [doms_cons, Res.row, Value.ownBlock]
  exact ⟨s.os, s.tape, s.output, s.drawn, s.size, s.keep, ⟨s.hd.view, fun r hr => by
    rcases List.mem_cons.1 hr with rfl | hr
    · exact World.ownsRow_nil w 0 e k
    · exact s.hd.own r hr⟩, by rw [hd]; exact s.nd, fun b hb => s.src b (by rw [← hd]; exact hb), s.grow, s.new, fun b hb => s.dis b (by rw [← hd]; exact hb)⟩
theorem cx_row {c : Code} (e : TypeId) (k : Nat) (hx : CX P n K c F h (Res.row e k (.slice none 0 0) 0 [] :: L) Q) : CX P n K c F h L Q := by
  unfold CX at *
  exact fun a w f s => hx a w f (s.rowNil e k)
theorem St.swap {R R' : Res} {k : Nat} {w w' : World} (s : St K h L w) (hk : L[k]? = some R) (h1 : w'.os = w.os) (h2 : w'.tape = w.tape) (h3 : w'.output = w.output) (hdr : w.drawn ≤ w'.drawn) (h4 : w.heap.size ≤ w'.heap.size)
    (h5 : ∀ j, j < w.heap.size → j ∉ R.dom → w'.heap[j]? = w.heap[j]?) (h6 : R'.sat w') (h7 : R'.dom.Nodup) (h8 : ∀ b ∈ R'.dom, b ∈ R.dom ∨ w.heap.size ≤ b) : St K h (L.set k R') w' := by
  have s1 : St K h ([R] ++ L.eraseIdx k) w := s.perm (perm_at hk)
  have e1 : doms [R] = R.dom := by simp [doms]
  have e2 : doms [R'] = R'.dom := by simp [doms]
  have t : St ⟨w, h, doms [R]⟩ h [R'] w' := by
    refine ⟨h1, h2, h3, hdr, h4, fun j hj hjA => h5 j hj (by rw [e1] at hjA; exact hjA), ⟨fun x ob hx => ?_, fun r hr => ?_⟩, by rw [e2]; exact h7, fun b hb => by rw [e2] at hb; rw [e1]; exact h8 b hb, Le.refl h, fun _ _ hx => hx, fun b hb => ?_⟩
    · have hv := s.hd.view x ob hx
      rw [h5 x (Array.getElem?_eq_some_iff.1 hv).1 (fun hm => ?_)]
      · exact hv
      · have := s1.dis x (by rw [doms_append, e1]; exact List.mem_append_left _ hm)
        rw [this] at hx; cases hx
    · have : r = R' := by simpa using hr
      subst this; exact h6
    · rw [e2] at hb
      rcases h8 b hb with hb | hb
      · exact s1.dis b (by rw [doms_append, e1]; exact List.mem_append_left _ hb)
      · cases hx : h b with
        | none => rfl
        | some ob =>
          have hv := s.hd.view b ob hx
          have := (Array.getElem?_eq_some_iff.1 hv).1
          omega
  exact (St.leave (Li := [R]) (Lo := [R']) s1 t).perm (perm_set hk)
theorem run_append_ck {w : World} (t ty' e : TypeId) {z : Value} {size bytes : Nat} (ht : P.underlying t = some (.slice e)) (tb : TyB P e z size bytes) (hzs : z.cells.size = size) (hsz : 0 < size)
    (v : Value) (m0 : Nat) (xs : List Value) (hown : w.ownsRow 0 e size v m0 xs)
    (ad : Addr) (m c : Nat) (news : List Value) (hl : news.length = m * size) (hnews : ∀ j u, news[j]? = some u → w.cell? (ad.add j) = some u) (h1 : ∀ u ∈ news, u.oneCell' = true)
    (h63 : m0 + m ≤ maxLen) (hbytes : (m0 + m) * bytes ≤ 140737488355328) :
    ∃ v' w', (Builtin.append_ #[t, t] ty' #[v, .slice (some ad) m c]).run P w = .ok v' w' ∧ w'.ownsRow 0 e size v' (m0 + m) (xs ++ news) ∧ w.grownBy w' v.ownBlock ∧
      (v' = .slice none 0 0 ↔ v = .slice none 0 0 ∧ m = 0) ∧ w.drawn ≤ w'.drawn ∧ (v'.ownBlock = v.ownBlock ∨ ∃ b, v'.ownBlock = some b ∧ w.heap.size ≤ b) := by
  obtain ⟨i, hi, hz, hsize, hby⟩ := tb.ex
  subst hsize
  subst hby
  have hsmall : m0 + m ≤ 9223372036854775807 := by simp only [maxLen] at h63; omega
  have hlen : (xs ++ news).length = (m0 + m) * i.size := by rw [List.length_append, hown.1, hl, Nat.add_mul]
  have grown : ∀ (old : Nat), old < m0 + m → ∀ (row : Option Nat),
      (w.drew.alloc (.cells (xs.toArray ++ news.toArray ++ Builtin.zeroCells z.cells (grownCap w (m0 + m) old e - (m0 + m))) e)).ownsRow 0 e i.size
        (.slice (some ⟨w.heap.size, 0, none⟩) (m0 + m) (grownCap w (m0 + m) old e)) (m0 + m) (xs ++ news) ∧
      w.grownBy (w.drew.alloc (.cells (xs.toArray ++ news.toArray ++ Builtin.zeroCells z.cells (grownCap w (m0 + m) old e - (m0 + m))) e)) row := by
    intro old ho row
    have hge := grownCap_ge w (m0 + m) old e
    have hcm : grownCap w (m0 + m) old e ≤ maxLen := grownCap_le_maxLen w (m0 + m) old e h63
    refine ⟨⟨hlen, .inr ⟨w.heap.size, _, _, rfl, Nat.zero_le _, heap_alloc_new w.drew _, hge, hcm, ?_, ?_⟩⟩, ⟨rfl, rfl, rfl, by simp, fun k hk _ => Go.RowKit.Below.heap_alloc w.drew _ k hk⟩⟩
    · simp only [Array.size_append, List.size_toArray, size_zeroCells, hzs, hown.1, hl, ← Nat.add_mul]
      congr 1
      omega
    · simp only [Array.toList_append, List.append_assoc]
      rw [← List.append_assoc, ← hlen]
      exact List.take_left
  rcases hown.2 with ⟨rfl, rfl⟩ | ⟨g, cap, cur, rfl, hbg, hg, hnc, hcm, hcs, htake⟩
  · have hx : xs = [] := List.eq_nil_of_length_eq_zero (by simpa using hown.1)
    subst hx
    by_cases hm : m = 0
    · subst hm
      have hn : news = [] := List.eq_nil_of_length_eq_zero (by simpa using hl)
      subst hn
      refine ⟨.slice none 0 0, w, ?_, World.ownsRow_nil w 0 e i.size, ⟨rfl, rfl, rfl, Nat.le_refl _, fun _ _ _ => rfl⟩, by simp, Nat.le_refl _, .inl rfl⟩
      simp [Builtin.append_, run_underlying ht, sizeOf, typeInfo, hi, Builtin.lenOf, Builtin.firstCells, loadCells, loadCellsFrom]
    · have hr := run_append_nil (P := P) w t ty' e i z ht hi hz ad m c news hl hnews (by omega) (by omega) (by have hb := hbytes; simp only [Nat.zero_add] at hb; omega)
      have hgr := grown 0 (by omega) (Value.ownBlock (.slice none 0 0))
      simp only [Nat.zero_add, List.nil_append, Array.empty_append] at hgr ⊢
      exact ⟨_, _, hr, hgr.1, hgr.2, by simp [hm], Nat.le_succ _, .inr ⟨_, rfl, Nat.le_refl _⟩⟩
  · by_cases hroom : m0 + m ≤ cap
    · have hfit : m0 * i.size + news.length ≤ cur.size := by rw [hl, hcs, ← Nat.add_mul]; exact Nat.mul_le_mul_right _ hroom
      have hr := run_append_room (P := P) w t ty' e i ht hi g m0 cap cur hg ad m c news hl hnews h1 hroom hfit
      refine ⟨_, _, hr, ⟨hlen, .inr ⟨g, cap, _, rfl, hbg, setRow_heap w g cur _ e _ hg, hroom, hcm, ?_, ?_⟩⟩, ⟨rfl, rfl, rfl, by simp, fun k _ hk => setRow_other w g k _ (fun e => hk (by simp [Value.ownBlock, e]))⟩, by simp, by simp, .inl rfl⟩
      · simp only [List.size_toArray, List.length_append, List.length_take, List.length_drop, Array.length_toList]
        omega
      · rw [htake, ← hlen]
        exact List.take_left
    · have holds : ∀ j u, xs[j]? = some u → w.cell? ((⟨g, 0, none⟩ : Addr).add j) = some u := hown.cells (g := g) rfl
      have hr := run_append_grow (P := P) w t ty' e i z ht hi hz ⟨g, 0, none⟩ m0 cap xs hown.1 holds ad m c news hl hnews (by omega) (by omega) (growslice_fits (by omega) hbytes)
      have hgr := grown cap (by omega) (Value.ownBlock (.slice (some ⟨g, 0, none⟩) m0 cap))
      exact ⟨_, _, hr, hgr.1, hgr.2, by simp, Nat.le_succ _, .inr ⟨_, rfl, Nat.le_refl _⟩⟩
def Cells (h : View) (L : List Res) (ad : Addr) (vs : List Value) : Prop := ∀ w, Hd h L w → ∀ j u, vs[j]? = some u → w.cell? (ad.add j) = some u
theorem yaz {b : Nat} {cs : Array Value} {e : TypeId} {fz : Nat × Nat} (k : Nat) (hk : L[k]? = some (Res.blk b (.cells cs e fz))) : Cells h L ⟨b, 0, none⟩ cs.toList := fun w s j u hj => by
  have := s.own _ (List.mem_of_getElem? hk)
  have hb : w.heap[b]? = some (.cells cs e fz) := this
  rw [Addr.add_off]
  simp only [Array.getElem?_toList] at hj
  simp [World.cell?, hb, hj]
theorem rx_append {g : Rg} {i : Nat} {r : List (Nat × Oper)} {T e : Nat} {x y : Operand} {z v : Value} {sz by' m0 m c : Nat} {ad : Addr} {xs news : List Value} (k : Nat) [tu : TyU P T (.slice e)] [tb : TyB P e z sz by'] (hx : ev F x = some v) (hy : ev F y = some (.slice (some ad) m c))
    (hk : L[k]? = some (Res.row e sz v m0 xs)) (hnews : Cells h L ad news) (hl : news.length = m * sz) (h1 : ∀ u ∈ news, u.oneCell' = true) (hzs : z.cells.size = sz) (hsz : 0 < sz) (h63 : m0 + m ≤ maxLen) (hbytes : (m0 + m) * by' ≤ 140737488355328)
    (hw : wantedF g.ops F ⟨dst, .call ⟨.builtin .append, #[x, y], #[T, T]⟩, ty, pos, af, gd⟩ = some true) (hd : okd n dst = true) (hlo : g.lo i = true) (o1 : Owe g i h L)
    (o2 : ∀ v', Owe g i h (L.set k (Res.row e sz v' (m0 + m) (xs ++ news))))
    (hn : ∀ v', (v' = .slice none 0 0 ↔ v = .slice none 0 0 ∧ m = 0) → RX P n K g r (putF dst v' F) h (L.set k (Res.row e sz v' (m0 + m) (xs ++ news))) Q) :
    RX P n K g ((i, ⟨dst, .call ⟨.builtin .append, #[x, y], #[T, T]⟩, ty, pos, af, gd⟩) :: r) F h L Q := by
  unfold RX at *
  intro a w f s
  have hown : w.ownsRow 0 e sz v m0 xs := s.hd.own _ (List.mem_of_getElem? hk)
  obtain ⟨v', w', hrun, how', hgr, hnil, hdr, hblk⟩ := run_append_ck (P := P) T ty e tu.u tb hzs hsz v m0 xs hown ad m c news hl (hnews w s.hd) h1 h63 hbytes
  have s' : St K h (L.set k (Res.row e sz v' (m0 + m) (xs ++ news))) w' := by
    refine s.swap hk hgr.os hgr.tape hgr.output hdr hgr.size (fun j hj hjd => hgr.block j hj (fun hh => hjd ?_)) how' ?_ (fun b hb => ?_)
    · show j ∈ v.ownBlock.toList
      rw [← hh]; simp
    · show v'.ownBlock.toList.Nodup
      cases v'.ownBlock <;> simp
    · have hb : v'.ownBlock = some b := by simpa [Res.row] using hb
      rcases hblk with hh | ⟨b', hh, hge⟩
      · refine .inl ?_
        show b ∈ v.ownBlock.toList
        rw [← hh, hb]; simp
      · rw [hb] at hh; cases hh; exact .inr hge
  refine .inr (.inr ⟨wantedF_ok f hw, hlo, o1.out s, ?_⟩)
  unfold Oper.wp
  have : (execOp a.eval ⟨dst, .call ⟨.builtin .append, #[x, y], #[T, T]⟩, ty, pos, af, gd⟩).run P w = .ok (.value v') w' := by
    simp [execOp, resolve, invoke, builtin, f.ev hx, f.ev hy, hrun]
  rw [this]
  exact ⟨(o2 v').out s', hn v' hnil _ _ (f.put hd v') s'⟩
def fillL (place : Nat → Option (Nat × Nat)) (cells : List Value) : List (Nat × Value) → Option (List Value)
  | [] => some cells
  | (i, v) :: rest => match place i with
    | none => none
    | some (off, size) => if v.cells.size ≠ size || off + v.cells.size > cells.length then none else fillL place (spl cells off v.cells.toList) rest
theorem foldl_set (vs : List Value) : ∀ (k off : Nat) (cells : Array Value), off + k + vs.length ≤ cells.size →
    ((vs.zipIdx k).foldl (fun cs (cj : Value × Nat) => cs.setIfInBounds (off + cj.2) cj.1) cells) = (spl cells.toList (off + k) vs).toArray := by
  induction vs with
  | nil => intro k off cells hl; simp [spl]
  | cons v vs ih =>
    intro k off cells hl
    simp only [List.length_cons] at hl
    simp only [List.zipIdx_cons, List.foldl_cons]
    rw [ih (k + 1) off _ (by simp; omega)]
    congr 1
    simp only [spl, Array.toList_setIfInBounds]
    have h1 : off + k < cells.toList.length := by simp; omega
    rw [← Nat.add_assoc, List.take_set, List.drop_set_of_lt (by omega), List.take_add_one, List.set_append]
    simp only [List.length_take, List.length_cons]
    rw [if_neg (by omega)]
    have h2 : off + k - min (off + k) cells.toList.length = 0 := by omega
    rw [h2, List.getElem?_eq_getElem h1]
    simp only [Option.toList_some, List.set_cons_zero]
    have h3 : off + k + 1 + vs.length = off + k + (vs.length + 1) := by omega
    rw [h3]
    simp [List.append_assoc]
theorem fill_eq (place : Nat → Option (Nat × Nat)) : ∀ (ps : List (Nat × Value)) (cells : Array Value), (Instr.fill place cells ps) = (fillL place cells.toList ps).map List.toArray
  | [], cells => by simp [Instr.fill, fillL]
  | (i, v) :: rest, cells => by
    simp only [Instr.fill, fillL]
    cases hp : place i with
    | none => rfl
    | some os =>
      obtain ⟨off, size⟩ := os
      simp only [Array.length_toList]
      split
      · rfl
      · rename_i hc
        simp only [Bool.or_eq_true, decide_eq_true_eq, not_or, Nat.not_lt] at hc
        have hfold : (v.cells.zipIdx.foldl (fun cs (x : Value × Nat) => cs.setIfInBounds (off + x.2) x.1) cells) = (spl cells.toList off v.cells.toList).toArray := by
          have := foldl_set v.cells.toList 0 off cells (by simpa using hc.2)
          rw [← Array.foldl_toList, Array.toList_zipIdx]
          simpa using this
        rw [fill_eq place rest]
        congr 2
        exact congrArg Array.toList hfold
end
end Go.Ck
end

section
namespace Go.Ck
open Go
section
variable {P : Program} {n : Nat} {K : Bs} {F : List (Nat × Value)} {h : View} {L : List Res} {Q : Exit → Act → World → Prop}
variable {dst : Option Nat} {ty : Nat} {pos : String} {af : Array Edge} {gd : Option (Nat × Bool)}
def Sc (h : View) (k : Nat) (v : Value) (m : Nat) (xs : List Value) : Prop :=
  xs.length = m * k ∧ ∃ ad cap, v = .slice ad m cap ∧ m ≤ cap ∧ (xs = [] ∨ ∃ b o cs e fz, ad = some ⟨b, o, none⟩ ∧ h b = some (.cells cs e fz) ∧ ∀ j u, xs[j]? = some u → cs[o + j]? = some u)
theorem Sc.mono {h h' : View} {k m : Nat} {v : Value} {xs : List Value} (s : Sc h k v m xs) (hl : Le h h') : Sc h' k v m xs := by
  obtain ⟨h1, ad, cap, h2, h3, h4⟩ := s
  refine ⟨h1, ad, cap, h2, h3, h4.imp id ?_⟩
  rintro ⟨b, o, cs, e, fz, q1, q2, q3⟩
  exact ⟨b, o, cs, e, fz, q1, hl _ _ q2, q3⟩
theorem Sc.nil (h : View) (k : Nat) (ad : Option Addr) (cap : Nat) : Sc h k (.slice ad 0 cap) 0 [] := ⟨by simp, ad, cap, rfl, Nat.zero_le _, .inl rfl⟩
theorem cell_at {b o : Nat} {v : Value} (hx : ∀ w, Hd h L w → w.cell? ⟨b, o, none⟩ = some v) : CellAt h L b o v := by unfold CellAt; exact hx
theorem cell_at_out {b o : Nat} {v : Value} (hx : CellAt h L b o v) : ∀ w, Hd h L w → w.cell? ⟨b, o, none⟩ = some v := by unfold CellAt at hx; exact hx
theorem Cells.cell {b o : Nat} {vs : List Value} (c : Cells h L ⟨b, o, none⟩ vs) {j : Nat} {u : Value} (hj : vs[j]? = some u) : CellAt h L b (o + j) u := cell_at fun w s => by
  have := c w s j u hj
  rwa [Addr.add_off] at this
theorem Cells.cell0 {b o : Nat} {u : Value} {vs : List Value} (c : Cells h L ⟨b, o, none⟩ (u :: vs)) : CellAt h L b o u := c.cell (j := 0) rfl
theorem Cells.drop {b o : Nat} {vs : List Value} (c : Cells h L ⟨b, o, none⟩ vs) (j : Nat) : Cells h L ⟨b, o + j, none⟩ (vs.drop j) := fun w s i u hi => by
  rw [List.getElem?_drop] at hi
  have := c w s (j + i) u hi
  rw [Addr.add_off] at this ⊢
  rwa [Nat.add_assoc]
theorem Cells.take {ad : Addr} {vs : List Value} (c : Cells h L ad vs) (j : Nat) : Cells h L ad (vs.take j) := fun w s i u hi => by
  rw [List.getElem?_take] at hi
  split at hi
  · exact c w s i u hi
  · cases hi
theorem Sc.cells {k m cap b o : Nat} {xs : List Value} (s : Sc h k (.slice (some ⟨b, o, none⟩) m cap) m xs) : Cells h L ⟨b, o, none⟩ xs := fun w hd j u hj => by
  obtain ⟨h1, ad, cap', h2, h3, h4⟩ := s
  cases h2
  rcases h4 with rfl | ⟨b', o', cs, e, fz, q1, q2, q3⟩
  · simp at hj
  · cases q1
    have := hd.view _ _ q2
    rw [Addr.add_off]
    simp [World.cell?, this, q3 j u hj]
theorem Sc.ad {k m cap : Nat} {ad : Option Addr} {xs : List Value} (s : Sc h k (.slice ad m cap) m xs) (hm : 0 < m) (hk : 0 < k) : ∃ b o, ad = some ⟨b, o, none⟩ := by
  obtain ⟨h1, ad', cap', h2, h3, h4⟩ := s
  cases h2
  rcases h4 with rfl | ⟨b, o, _, _, _, q1, _⟩
  · simp only [List.length_nil] at h1
    rcases Nat.mul_eq_zero.1 h1.symm with h | h <;> omega
  · exact ⟨b, o, q1⟩
theorem run_loadFrom_cells {ad : Addr} {vs : List Value} {w : World} : ∀ (k i : Nat) (acc : Array Value), i + k = vs.length → (∀ j u, vs[j]? = some u → w.cell? (ad.add j) = some u) → (loadCellsFrom ad i k acc).run P w = .ok (acc ++ (vs.drop i).toArray) w
  | 0, i, acc, hk, hc => by
    have : vs.drop i = [] := List.drop_eq_nil_of_le (by omega)
    simp [loadCellsFrom, this]
  | k + 1, i, acc, hk, hc => by
    have hlt : i < vs.length := by omega
    have hl : (load (ad.add i)).run P w = .ok vs[i] w := by simp [load, Sem.run, hc i vs[i] (by simp [hlt])]
    simp only [loadCellsFrom, Sem.run_bind, hl, Result.andThen_ok]
    rw [run_loadFrom_cells k (i + 1) _ (by omega) hc]
    rw [List.drop_eq_getElem_cons hlt]
    simp
theorem run_loadCells_cells {ad : Addr} {vs : List Value} {w : World} (hc : ∀ j u, vs[j]? = some u → w.cell? (ad.add j) = some u) : (loadCells ad vs.length).run P w = .ok vs.toArray w := by
  have := run_loadFrom_cells (P := P) (w := w) vs.length 0 #[] (by simp) hc
  simpa [loadCells] using this
theorem yad {T : Nat} {x : Operand} {ad : Addr} {k : Nat} {vs : List Value} [ta : TyA P T true] [ts : TyS P T k] (hx : ev F x = some (.pointer (some ad))) (hc : Cells h L ad vs) (hk : vs.length = k) :
    QV P n F h L ⟨dst, .load T x, ty, pos, af, gd⟩ (.agg vs.toArray) := .mk fun a w f s => by
  subst hk
  simp [execOp, f.ev hx, Instr.loadAt, Instr.sureAddr, loadVar, ta.a, ts.s, run_loadCells_cells (P := P) (hc w s)]
theorem rv_cells {T s k : Nat} {ad : Addr} {vs : List Value} [ta : TyA P T true] [ts : TyS P T k] (hx : lk F s = some (.pointer (some ad))) (hc : Cells h L ad vs) (hk : vs.length = k) :
    RV P F h L (.cell s T) (.agg vs.toArray) := ⟨ad, hx, fun w hd => by subst hk; simp [loadVar, ta.a, ts.s, run_loadCells_cells (P := P) (hc w hd)]⟩
theorem flat_len {α : Type} {enc : α → List Value} {k : Nat} (hk : ∀ x, (enc x).length = k) (l : List α) : (l.flatMap enc).length = l.length * k := by
  induction l with
  | nil => simp
  | cons x l ih => simp [hk, ih, Nat.add_mul, Nat.add_comm]
theorem flat_at {α : Type} {enc : α → List Value} {k : Nat} (hk : ∀ x, (enc x).length = k) : ∀ (l : List α) (i : Nat) (hi : i < l.length), ((l.flatMap enc).drop (i * k)).take k = enc l[i]
  | x :: l, 0, _ => by simp [hk]
  | x :: l, i + 1, hi => by
    have h1 : (i + 1) * k = (enc x).length + i * k := by rw [hk, Nat.add_mul]; omega
    simp only [List.flatMap_cons, h1, List.drop_append, List.getElem_cons_succ]
    have h2 : List.drop ((enc x).length + i * k) (enc x) = [] := List.drop_eq_nil_of_le (by omega)
    rw [h2, List.nil_append, Nat.add_sub_cancel_left]
    exact flat_at hk l i (by simpa using hi)
theorem Sc.elem {α : Type} {enc : α → List Value} {k cap b o : Nat} {l : List α} (hk : ∀ x, (enc x).length = k) (s : Sc h k (.slice (some ⟨b, o, none⟩) l.length cap) l.length (l.flatMap enc)) (i : Nat) (hi : i < l.length) : Cells h L ⟨b, o + i * k, none⟩ (enc l[i]) := by
  have := ((s.cells (L := L)).drop (i * k)).take k
  rwa [flat_at hk l i hi] at this
theorem row_cells {e : TypeId} {sz m cap g : Nat} {xs : List Value} (k : Nat) (hk : L[k]? = some (Res.row e sz (.slice (some ⟨g, 0, none⟩) m cap) m xs)) : Cells h L ⟨g, 0, none⟩ xs := fun w s j u hj => by
  have ho : w.ownsRow 0 e sz (.slice (some ⟨g, 0, none⟩) m cap) m xs := s.own _ (List.mem_of_getElem? hk)
  exact ho.cells (g := g) rfl j u hj
theorem rx_rowform {g : Rg} {prs : List (Nat × Oper)} {e : TypeId} {sz m : Nat} {v : Value} {xs : List Value} (k : Nat) (hk : L[k]? = some (Res.row e sz v m xs)) (h1 : v = .slice Option.none 0 0 → m = 0 → xs = [] → RX P n K g prs F h L Q) (h2 : ∀ g' cap, v = .slice (some ⟨g', 0, Option.none⟩) m cap → RX P n K g prs F h L Q) : RX P n K g prs F h L Q := by
  unfold RX at *
  intro a w f s
  have ho : w.ownsRow 0 e sz v m xs := s.hd.own _ (List.mem_of_getElem? hk)
  rcases ho.2 with ⟨q1, q2⟩ | ⟨g, cap, cur, q1, _⟩
  · exact h1 q1 q2 (List.eq_nil_of_length_eq_zero (by rw [ho.1, q2]; simp)) a w f s
  · exact h2 g cap q1 a w f s
theorem St.rowPersist {e : TypeId} {k m : Nat} {v : Value} {xs : List Value} {w : World} (s : St K h (Res.row e k v m xs :: L) w) (hA : K.A = []) : ∃ h', Le h h' ∧ Sc h' k v m xs ∧ St K h' L w := by
  have ho : w.ownsRow 0 e k v m xs := s.hd.own _ (List.mem_cons_self ..)
  rcases ho.2 with ⟨rfl, rfl⟩ | ⟨g, cap, cur, rfl, _, hg, hn, _, hcs, htake⟩
  · have : xs = [] := List.eq_nil_of_length_eq_zero (by rw [ho.1]; simp)
    subst this
    exact ⟨h, Le.refl h, Sc.nil h k Option.none 0, s.tl⟩
  · have hd : doms (Res.row e k (.slice (some ⟨g, 0, Option.none⟩) m cap) m xs :: L) = doms (Res.blk g (.cells cur e (0, 0)) :: L) := by simp [doms_cons, Res.row, Res.blk, Value.ownBlock]
    have s2 : St K h (Res.blk g (.cells cur e (0, 0)) :: L) w := ⟨s.os, s.tape, s.output, s.drawn, s.size, s.keep, ⟨s.hd.view, fun r hr => by
      rcases List.mem_cons.1 hr with rfl | hr
      · exact hg
      · exact s.hd.own r (List.mem_cons_of_mem _ hr)⟩, by rw [← hd]; exact s.nd, fun b hb => s.src b (by rw [hd]; exact hb), s.grow, s.new, fun b hb => s.dis b (by rw [hd]; exact hb)⟩
    refine ⟨addV h g (.cells cur e (0, 0)), Le.addV (s2.dis g (by rw [doms_cons]; exact List.mem_append_left _ (List.mem_singleton.2 rfl))), ⟨ho.1, some ⟨g, 0, Option.none⟩, cap, rfl, hn, .inr ⟨g, 0, cur, e, (0, 0), rfl, addV_same, fun j u hj => ?_⟩⟩, s2.persist hA⟩
    rw [← htake, List.getElem?_take] at hj
    split at hj
    · simpa using hj
    · cases hj
theorem cx_persist {c : Code} {e : TypeId} {sz m : Nat} {v : Value} {xs : List Value} (hA : K.A = []) (hx : ∀ h', Le h h' → Sc h' sz v m xs → CX P n K c F h' L Q) : CX P n K c F h (Res.row e sz v m xs :: L) Q := by
  unfold CX at *
  intro a w f s
  obtain ⟨h', h1, h2, h3⟩ := s.rowPersist hA
  exact hx h' h1 h2 a w f h3
theorem rx_persist {g : Rg} {prs : List (Nat × Oper)} {e : TypeId} {sz m : Nat} {v : Value} {xs : List Value} (hA : K.A = []) (hx : ∀ h', Le h h' → Sc h' sz v m xs → RX P n K g prs F h' L Q) : RX P n K g prs F h (Res.row e sz v m xs :: L) Q := by
  unfold RX at *
  intro a w f s
  obtain ⟨h', h1, h2, h3⟩ := s.rowPersist hA
  exact hx h' h1 h2 a w f h3
def partsF (F : List (Nat × Value)) : List (Nat × Operand) → Option (List (Nat × Value))
  | [] => some []
  | (i, x) :: r => match ev F x, partsF F r with
    | some v, some vs => some ((i, v) :: vs)
    | _, _ => none
theorem partsF_ok {a : Act} (f : Fr n F a) : ∀ (l : List (Nat × Operand)) (ps : List (Nat × Value)), partsF F l = some ps → l.map (fun (p : Nat × Operand) => (p.1, a.eval p.2)) = ps
  | [], ps, hp => by simp [partsF] at hp; subst hp; rfl
  | (i, x) :: r, ps, hp => by
    simp only [partsF] at hp
    split at hp
    · rename_i v vs h1 h2
      cases hp
      simp [f.ev h1, partsF_ok f r vs h2]
    · cases hp
class TyP (P : Program) (T : Nat) (pl : outParam (List (Nat × Nat))) : Prop where
  p : ∃ fs : Array Field, P.underlying T = some (.struct fs) ∧ ∀ w, (fs.mapM fun f => do pure (f.offset, ← sizeOf f.type) : Sem (Array (Nat × Nat))).run P w = .ok pl.toArray w
theorem yax {T : Nat} {parts : Array (Nat × Operand)} {pl : List (Nat × Nat)} {z : Value} {ps : List (Nat × Value)} {cs : List Value} [tp : TyP P T pl] [tz : TyZ P T z] (hp : partsF F parts.toList = some ps) (hc : fillL (fun i : Nat => pl[i]?) z.cells.toList ps = some cs) :
    QV P n F h L ⟨dst, .build T parts, ty, pos, af, gd⟩ (.agg cs.toArray) := .mk fun a w f s => by
  obtain ⟨fs, h1, h2⟩ := tp.p
  have h3 := partsF_ok f _ _ hp
  have h4 : (parts.map (fun (p : Nat × Operand) => (p.1, a.eval p.2))).toList = ps := by rw [Array.toList_map]; exact h3
  have h5 : Instr.fill (fun i : Nat => pl.toArray[i]?) z.cells ps = some cs.toArray := by
    rw [fill_eq]
    have : (fun i : Nat => pl.toArray[i]?) = (fun i : Nat => pl[i]?) := by funext i; simp
    rw [this, hc]; rfl
  simp only [execOp, Sem.run_bind, Instr.build, tz.z, Result.andThen_ok, run_underlying h1, h2, h4, h5]
  rfl
def zerosL (z : List Value) (m : Nat) : List Value := (List.range m).map fun j => z[j % z.length]!
theorem ybd {T e sz len : Nat} {parts : Array (Nat × Operand)} {z : Value} {ps : List (Nat × Value)} {cs : List Value} [tu : TyU P T (.slice e)] [ts : TyS P e sz] [tz : TyZ P e z] (hlen : Nat.ble (len * sz) 16777216 = true) (hpos : Nat.beq (len * sz) 0 = false)
    (hp : partsF F parts.toList = some ps) (hc : fillL (fun i => some (i * sz, sz)) (zerosL z.cells.toList (len * sz)) ps = some cs) :
    MA P n F h L ⟨dst, .buildSlice T len parts, ty, pos, af, gd⟩ (fun b => .slice (some ⟨b, 0, none⟩) len len) (.cells cs.toArray e) := .mk fun a w f s => by
  have hlen : ¬ (len * sz > 2 ^ 24) := by have := Nat.le_of_ble_eq_true hlen; omega
  have hpos : ¬ (len * sz = 0) := fun e => by rw [e] at hpos; simp at hpos
  have h3 := partsF_ok f _ _ hp
  have h4 : (parts.map (fun (p : Nat × Operand) => (p.1, a.eval p.2))).toList = ps := by rw [Array.toList_map]; exact h3
  have h5 : Instr.fill (fun i => some (i * sz, sz)) ((Array.range (len * sz)).map (fun j => z.cells[j % z.cells.size]!)) ps = some cs.toArray := by
    rw [fill_eq]
    have : ((Array.range (len * sz)).map (fun j => z.cells[j % z.cells.size]!)).toList = zerosL z.cells.toList (len * sz) := by
      simp only [Array.toList_map, Array.toList_range, zerosL, Array.length_toList]
      refine List.map_congr_left fun j _ => ?_
      simp [getElem!_def]
    rw [this, hc]; rfl
  simp only [execOp, Sem.run_bind, Instr.buildSlice, run_underlying tu.u, Result.andThen_ok, ts.s, hlen, if_false, hpos, tz.z, h4, Sem.run_pure, h5, newRow, newObj, Sem.run]
  rfl
theorem ybe {sz : Nat} {z : List Value} {v : Value} (hz : z.length = sz) (hv : v.cells.size = sz) : fillL (fun i => some (i * sz, sz)) z [(0, v)] = some v.cells.toList := by
  simp only [fillL, hv, Nat.zero_mul, Nat.zero_add, hz]
  rw [if_neg (by simp)]
  congr 1
  exact ybh (by simp [hv, hz])
theorem yau {fn : Fn} {first captured : Array Operand} {a1 a2 : List Value} (h1 : evs F first.toList = some a1) (h2 : evs F captured.toList = some a2) : QV P n F h L ⟨dst, .makeFunc fn first captured, ty, pos, af, gd⟩ (.func fn a1.toArray a2.toArray) := .mk fun a w f s => by
  have key : ∀ (xs : Array Operand) (vs : List Value), evs F xs.toList = some vs → xs.map a.eval = vs.toArray := by
    intro xs vs hv
    apply Array.ext'
    rw [Array.toList_map]
    exact evs_ok f _ _ hv
  simp [execOp, Instr.makeFunc, key _ _ h1, key _ _ h2]
end
end Go.Ck
end

section
namespace Go.Ck
open Go
theorem goes_none {P : Program} (h : (P.funcs.toList.all fun f => !f.goes) = true) (f : FuncId) : P.goes f = false := by
  have h1 : ∀ fn ∈ P.funcs, fn.goes = false := fun fn hf => by
    have := List.all_eq_true.1 h fn (Array.mem_toList_iff.2 hf)
    simpa using this
  unfold Program.goes
  rw [Bool.or_eq_false_iff]
  refine ⟨?_, ?_⟩
  · rw [Bool.eq_false_iff]
    intro hx
    rw [List.any_eq_true] at hx
    obtain ⟨g, _, hg⟩ := hx
    cases e : P.funcs[g]? with
    | none => rw [e] at hg; cases hg
    | some fn =>
      rw [e] at hg
      have hm : fn ∈ P.funcs := Array.mem_of_getElem? e
      have := h1 fn hm
      simp [this] at hg
  · have : P.funcs.any Func.goes = false := by
      rw [Bool.eq_false_iff]
      intro hx
      rw [Array.any_eq_true'] at hx
      obtain ⟨fn, hm, hg⟩ := hx
      rw [h1 fn hm] at hg
      cases hg
    rw [this, Bool.and_false]
theorem goesBy_none {P : Program} {c : OpenClaim} (hs : c.start = .entering) (h : (P.funcs.toList.all fun f => !f.goes) = true) : false = c.goesBy P := by
  unfold OpenClaim.goesBy Program.goesAt Program.goesFrom
  rw [hs]
  cases e : P.funcNamed c.func with
  | none => rfl
  | some f =>
    show false = (P.goes f || false)
    rw [goes_none h f]
    rfl
end Go.Ck
end

section
namespace Go.Ck
open Go
section
variable {P : Program} {n : Nat} {K : Bs} {F : List (Nat × Value)} {h : View} {L : List Res} {Q : Exit → Act → World → Prop}
variable {dst : Option Nat} {ty : Nat} {pos : String} {af : Array Edge} {gd : Option (Nat × Bool)}
class TyG (P : Program) (T : Nat) : Prop where
  g : P.eqGuardType P.depth T = false
theorem run_eq_slnil {T e : Nat} {ad : Option Addr} {m c m' c' : Nat} {w : World} (hu : P.underlying T = some (.slice e)) : (Op.equal T (.slice ad m c) (.slice none m' c')).run P w = .ok ad.isNone w := by
  unfold Op.equal Op.maxDepth
  rw [Op.equalIn]
  simp only [Sem.run_bind, run_underlying hu, Result.andThen_ok]
  cases ad <;> simp
theorem qv_eql_slnil {T T' e : Nat} {x y : Operand} {ad : Option Addr} {m c m' c' : Nat} [tu : TyU P T (.slice e)] (hx : ev F x = some (.slice ad m c)) (hy : ev F y = some (.slice none m' c')) :
    QV P n F h L ⟨dst, .binOp .eql T x y T', ty, pos, af, gd⟩ (.bool ad.isNone) := .mk fun a w f s => by
  have hg : (eqGuard .eql T x y (.slice ad m c) (.slice none m' c')).run P w = .ok () w := by simp [eqGuard]
  simp only [execOp, f.ev hx, f.ev hy, Sem.run_bind, hg, Result.andThen_ok]
  have hb : (binOp .eql T (.slice ad m c) (.slice none m' c')).run P w = .ok (.bool ad.isNone) w := by
    simp only [binOp, Sem.run_bind, run_eq_slnil tu.u, Result.andThen_ok, Sem.run_pure]
  rw [hb]; rfl
theorem qv_slice_to {T e k : Nat} {x y : Operand} {ad : Option Addr} {len cap : Nat} {ki : IntKind} {i : Int} [tu : TyU P T (.slice e)] [ts : TyS P e k] (hx : ev F x = some (.slice ad len cap)) (hy : ev F y = some (.int ki i)) (h0 : 0 ≤ i) (h1 : i ≤ cap) :
    QV P n F h L ⟨dst, .slice T x none (some y) none, ty, pos, af, gd⟩ (.slice ad i.toNat cap) := .mk fun a w f s => by
  simp [execOp, f.ev hx, f.ev hy, Instr.sliceAt, Instr.slice, Instr.sliceBounds, Instr.sliceBound, asIntOf, run_underlying tu.u, h0, h1, ts.s]
  intro hc
  cases ad with
  | none => rfl
  | some ad => simp [Addr.add]
theorem St.rowOf {b : Nat} {cs : Array Value} {e : TypeId} {k m cap : Nat} {w : World} (s : St K h (Res.blk b (.cells cs e (0, 0)) :: L) w) (hm : m ≤ cap) (hc : cap ≤ maxLen) (hs : cs.size = cap * k) : St K h (Res.row e k (.slice (some ⟨b, 0, none⟩) m cap) m (cs.toList.take (m * k)) :: L) w := by
  have hd : doms (Res.row e k (.slice (some ⟨b, 0, Option.none⟩) m cap) m (cs.toList.take (m * k)) :: L) = doms (Res.blk b (.cells cs e (0, 0)) :: L) := by simp [doms_cons, Res.row, Res.blk, Value.ownBlock]
  have hb : w.heap[b]? = some (.cells cs e (0, 0)) := s.hd.own _ (List.mem_cons_self ..)
  exact ⟨s.os, s.tape, s.output, s.drawn, s.size, s.keep, ⟨s.hd.view, fun r hr => by
    rcases List.mem_cons.1 hr with rfl | hr
    · refine ⟨?_, .inr ⟨b, cap, cs, rfl, Nat.zero_le _, hb, hm, hc, hs, rfl⟩⟩
      have : m * k ≤ cap * k := Nat.mul_le_mul_right _ hm
      simp; omega
    · exact s.hd.own r (List.mem_cons_of_mem _ hr)⟩, by rw [hd]; exact s.nd, fun b hb => s.src b (by rw [← hd]; exact hb), s.grow, s.new, fun b hb => s.dis b (by rw [← hd]; exact hb)⟩
theorem rx_rowOf {g : Rg} {prs : List (Nat × Oper)} {b : Nat} {cs : Array Value} {e : TypeId} (k m cap : Nat) (hm : m ≤ cap) (hc : cap ≤ maxLen) (hs : cs.size = cap * k) (hx : RX P n K g prs F h (Res.row e k (.slice (some ⟨b, 0, none⟩) m cap) m (cs.toList.take (m * k)) :: L) Q) :
    RX P n K g prs F h (Res.blk b (.cells cs e (0, 0)) :: L) Q := by
  unfold RX at *
  exact fun a w f s => hx a w f (s.rowOf hm hc hs)
theorem ma_buildSlice0 {T e sz : Nat} [tu : TyU P T (.slice e)] [ts : TyS P e sz] : MA P n F h L ⟨dst, .buildSlice T 0 #[], ty, pos, af, gd⟩ (fun b => .slice (some ⟨b, 0, none⟩) 0 0) (.cells #[] e) := .mk fun a w f s => by
  simp [execOp, Instr.buildSlice, run_underlying tu.u, ts.s, Instr.fill, newRow, newObj, Sem.run]
  have : Array.map (fun _ : Nat => (default : Value)) (Array.range 0) = #[] := by apply Array.ext'; simp
  rw [this]
theorem Sc.src {k m cap : Nat} {ad : Option Addr} {xs : List Value} (s : Sc h k (.slice ad m cap) m xs) : (xs = [] ∧ m * k = 0) ∨ ∃ b o, ad = some ⟨b, o, none⟩ ∧ Cells h L ⟨b, o, none⟩ xs := by
  have s' := s
  obtain ⟨h1, ad', cap', h2, h3, h4⟩ := s'
  cases h2
  rcases h4 with rfl | ⟨b, o, _, _, _, rfl, _⟩
  · exact .inl ⟨rfl, by simpa using h1.symm⟩
  · exact .inr ⟨b, o, rfl, s.cells⟩
theorem rx_append_sc {g : Rg} {i : Nat} {r : List (Nat × Oper)} {T e : Nat} {x y : Operand} {z v : Value} {sz by' m0 m c : Nat} {ad : Option Addr} {xs news : List Value} (k : Nat) [tu : TyU P T (.slice e)] [tb : TyB P e z sz by'] (hx : ev F x = some v) (hy : ev F y = some (.slice ad m c))
    (hk : L[k]? = some (Res.row e sz v m0 xs)) (hnews : Sc h sz (.slice ad m c) m news) (h1 : ∀ u ∈ news, u.oneCell' = true) (hzs : z.cells.size = sz) (hsz : 0 < sz) (h63 : m0 + m ≤ maxLen) (hbytes : (m0 + m) * by' ≤ 140737488355328)
    (hw : wantedF g.ops F ⟨dst, .call ⟨.builtin .append, #[x, y], #[T, T]⟩, ty, pos, af, gd⟩ = some true) (hd : okd n dst = true) (hlo : g.lo i = true) (o1 : Owe g i h L)
    (o2 : ∀ v', Owe g i h (L.set k (Res.row e sz v' (m0 + m) (xs ++ news))))
    (hn : ∀ v', (v' = .slice none 0 0 ↔ v = .slice none 0 0 ∧ m = 0) → RX P n K g r (putF dst v' F) h (L.set k (Res.row e sz v' (m0 + m) (xs ++ news))) Q) :
    RX P n K g ((i, ⟨dst, .call ⟨.builtin .append, #[x, y], #[T, T]⟩, ty, pos, af, gd⟩) :: r) F h L Q := by
  have hl : news.length = m * sz := hnews.1
  rcases hnews.src (L := L) with ⟨rfl, hm⟩ | ⟨b, o, rfl, hc⟩
  · have hm : m = 0 := by
      rcases Nat.mul_eq_zero.1 hm with h | h
      · exact h
      · omega
    subst hm
    cases ad with
    | some ad => exact rx_append k hx hy hk (fun w s j u hj => by simp at hj) (by simp) h1 hzs hsz h63 hbytes hw hd hlo o1 o2 hn
    | none =>
      have hset : L.set k (Res.row e sz v (m0 + 0) (xs ++ [])) = L := by
        have : Res.row e sz v (m0 + 0) (xs ++ []) = Res.row e sz v m0 xs := by simp
        rw [this]
        obtain ⟨hlt, he⟩ := List.getElem?_eq_some_iff.1 hk
        rw [← he]
        exact List.set_getElem_self hlt
      have hn' := hn v (by simp)
      rw [hset] at hn'
      unfold RX at *
      intro a w f s
      have hown : w.ownsRow 0 e sz v m0 xs := s.hd.own _ (List.mem_of_getElem? hk)
      obtain ⟨ii, hi, hz, hsize, hby⟩ := tb.ex
      refine .inr (.inr ⟨wantedF_ok f hw, hlo, o1.out s, ?_⟩)
      unfold Oper.wp
      have : (execOp a.eval ⟨dst, .call ⟨.builtin .append, #[x, y], #[T, T]⟩, ty, pos, af, gd⟩).run P w = .ok (.value v) w := by
        rcases hown.2 with ⟨rfl, rfl⟩ | ⟨g', cap, cur, rfl, _, _, hnc, _⟩
        · simp [execOp, resolve, invoke, builtin, f.ev hx, f.ev hy, Builtin.append_, run_underlying tu.u, sizeOf, typeInfo, hi, Builtin.lenOf, Builtin.firstCells]
        · simp [execOp, resolve, invoke, builtin, f.ev hx, f.ev hy, Builtin.append_, run_underlying tu.u, sizeOf, typeInfo, hi, Builtin.lenOf, Builtin.firstCells, hnc, storeCells]
      rw [this]
      exact ⟨o1.out s, hn' _ _ (f.put hd v) s⟩
  · exact rx_append k hx hy hk hc hl h1 hzs hsz h63 hbytes hw hd hlo o1 o2 hn
end
end Go.Ck
end

section
namespace Go.Ck
open Go
section
variable {P : Program} {n : Nat} {K : Bs} {F : List (Nat × Value)} {h : View} {L : List Res} {Q : Exit → Act → World → Prop}
theorem row_view {e : TypeId} {sz m : Nat} {v : Value} {xs : List Value} {w : World} (s : St K h L w) {k : Nat} (hk : L[k]? = some (Res.row e sz v m xs)) : ∃ h', Le h h' ∧ Sc h' sz v m xs ∧ St ⟨w, h', []⟩ h' [] w := by
  have ho : w.ownsRow 0 e sz v m xs := s.hd.own _ (List.mem_of_getElem? hk)
  rcases ho.2 with ⟨rfl, h0⟩ | ⟨g, cap, cur, rfl, _, hg, hn, hm, hs, ht⟩
  · subst h0
    have hx : xs = [] := List.eq_nil_of_length_eq_zero (by rw [ho.1]; simp)
    subst hx
    exact ⟨h, Le.refl h, Sc.nil h sz none 0, St.start (L := []) ⟨s.hd.view, fun r hr => (by cases hr)⟩ (by simp [doms]) (fun b hb => (by simp [doms] at hb))⟩
  · have hb0 : h g = none := s.dis g (mem_doms.2 ⟨_, List.mem_of_getElem? hk, by simp [Res.row, Value.ownBlock]⟩)
    refine ⟨addV h g (.cells cur e (0, 0)), Le.addV hb0, ⟨ho.1, some ⟨g, 0, none⟩, cap, rfl, hn, .inr ⟨g, 0, cur, e, (0, 0), rfl, addV_same, fun j u hj => ?_⟩⟩,
      St.start (L := []) ⟨fun b o hb => ?_, fun r hr => (by cases hr)⟩ (by simp [doms]) (fun b hb => (by simp [doms] at hb))⟩
    · rw [← ht, List.getElem?_take] at hj
      split at hj
      · simpa using hj
      · cases hj
    · unfold addV at hb
      split at hb
      · rename_i e; subst e; cases hb; exact hg
      · exact s.hd.view b o hb
theorem qv_nilCheck {dst : Option Nat} {ty : Nat} {pos : String} {af : Array Edge} {gd : Option (Nat × Bool)} {x : Operand} {ad : Addr} (hx : ev F x = some (.pointer (some ad))) : QV P n F h L ⟨dst, .nilCheck x, ty, pos, af, gd⟩ (.pointer (some ad)) := .mk fun a w f s => by
  simp [execOp, f.ev hx]
end
end Go.Ck
end

section
namespace Go.Ck
open Go
section
variable {P : Program} {n : Nat} {K : Bs} {F : List (Nat × Value)} {h : View} {L : List Res} {Q : Exit → Act → World → Prop}
variable {dst : Option Nat} {ty : Nat} {pos : String} {af : Array Edge} {gd : Option (Nat × Bool)}
theorem spl_len {xs vs : List Value} {o : Nat} (hf : o + vs.length ≤ xs.length) : (spl xs o vs).length = xs.length := by
  unfold spl
  simp only [List.length_append, List.length_take, List.length_drop]
  omega
theorem spl_take {xs vs : List Value} {o m : Nat} (hf : o + vs.length ≤ m) (hm : m ≤ xs.length) : (spl xs o vs).take m = spl (xs.take m) o vs := by
  unfold spl
  have h1 : (xs.take o).length = o := by simp; omega
  rw [List.take_take, Nat.min_eq_left (by omega), List.drop_take, List.append_assoc, List.append_assoc, List.take_append, h1, List.take_append]
  rw [List.take_of_length_le (by rw [h1]; omega), List.take_of_length_le (l := vs) (by omega)]
  congr 3
  omega
theorem rx_rowstore {g : Rg} {i : Nat} {r : List (Nat × Oper)} {T e : Nat} {x y : Operand} {b o sz sz' m cap : Nat} {v : Value} {xs : List Value} (k : Nat) [ts : TyS P T sz'] (hx : ev F x = some (.pointer (some ⟨b, o, none⟩))) (hy : ev F y = some v)
    (hk : L[k]? = some (Res.row e sz (.slice (some ⟨b, 0, none⟩) m cap) m xs)) (hsz : v.cells.size = sz') (hfit : o + v.cells.size ≤ m * sz) (h1 : v.cells.toList.all Value.oneCell' = true) {xs' : List Value} (hcs : spl xs o v.cells.toList = xs')
    (hw : wantedF g.ops F ⟨none, .store T x y, ty, pos, af, gd⟩ = some true) (hl : g.lo i = true) (o1 : Owe g i h L) (o2 : Owe g i h (L.set k (Res.row e sz (.slice (some ⟨b, 0, none⟩) m cap) m xs')))
    (hn : RX P n K g r F h (L.set k (Res.row e sz (.slice (some ⟨b, 0, none⟩) m cap) m xs')) Q) : RX P n K g ((i, ⟨none, .store T x y, ty, pos, af, gd⟩) :: r) F h L Q := by
  unfold RX at *
  intro a w f s
  subst hcs
  have h1 : ∀ u ∈ v.cells.toList, u.oneCell' = true := fun u hu => List.all_eq_true.1 h1 u hu
  have ho : w.ownsRow 0 e sz (.slice (some ⟨b, 0, none⟩) m cap) m xs := s.hd.own _ (List.mem_of_getElem? hk)
  obtain ⟨q0, q1 | ⟨g', cap', cur, q1, q2, q3, q4, q5, q6, q7⟩⟩ := ho
  · cases q1.1
  cases q1
  have hvl : v.cells.toList.length = v.cells.size := by simp
  have hms : m * sz ≤ cap * sz := Nat.mul_le_mul_right _ q4
  have hb : w.heap[b]? = some (.cells cur e (0, 0)) := q3
  have hrun : (execOp a.eval ⟨none, .store T x y, ty, pos, af, gd⟩).run P w = .ok .skip (w.setRow b (spl cur.toList o v.cells.toList).toArray) := by
    have hst := run_storeCells_at P b o e v.cells.toList 0 cur w hb (by simp; omega) h1
    simp only [Nat.add_zero] at hst
    simp [execOp, f.ev hx, f.ev hy, Instr.storeAt, Instr.sureAddr, storeVar, ts.s, hsz, hst, spl]
  have s' : St K h (L.set k (Res.row e sz (.slice (some ⟨b, 0, none⟩) m cap) m (spl xs o v.cells.toList))) (w.setRow b (spl cur.toList o v.cells.toList).toArray) := by
    refine s.swap hk rfl rfl rfl (by simp) (by simp) (fun j hj hjd => setRow_other w b j _ (fun e' => hjd ?_)) ⟨?_, .inr ⟨b, cap, _, rfl, Nat.zero_le _, setRow_heap w b cur _ e _ hb, q4, q5, ?_, ?_⟩⟩ ?_ (fun x hx => .inl ?_)
    · simp [Res.row, Value.ownBlock, e']
    · rw [spl_len (by rw [q0]; omega), q0]
    · simp only [List.size_toArray]
      rw [spl_len (by simp; omega)]
      simp [q6]
    · rw [← q7]
      exact spl_take (by omega) (by simp; omega)
    · simp [Res.row, Value.ownBlock]
    · have hx : x = b := by simpa [Res.row, Value.ownBlock] using hx
      subst hx
      simp [Res.row, Value.ownBlock]
  refine .inr (.inr ⟨wantedF_ok f hw, hl, o1.out s, ?_⟩)
  unfold Oper.wp
  rw [hrun]
  exact ⟨o2.out s', hn _ _ f s'⟩
def Res.part (g off : Nat) (v : Value) (vs : List Value) : Res where
  dom := [g]
  sat := fun w => ∀ j u, (v :: vs)[j]? = some u → w.cell? ⟨g, off + j, none⟩ = some u
  loc := fun w w' hh hs j u hj => by
    have := hs j u hj
    simp only [World.cell?] at this ⊢
    rw [hh g (by simp)]
    exact this
  lt := fun w hs b hb => by
    have hb : b = g := by simpa using hb
    subst hb
    have := hs 0 v rfl
    simp only [World.cell?] at this
    cases hg : w.heap[b]? with
    | none => rw [hg] at this; simp at this
    | some o => exact (Array.getElem?_eq_some_iff.1 hg).1
theorem part_cells {g off : Nat} {v : Value} {vs : List Value} (k : Nat) (hk : L[k]? = some (Res.part g off v vs)) : Cells h L ⟨g, off, none⟩ (v :: vs) := fun w s j u hj => by
  rw [Addr.add_off]
  exact s.own _ (List.mem_of_getElem? hk) j u hj
theorem rx_call_2 {g : Rg} {i : Nat} {dst : Option Nat} {op : Op} {ty : Nat} {pos : String} {af : Array Edge} {gd : Option (Nat × Bool)} {r : List (Nat × Oper)} {fn : FuncId} {args : Array Value} {X : Type} {v : X → Value} {hh : X → View} {LL : X → List Res} {p : X → Prop} {R1 R2 : Res} {Lr : List Res} (hc : CallOf P n F ⟨dst, op, ty, pos, af, gd⟩ fn args)
    (hsp : ∀ w, St ⟨w, h, doms [R1, R2]⟩ h [R1, R2] w → Calls P fn args w fun e w' => ∃ x, e = .returned (v x) ∧ St ⟨w, h, doms [R1, R2]⟩ (hh x) (LL x) w' ∧ p x)
    (hw : wantedF g.ops F ⟨dst, op, ty, pos, af, gd⟩ = some true) (hd : okd n dst = true) (hl : g.lo i = true) (h1 : Owe g i h (R1 :: R2 :: Lr)) (h2 : ∀ x, p x → Le h (hh x) → Owe g i (hh x) (LL x ++ Lr))
    (hx : ∀ x, p x → Le h (hh x) → RX P n K g r (putF dst (v x) F) (hh x) (LL x ++ Lr) Q) : RX P n K g ((i, ⟨dst, op, ty, pos, af, gd⟩) :: r) F h (R1 :: R2 :: Lr) Q := by
  unfold RX at *
  unfold CallOf at hc
  exact fun a w f s => .inr (.inr ⟨wantedF_ok f hw, hl, h1.imp (fun k => k w s.hd) id, by
    unfold Oper.wp
    rw [hc a w f]
    have s1 : St K h ([R1, R2] ++ Lr) w := s
    refine (hsp w (St.enter (Li := [R1, R2]) (Lr := Lr) s1)).mono fun e w' he => ?_
    obtain ⟨x, rfl, st, px⟩ := he
    have s' := St.leave (Li := [R1, R2]) (Lr := Lr) s1 st
    have hle : Le h (hh x) := st.grow
    exact ⟨(h2 x px hle).imp (fun k => k _ s'.hd) id, hx x px hle _ _ (f.put hd _) s'⟩⟩)
theorem st_lowerx {h h' : View} {w w' : World} {Lo : List Res} (hh : Hd h [] w') (hle : Le h h') (s : St ⟨w, h', []⟩ h' Lo w') : St ⟨w, h, []⟩ h Lo w' :=
  ⟨s.os, s.tape, s.output, s.drawn, s.size, s.keep, ⟨hh.view, s.hd.own⟩, s.nd, s.src, Le.refl h, fun _ _ hb => hb, fun b hb => by
    have := s.dis b hb
    cases hx : h b with
    | none => rfl
    | some o => rw [hle b o hx] at this; cases this⟩
theorem rx_call_lendx {g : Rg} {i : Nat} {dst : Option Nat} {op : Op} {ty : Nat} {pos : String} {af : Array Edge} {gd : Option (Nat × Bool)} {r : List (Nat × Oper)} {fn : FuncId} {args : Array Value} {X : Type} {u : X → Value} {LL : X → List Res} {e : TypeId} {sz m : Nat} {v : Value} {xs : List Value} (k : Nat) (hc : CallOf P n F ⟨dst, op, ty, pos, af, gd⟩ fn args)
    (hk : L[k]? = some (Res.row e sz v m xs))
    (hsp : ∀ h', Le h h' → Sc h' sz v m xs → ∀ w, St ⟨w, h', []⟩ h' [] w → Calls P fn args w fun e w' => ∃ x, e = .returned (u x) ∧ St ⟨w, h', []⟩ h' (LL x) w' ∧ True)
    (hw : wantedF g.ops F ⟨dst, op, ty, pos, af, gd⟩ = some true) (hd : okd n dst = true) (hl : g.lo i = true) (h1 : Owe g i h L) (h2 : ∀ x, Owe g i h (LL x ++ L))
    (hx : ∀ x, RX P n K g r (putF dst (u x) F) h (LL x ++ L) Q) : RX P n K g ((i, ⟨dst, op, ty, pos, af, gd⟩) :: r) F h L Q := by
  unfold RX at *
  unfold CallOf at hc
  exact fun a w f s => .inr (.inr ⟨wantedF_ok f hw, hl, h1.imp (fun k => k w s.hd) id, by
    unfold Oper.wp
    rw [hc a w f]
    obtain ⟨h', hle, hsc, s0⟩ := row_view s hk
    refine (hsp h' hle hsc w s0).mono fun e w' he => ?_
    obtain ⟨x, rfl, st, _⟩ := he
    have s' := St.leave (Li := []) (Lr := L) s (st_lowerx ⟨fun b o hb => st.hd.view b o (hle b o hb), fun r hr => (by cases hr)⟩ hle st)
    exact ⟨(h2 x).imp (fun k => k _ s'.hd) id, hx x _ _ (f.put hd _) s'⟩⟩)
end
end Go.Ck
end

section
namespace Go.Ck
open Go
section
variable {P : Program} {n : Nat} {F : List (Nat × Value)} {h : View} {L : List Res} {dst : Option Nat} {ty : Nat} {pos : String} {af : Array Edge} {gd : Option (Nat × Bool)}
theorem qv_convert_int {S D : Nat} {x : Operand} {us : TypeDesc} {kd ks : IntKind} {i : Int} [t1 : TyU P S us] [t2 : TyU P D (.int kd)] (hx : ev F x = some (.int ks i)) :
    QV P n F h L ⟨dst, .convert S D x, ty, pos, af, gd⟩ (.int kd (kd.wrap i)) := .mk fun a w f s => by
  simp [execOp, f.ev hx, convert, run_underlying t1.u, run_underlying t2.u, Conv.intToInt]
theorem qv_convert_int' {S D : Nat} {x : Operand} {us : TypeDesc} {kd ks : IntKind} {i r : Int} [t1 : TyU P S us] [t2 : TyU P D (.int kd)] (hx : ev F x = some (.int ks i)) (hr : kd.wrap i = r) :
    QV P n F h L ⟨dst, .convert S D x, ty, pos, af, gd⟩ (.int kd r) := by subst hr; exact qv_convert_int hx
theorem qv_rem {T T' : Nat} {x y : Operand} {k : IntKind} {i j : Int} (hx : ev F x = some (.int k i)) (hy : ev F y = some (.int k j)) (hj : j ≠ 0) :
    QV P n F h L ⟨dst, .binOp .rem T x y T', ty, pos, af, gd⟩ (.int k (i.tmod j)) := .mk fun a w f s => by
  simp [execOp, f.ev hx, f.ev hy, run_guard_int, binOp, Op.intDiv, hj]
end
end Go.Ck
end

section
namespace Go.Ck
open Go
section
variable {P : Program} {n : Nat} {K : Bs} {F : List (Nat × Value)} {h : View} {L : List Res} {Q : Exit → Act → World → Prop}
variable {dst : Option Nat} {ty : Nat} {pos : String} {af : Array Edge} {gd : Option (Nat × Bool)}
theorem run_guard_bool {op : BinOp} {T : Nat} {x y : Operand} {a b : Bool} {w : World} : (eqGuard op T x y (.bool a) (.bool b)).run P w = .ok () w := by
  unfold eqGuard
  by_cases hop : op = .eql ∨ op = .neq
  · rcases hop with rfl | rfl <;> simp
  · have : (!(op matches .eql | .neq)) = true := by cases op<;>first|rfl | exact absurd (Or.inl rfl) hop | exact absurd (Or.inr rfl) hop
    simp [this]
theorem qv_eql_bool {T T' : Nat} {x y : Operand} {a b t : Bool} [tu : TyU P T .bool] (hx : ev F x = some (.bool a)) (hy : ev F y = some (.bool b)) (ht : (a == b) = t) :
    QV P n F h L ⟨dst, .binOp .eql T x y T', ty, pos, af, gd⟩ (.bool t) := .mk fun ac w f s => by
  subst ht
  simp [execOp, f.ev hx, f.ev hy, run_guard_bool, binOp, run_equal_bool w T a b tu.u]
theorem qv_neq_bool {T T' : Nat} {x y : Operand} {a b t : Bool} [tu : TyU P T .bool] (hx : ev F x = some (.bool a)) (hy : ev F y = some (.bool b)) (ht : (!(a == b)) = t) :
    QV P n F h L ⟨dst, .binOp .neq T x y T', ty, pos, af, gd⟩ (.bool t) := .mk fun ac w f s => by
  subst ht
  simp [execOp, f.ev hx, f.ev hy, run_guard_bool, binOp, run_equal_bool w T a b tu.u]
end
end Go.Ck
end
