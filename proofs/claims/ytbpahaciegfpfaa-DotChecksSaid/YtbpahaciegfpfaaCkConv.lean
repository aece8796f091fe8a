/-
  CkConv: conversions of integers, remainders.
  Conditions: none.
-/
import Derived.Test.YtbpahaciegfpfaaCkMore
namespace Go.Ck
open Go
set_option linter.unusedVariables false
section
variable {P : Program} {n : Nat} {F : List (Nat × Value)} {h : View} {L : List Res} {dst : Option Nat} {ty : Nat} {pos : String} {af : Array Edge} {gd : Option (Nat × Bool)}
theorem qv_convert_int {S D : Nat} {x : Operand} {us : TypeDesc} {kd ks : IntKind} {i : Int} [t1 : TyU P S us] [t2 : TyU P D (.int kd)] (hx : ev F x = some (.int ks i)) :
    QV P n F h L ⟨dst, .convert S D x, ty, pos, af, gd⟩ (.int kd (kd.wrap i)) := .mk fun a w f s => by
  simp [execOp, f.ev hx, convert, run_underlying t1.u, run_underlying t2.u, Conv.intToInt]
theorem qv_convert_int' {S D : Nat} {x : Operand} {us : TypeDesc} {kd ks : IntKind} {i r : Int} [t1 : TyU P S us] [t2 : TyU P D (.int kd)] (hx : ev F x = some (.int ks i)) (hr : kd.wrap i = r) :
    QV P n F h L ⟨dst, .convert S D x, ty, pos, af, gd⟩ (.int kd r) := by subst hr; exact qv_convert_int hx
theorem qv_rem {T T' : Nat} {x y : Operand} {k : IntKind} {i j : Int} (hx : ev F x = some (.int k i)) (hy : ev F y = some (.int k j)) (hj : j ≠ 0) :
    QV P n F h L ⟨dst, .binOp .rem T x y T', ty, pos, af, gd⟩ (.int k (i.tmod j)) := .mk fun a w f s => by
  simp [execOp, f.ev hx, f.ev hy, run_guard_int, binOp, Op.intDiv, hj]
end
end Go.Ck
