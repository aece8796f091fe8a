/-
  CkLend: a slice that the call owns is lent to a callee that only reads; a cell of a block of a symbolic place is written.
  Conditions: none.
-/
import Derived.Test.YtbpahaciegfpfaaCkMore
namespace Go.Ck
open Go
set_option linter.unusedVariables false
section
variable {P : Program} {n : Nat} {K : Bs} {F : List (Nat × Value)} {h : View} {L : List Res} {Q : Exit → Act → World → Prop}

theorem row_view {e : TypeId} {sz m : Nat} {v : Value} {xs : List Value} {w : World} (s : St K h L w) {k : Nat} (hk : L[k]? = some (Res.row e sz v m xs)) : ∃ h', Le h h' ∧ Sc h' sz v m xs ∧ St ⟨w, h', []⟩ h' [] w := by
  have ho : w.ownsRow 0 e sz v m xs := s.hd.own _ (List.mem_of_getElem? hk)
  rcases ho.2 with ⟨rfl, h0⟩ | ⟨g, cap, cur, rfl, _, hg, hn, hm, hs, ht⟩
  · subst h0
    have hx : xs = [] := List.eq_nil_of_length_eq_zero (by rw [ho.1]; simp)
    subst hx
    exact ⟨h, Le.refl h, Sc.nil h sz none 0, St.start (L := []) ⟨s.hd.view, fun r hr => (by cases hr)⟩ (by simp [doms]) (fun b hb => (by simp [doms] at hb))⟩
  · have hb0 : h g = none := s.dis g (mem_doms.2 ⟨_, List.mem_of_getElem? hk, by simp [Res.row, Value.ownBlock]⟩)
    refine ⟨addV h g (.cells cur e (0, 0)), Le.addV hb0, ⟨ho.1, some ⟨g, 0, none⟩, cap, rfl, hn, .inr ⟨g, 0, cur, e, (0, 0), rfl, addV_same, fun j u hj => ?_⟩⟩,
      St.start (L := []) ⟨fun b o hb => ?_, fun r hr => (by cases hr)⟩ (by simp [doms]) (fun b hb => (by simp [doms] at hb))⟩
    · rw [← ht, List.getElem?_take] at hj
      split at hj
      · simpa using hj
      · cases hj
    · unfold addV at hb
      split at hb
      · rename_i e; subst e; cases hb; exact hg
      · exact s.hd.view b o hb

theorem st_lower {h h' : View} {w w' : World} (hh : Hd h [] w') (s : St ⟨w, h', []⟩ h' [] w') : St ⟨w, h, []⟩ h [] w' :=
  ⟨s.os, s.tape, s.output, s.drawn, s.size, s.keep, hh, s.nd, s.src, Le.refl h, fun _ _ hb => hb, fun b hb => (by simp [doms] at hb)⟩

/-- a call that reads a slice that the caller owns -/
theorem rx_call_lend {g : Rg} {i : Nat} {dst : Option Nat} {op : Op} {ty : Nat} {pos : String} {af : Array Edge} {gd : Option (Nat × Bool)} {r : List (Nat × Oper)} {fn : FuncId} {args : Array Value} {u : Value} {e : TypeId} {sz m : Nat} {v : Value} {xs : List Value} (k : Nat) (hc : CallOf P n F ⟨dst, op, ty, pos, af, gd⟩ fn args)
    (hk : L[k]? = some (Res.row e sz v m xs))
    (hsp : ∀ h', Le h h' → Sc h' sz v m xs → ∀ w, St ⟨w, h', []⟩ h' [] w → Calls P fn args w fun e w' => e = .returned u ∧ St ⟨w, h', []⟩ h' [] w')
    (hw : wantedF g.ops F ⟨dst, op, ty, pos, af, gd⟩ = some true) (hd : okd n dst = true) (hl : g.lo i = true) (h1 : Owe g i h L)
    (hx : RX P n K g r (putF dst u F) h L Q) : RX P n K g ((i, ⟨dst, op, ty, pos, af, gd⟩) :: r) F h L Q := by
  unfold RX at *
  unfold CallOf at hc
  exact fun a w f s => .inr (.inr ⟨wantedF_ok f hw, hl, h1.imp (fun k => k w s.hd) id, by
    unfold Oper.wp
    rw [hc a w f]
    obtain ⟨h', hle, hsc, s0⟩ := row_view s hk
    refine (hsp h' hle hsc w s0).mono fun e w' he => ?_
    obtain ⟨rfl, st⟩ := he
    have s' := St.leave (Li := []) (Lr := L) s (st_lower ⟨fun b o hb => st.hd.view b o (hle b o hb), fun r hr => (by cases hr)⟩ st)
    exact ⟨h1.imp (fun k => k _ s'.hd) id, hx _ _ (f.put hd _) s'⟩⟩)
theorem qv_nilCheck {dst : Option Nat} {ty : Nat} {pos : String} {af : Array Edge} {gd : Option (Nat × Bool)} {x : Operand} {ad : Addr} (hx : ev F x = some (.pointer (some ad))) : QV P n F h L ⟨dst, .nilCheck x, ty, pos, af, gd⟩ (.pointer (some ad)) := .mk fun a w f s => by
  simp [execOp, f.ev hx]
end
end Go.Ck
