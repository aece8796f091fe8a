/-
  CkGrow: append of a make onto the nil slice (slices.Grow), and a row cut shorter.
  Conditions: none; each law states its own.
-/
import Derived.Test.YtbpahaciegfpfaaCkMore
import Derived.Lib.AppendZerosOnto
namespace Go.Ck
open Go
set_option linter.unusedVariables false
set_option linter.unusedSimpArgs false
section
variable {P : Program} {n : Nat} {K : Bs} {F : List (Nat × Value)} {h : View} {L : List Res} {Q : Exit → Act → World → Prop}
variable {dst : Option Nat} {ty : Nat} {pos : String} {af : Array Edge} {gd : Option (Nat × Bool)}

theorem own_cut {w : World} {e : TypeId} {sz m cap g j : Nat} {xs : List Value} (ho : w.ownsRow 0 e sz (.slice (some ⟨g, 0, none⟩) m cap) m xs) (hj : j ≤ m) : w.ownsRow 0 e sz (.slice (some ⟨g, 0, none⟩) j cap) j (xs.take (j * sz)) := by
  have hjm : j * sz ≤ m * sz := Nat.mul_le_mul_right _ hj
  refine ⟨by rw [List.length_take, ho.1]; omega, ?_⟩
  rcases ho.2 with ⟨q1, q2⟩ | ⟨g', cap', cur, q1, q2, q3, q4, q5, q6, q7⟩
  · cases q1
  · cases q1
    refine .inr ⟨g, cap, cur, rfl, q2, q3, by omega, q5, q6, ?_⟩
    rw [← q7, List.take_take]
    congr 1
    omega
theorem St.cut {w : World} {e : TypeId} {sz m cap g j k : Nat} {xs : List Value} (s : St K h L w) (hk : L[k]? = some (Res.row e sz (.slice (some ⟨g, 0, none⟩) m cap) m xs)) (hj : j ≤ m) : St K h (L.set k (Res.row e sz (.slice (some ⟨g, 0, none⟩) j cap) j (xs.take (j * sz)))) w := by
  have ho : w.ownsRow 0 e sz (.slice (some ⟨g, 0, none⟩) m cap) m xs := s.hd.own _ (List.mem_of_getElem? hk)
  refine s.swap hk rfl rfl rfl (Nat.le_refl _) (Nat.le_refl _) (fun _ _ _ => rfl) (own_cut ho hj) ?_ (fun b hb => .inl ?_)
  · simp [Res.row, Value.ownBlock]
  · have hb : b = g := by simpa [Res.row, Value.ownBlock] using hb
    subst hb
    simp [Res.row, Value.ownBlock]
theorem rx_cut {g' : Rg} {prs : List (Nat × Oper)} {e : TypeId} {sz m cap g : Nat} {xs : List Value} (k j : Nat) (hk : L[k]? = some (Res.row e sz (.slice (some ⟨g, 0, none⟩) m cap) m xs)) (hj : j ≤ m)
    (hx : RX P n K g' prs F h (L.set k (Res.row e sz (.slice (some ⟨g, 0, none⟩) j cap) j (xs.take (j * sz)))) Q) : RX P n K g' prs F h L Q := by
  unfold RX at *
  exact fun a w f s => hx a w f (s.cut hk hj)

theorem rx_row {g' : Rg} {prs : List (Nat × Oper)} (e : TypeId) (k : Nat) (hx : RX P n K g' prs F h (Res.row e k (.slice none 0 0) 0 [] :: L) Q) : RX P n K g' prs F h L Q := by
  unfold RX at *
  exact fun a w f s => hx a w f (s.rowNil e k)
theorem rx_grow_nil {g : Rg} {i : Nat} {r : List (Nat × Oper)} {T Ti e : Nat} {x y : Operand} {z : Value} {sz by' m : Nat} {kn : IntKind} (k : Nat) [tu : TyU P T (.slice e)] [ti : TyU P Ti (.int kn)] [tb : TyB P e z sz by'] (hx : ev F x = some (.slice none 0 0)) (hy : ev F y = some (.int .i64 m))
    (hk : L[k]? = some (Res.row e sz (.slice none 0 0) 0 [])) (hm : 0 < m) (hzs : z.cells.size = sz) (hsz : 0 < sz) (h63 : m ≤ maxLen) (hbytes : m * by' ≤ 140737488355328)
    (hw : wantedF g.ops F ⟨dst, .call ⟨.builtin .append, #[x, y], #[T, Ti]⟩, ty, pos, af, gd⟩ = some true) (hd : okd n dst = true) (hlo : g.lo i = true) (o1 : Owe g i h L)
    (o2 : ∀ b cap, Owe g i h (L.set k (Res.row e sz (.slice (some ⟨b, 0, none⟩) m cap) m (Builtin.zeroCells z.cells m).toList)))
    (hn : ∀ b cap, m ≤ cap → cap ≤ maxLen → RX P n K g r (putF dst (.slice (some ⟨b, 0, none⟩) m cap) F) h (L.set k (Res.row e sz (.slice (some ⟨b, 0, none⟩) m cap) m (Builtin.zeroCells z.cells m).toList)) Q) :
    RX P n K g ((i, ⟨dst, .call ⟨.builtin .append, #[x, y], #[T, Ti]⟩, ty, pos, af, gd⟩) :: r) F h L Q := by
  unfold RX at *
  intro a w f s
  obtain ⟨ii, hi, hz, hsize, hby⟩ := tb.ex
  subst hsize
  subst hby
  have h63i : (m : Int) ≤ 9223372036854775807 := by simp only [maxLen] at h63; omega
  have hr := Lib.run_append_nil_zeros (P := P) w T Ti ty e ii z .i64 kn tu.u ti.u hi hz m hm hsz h63i (by omega)
  have hge := grownCap_ge w m 0 e
  have hcm : grownCap w m 0 e ≤ maxLen := grownCap_le_maxLen w m 0 e h63
  generalize grownCap w m 0 e = cap at hr hge hcm
  have s' : St K h (L.set k (Res.row e ii.size (.slice (some ⟨w.heap.size, 0, none⟩) m cap) m (Builtin.zeroCells z.cells m).toList)) (w.drew.alloc (.cells (Builtin.zeroCells z.cells m ++ Builtin.zeroCells z.cells (cap - m)) e)) := by
    refine s.swap hk rfl rfl rfl (Nat.le_succ _) (by simp) (fun j hj _ => Go.RowKit.Below.heap_alloc w.drew _ j hj) ⟨?_, .inr ⟨w.heap.size, cap, _, rfl, Nat.zero_le _, heap_alloc_new w.drew _, hge, hcm, ?_, ?_⟩⟩ ?_ (fun b hb => .inr ?_)
    · simp [size_zeroCells, hzs]
    · simp only [Array.size_append, size_zeroCells, hzs, ← Nat.add_mul]
      congr 1
      omega
    · simp only [Array.toList_append]
      have : (Builtin.zeroCells z.cells m).toList.length = m * ii.size := by simp [size_zeroCells, hzs]
      rw [← this]
      exact List.take_left
    · simp [Res.row, Value.ownBlock]
    · have hb : b = w.heap.size := by simpa [Res.row, Value.ownBlock] using hb
      omega
  refine .inr (.inr ⟨wantedF_ok f hw, hlo, o1.out s, ?_⟩)
  unfold Oper.wp
  have : (execOp a.eval ⟨dst, .call ⟨.builtin .append, #[x, y], #[T, Ti]⟩, ty, pos, af, gd⟩).run P w = .ok (.value (.slice (some ⟨w.heap.size, 0, none⟩) m cap)) (w.drew.alloc (.cells (Builtin.zeroCells z.cells m ++ Builtin.zeroCells z.cells (cap - m)) e)) := by
    simp [execOp, resolve, invoke, builtin, f.ev hx, f.ev hy, hr]
  rw [this]
  exact ⟨(o2 _ cap).out s', hn _ cap hge hcm _ _ (f.put hd _) s'⟩
end
end Go.Ck
