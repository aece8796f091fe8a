/-
  Part 7 of a proof: VaE CkGrow CkZero VaF CkNoZ ShD ShE RkA VaG VaH.
  Conditions: each theorem states its own.
-/
import Derived.Lib.AppendZerosOnto
import Derived.Lib.MakeNoZero
import Derived.Laws.Externs
import Derived.Test.YtgeepceieckooaaGreatDoorSeEPM6
set_option maxRecDepth 100000
set_option linter.unusedVariables false
set_option linter.unusedSimpArgs false
section
namespace Go.Proofs.YtgeepceieckooaaGreatDoor
open Go Go.Ck
set_option maxHeartbeats 4000000
def difB (a b : List Int) : Nat → BitVec 8
  | 0 => 0#8
  | k + 1 => difB a b k ||| (BitVec.ofInt 8 (a.getD k 0) ^^^ BitVec.ofInt 8 (b.getD k 0))
theorem byte_inj {x y : Int} (hx : 0 ≤ x ∧ x < 256) (hy : 0 ≤ y ∧ y < 256) : BitVec.ofInt 8 x = BitVec.ofInt 8 y ↔ x = y := by
  constructor
  · intro h
    have := congrArg BitVec.toNat h
    simp only [BitVec.toNat_ofInt] at this
    omega
  · intro h; rw [h]
theorem difB_zero {a b : List Int} (ya : Bytes a) (yb : Bytes b) : ∀ k, k ≤ a.length → k ≤ b.length → (difB a b k = 0#8 ↔ a.take k = b.take k)
  | 0, _, _ => by simp [difB]
  | k + 1, h1, h2 => by
    have ih := difB_zero ya yb k (by omega) (by omega)
    have ea : a.getD k 0 = a[k]'(by omega) := by simp [List.getD_eq_getElem?_getD, List.getElem?_eq_getElem (show k < a.length by omega)]
    have eb : b.getD k 0 = b[k]'(by omega) := by simp [List.getD_eq_getElem?_getD, List.getElem?_eq_getElem (show k < b.length by omega)]
    have hx := byte_inj (ya _ (List.getElem_mem (show k < a.length by omega))) (yb _ (List.getElem_mem (show k < b.length by omega)))
    have he : difB a b (k + 1) = 0#8 ↔ difB a b k = 0#8 ∧ BitVec.ofInt 8 (a.getD k 0) ^^^ BitVec.ofInt 8 (b.getD k 0) = 0#8 := by
      show difB a b k ||| _ = 0#8 ↔ _
      exact BitVec.or_eq_zero_iff
    rw [he, ih, BitVec.xor_eq_zero_iff, ea, eb, hx, List.take_succ_eq_append_getElem (by omega), List.take_succ_eq_append_getElem (by omega)]
    constructor
    · rintro ⟨h3, h4⟩
      rw [h3, h4]
    · intro h3
      have := List.append_inj' h3 rfl
      exact ⟨this.1, by simpa using this.2⟩
theorem bSame_sp (va vb : Value) (a b : List Int) (h : View) (ha : Bs8 h va a) (hb : Bs8 h vb b) (ya : Bytes a) (yb : Bytes b) (hl : a.length ≤ 900000) (hlb : b.length ≤ 900000) (w : World) (s : St ⟨w, h, []⟩ h [] w) :
    Calls Tryz.prog 97 [va, vb].toArray w fun e w' => e = .returned (.bool (decide (a = b))) ∧ St ⟨w, h, []⟩ h [] w' := by
  obtain ⟨_, ada, capa, rfl, hcapa, _⟩ := id ha
  obtain ⟨_, adb, capb, rfl, hcapb, _⟩ := id hb
  refine calls_enter Tryz.func97 rfl Tryz.ntmps97 rfl s ?_
  by_cases hne : a.length = b.length
  · have hd : (decide (((difB a b a.length).toNat : Int) = 0)) = decide (a = b) := by
      have h0 := difB_zero ya yb a.length (Nat.le_refl _) (by omega)
      rw [List.take_of_length_le (Nat.le_refl _), List.take_of_length_le (by omega)] at h0
      rw [decide_eq_decide, ← h0]
      constructor
      · intro e
        apply BitVec.eq_of_toNat_eq
        simpa using e
      · intro e; rw [e]; rfl
    repeat' (first|refine zw3 ?_|(refine ta_ ?_;intro _)|(refine zk0 ?_ ?_<;>intro ht)|fail)
    refine cx_loop (X := Nat) (fun k => [(0, .slice ada a.length capa), (1, .slice adb b.length capb), (5, .int .u8 ((difB a b k).toNat : Nat)), (13, .int .i64 (a.length : Nat)), (14, .int .i64 (k : Nat))]) (fun _ => h) (fun _ => []) (fun k => k ≤ a.length) (fun k => a.length - k) 0 (Nat.zero_le _) ts_ (fun _ s => s) ?_
    intro k hk
    by_cases hkm : k < a.length
    · obtain ⟨ba, oa, rfl⟩ := ha.ad (by omega) (by omega)
      obtain ⟨bb, ob, rfl⟩ := hb.ad (by omega) (by omega)
      have hea : ∀ L, CellAt h L ba (oa + k * 1) (.int .u8 (a.getD k 0)) := fun L => (ha.cells (L := L)).cell (by simp [bcs, hkm])
      have heb : ∀ L, CellAt h L bb (ob + k * 1) (.int .u8 (b.getD k 0)) := fun L => (hb.cells (L := L)).cell (by simp [bcs, hne ▸ hkm])
      have ha8 : 0 ≤ a.getD k 0 ∧ a.getD k 0 < 256 := by
        have := ya a[k] (List.getElem_mem _)
        simpa [List.getD_eq_getElem?_getD, hkm] using this
      have hb8 : 0 ≤ b.getD k 0 ∧ b.getD k 0 < 256 := by
        have := yb (b[k]'(by omega)) (List.getElem_mem _)
        simpa [List.getD_eq_getElem?_getD, hne ▸ hkm] using this
      have hs : difB a b (k + 1) = difB a b k ||| (BitVec.ofInt 8 (a.getD k 0) ^^^ BitVec.ofInt 8 (b.getD k 0)) := rfl
      repeat' (first|refine zw112 ?_|(refine ta_ ?_;intro _)|(refine zk0 ?_ ?_<;>intro ht)|fail)
      refine cx_region_draw' rfl (by kernel_rfl) ?_
      repeat' (first|refine zw113 ?_|(refine ycf ?_;(first|(refine zg0 ?_ ?_<;>intro ht)|(refine tb_ ?_ ?_ ?_;(·(exact to_));(·intro _;(exact to_));intro _)))|fail)
      repeat' (first|refine zw3 ?_|(refine ta_ ?_;intro _)|(refine zk0 ?_ ?_<;>intro ht)|fail)
      refine nx_round (k + 1) (by show k + 1 ≤ a.length; omega) (by show a.length - (k + 1) < a.length - k; omega) ts_ (fun _ s => s)
    · have ek : k = a.length := by omega
      subst ek
      rw [← hd]
      repeat' (first|refine zw3 ?_|(refine ta_ ?_;intro _)|(refine zk0 ?_ ?_<;>intro ht)|fail)
      trace_state
      exact nx_ret1 rfl (rv_tmp rfl) (fun w' s' => ⟨rfl, s'⟩)
  · have hd : decide (a = b) = false := by simp; intro e; exact hne (by rw [e])
    rw [hd]
    repeat' (first|refine zw3 ?_|(refine ta_ ?_;intro _)|(refine zk0 ?_ ?_<;>intro ht)|fail)
    exact nx_ret1 rfl (rv_tmp rfl) (fun w' s' => ⟨rfl, s'⟩)
end Go.Proofs.YtgeepceieckooaaGreatDoor
end

section
namespace Go.Ck
open Go
section
variable {P : Program} {n : Nat} {K : Bs} {F : List (Nat × Value)} {h : View} {L : List Res} {Q : Exit → Act → World → Prop}
variable {dst : Option Nat} {ty : Nat} {pos : String} {af : Array Edge} {gd : Option (Nat × Bool)}
theorem own_cut {w : World} {e : TypeId} {sz m cap g j : Nat} {xs : List Value} (ho : w.ownsRow 0 e sz (.slice (some ⟨g, 0, none⟩) m cap) m xs) (hj : j ≤ m) : w.ownsRow 0 e sz (.slice (some ⟨g, 0, none⟩) j cap) j (xs.take (j * sz)) := by
  have hjm : j * sz ≤ m * sz := Nat.mul_le_mul_right _ hj
  refine ⟨by rw [List.length_take, ho.1]; omega, ?_⟩
  rcases ho.2 with ⟨q1, q2⟩ | ⟨g', cap', cur, q1, q2, q3, q4, q5, q6, q7⟩
  · cases q1
  · cases q1
    refine .inr ⟨g, cap, cur, rfl, q2, q3, by omega, q5, q6, ?_⟩
    rw [← q7, List.take_take]
    congr 1
    omega
theorem St.cut {w : World} {e : TypeId} {sz m cap g j k : Nat} {xs : List Value} (s : St K h L w) (hk : L[k]? = some (Res.row e sz (.slice (some ⟨g, 0, none⟩) m cap) m xs)) (hj : j ≤ m) : St K h (L.set k (Res.row e sz (.slice (some ⟨g, 0, none⟩) j cap) j (xs.take (j * sz)))) w := by
  have ho : w.ownsRow 0 e sz (.slice (some ⟨g, 0, none⟩) m cap) m xs := s.hd.own _ (List.mem_of_getElem? hk)
  refine s.swap hk rfl rfl rfl (Nat.le_refl _) (Nat.le_refl _) (fun _ _ _ => rfl) (own_cut ho hj) ?_ (fun b hb => .inl ?_)
  · simp [Res.row, Value.ownBlock]
  · have hb : b = g := by simpa [Res.row, Value.ownBlock] using hb
    subst hb
    simp [Res.row, Value.ownBlock]
theorem rx_cut {g' : Rg} {prs : List (Nat × Oper)} {e : TypeId} {sz m cap g : Nat} {xs : List Value} (k j : Nat) (hk : L[k]? = some (Res.row e sz (.slice (some ⟨g, 0, none⟩) m cap) m xs)) (hj : j ≤ m)
    (hx : RX P n K g' prs F h (L.set k (Res.row e sz (.slice (some ⟨g, 0, none⟩) j cap) j (xs.take (j * sz)))) Q) : RX P n K g' prs F h L Q := by
  unfold RX at *
  exact fun a w f s => hx a w f (s.cut hk hj)
theorem rx_row {g' : Rg} {prs : List (Nat × Oper)} (e : TypeId) (k : Nat) (hx : RX P n K g' prs F h (Res.row e k (.slice none 0 0) 0 [] :: L) Q) : RX P n K g' prs F h L Q := by
  unfold RX at *
  exact fun a w f s => hx a w f (s.rowNil e k)
theorem rx_grow_nil {g : Rg} {i : Nat} {r : List (Nat × Oper)} {T Ti e : Nat} {x y : Operand} {z : Value} {sz by' m : Nat} {kn : IntKind} (k : Nat) [tu : TyU P T (.slice e)] [ti : TyU P Ti (.int kn)] [tb : TyB P e z sz by'] (hx : ev F x = some (.slice none 0 0)) (hy : ev F y = some (.int .i64 m))
    (hk : L[k]? = some (Res.row e sz (.slice none 0 0) 0 [])) (hm : 0 < m) (hzs : z.cells.size = sz) (hsz : 0 < sz) (h63 : m ≤ maxLen) (hbytes : m * by' ≤ 140737488355328)
    (hw : wantedF g.ops F ⟨dst, .call ⟨.builtin .append, #[x, y], #[T, Ti]⟩, ty, pos, af, gd⟩ = some true) (hd : okd n dst = true) (hlo : g.lo i = true) (o1 : Owe g i h L)
    (o2 : ∀ b cap, Owe g i h (L.set k (Res.row e sz (.slice (some ⟨b, 0, none⟩) m cap) m (Builtin.zeroCells z.cells m).toList)))
    (hn : ∀ b cap, m ≤ cap → cap ≤ maxLen → RX P n K g r (putF dst (.slice (some ⟨b, 0, none⟩) m cap) F) h (L.set k (Res.row e sz (.slice (some ⟨b, 0, none⟩) m cap) m (Builtin.zeroCells z.cells m).toList)) Q) :
    RX P n K g ((i, ⟨dst, .call ⟨.builtin .append, #[x, y], #[T, Ti]⟩, ty, pos, af, gd⟩) :: r) F h L Q := by
  unfold RX at *
  intro a w f s
  obtain ⟨ii, hi, hz, hsize, hby⟩ := tb.ex
  subst hsize
  subst hby
  have h63i : (m : Int) ≤ 9223372036854775807 := by simp only [maxLen] at h63; omega
  have hr := Lib.run_append_nil_zeros (P := P) w T Ti ty e ii z .i64 kn tu.u ti.u hi hz m hm hsz h63i (by omega)
  have hge := grownCap_ge w m 0 e
  have hcm : grownCap w m 0 e ≤ maxLen := grownCap_le_maxLen w m 0 e h63
  generalize grownCap w m 0 e = cap at hr hge hcm
  have s' : St K h (L.set k (Res.row e ii.size (.slice (some ⟨w.heap.size, 0, none⟩) m cap) m (Builtin.zeroCells z.cells m).toList)) (w.drew.alloc (.cells (Builtin.zeroCells z.cells m ++ Builtin.zeroCells z.cells (cap - m)) e)) := by
    refine s.swap hk rfl rfl rfl (Nat.le_succ _) (by simp) (fun j hj _ => Go.RowKit.Below.heap_alloc w.drew _ j hj) ⟨?_, .inr ⟨w.heap.size, cap, _, rfl, Nat.zero_le _, heap_alloc_new w.drew _, hge, hcm, ?_, ?_⟩⟩ ?_ (fun b hb => .inr ?_)
    · simp [size_zeroCells, hzs]
    · simp only [Array.size_append, size_zeroCells, hzs, ← Nat.add_mul]
      congr 1
      omega
    · simp only [Array.toList_append]
      have : (Builtin.zeroCells z.cells m).toList.length = m * ii.size := by simp [size_zeroCells, hzs]
      rw [← this]
      exact List.take_left
    · simp [Res.row, Value.ownBlock]
    · have hb : b = w.heap.size := by simpa [Res.row, Value.ownBlock] using hb
      omega
  refine .inr (.inr ⟨wantedF_ok f hw, hlo, o1.out s, ?_⟩)
  unfold Oper.wp
  have : (execOp a.eval ⟨dst, .call ⟨.builtin .append, #[x, y], #[T, Ti]⟩, ty, pos, af, gd⟩).run P w = .ok (.value (.slice (some ⟨w.heap.size, 0, none⟩) m cap)) (w.drew.alloc (.cells (Builtin.zeroCells z.cells m ++ Builtin.zeroCells z.cells (cap - m)) e)) := by
    simp [execOp, resolve, invoke, builtin, f.ev hx, f.ev hy, hr]
  rw [this]
  exact ⟨(o2 _ cap).out s', hn _ cap hge hcm _ _ (f.put hd _) s'⟩
end
end Go.Ck
end

section
namespace Go.Ck
open Go
theorem zc1_one {cs : Array Value} (h : cs.toList.all Value.oneCell' = true) (k : Nat) : ∀ u ∈ (Builtin.zeroCells cs k).toList, u.oneCell' = true := fun u hu => by
  unfold Builtin.zeroCells at hu
  simp only [Array.toList_map, List.mem_map, Array.mem_toList_iff, Array.mem_range] at hu
  obtain ⟨i, hi, rfl⟩ := hu
  have hpos : 0 < cs.size := by
    rcases Nat.eq_zero_or_pos cs.size with h0 | h0
    · rw [h0, Nat.mul_zero] at hi
      exact absurd hi (Nat.not_lt_zero _)
    · exact h0
  have hlt := Nat.mod_lt i hpos
  rw [getElem!_pos cs _ hlt]
  exact List.all_eq_true.1 h _ (Array.getElem_mem_toList hlt)
section
variable {P : Program} {n : Nat} {K : Bs} {F : List (Nat × Value)} {h : View} {L : List Res} {Q : Exit → Act → World → Prop}
variable {dst : Option Nat} {ty : Nat} {pos : String} {af : Array Edge} {gd : Option (Nat × Bool)}
theorem run_append_zeros_ck {w : World} (t tn ty' e : TypeId) {z : Value} {kn : IntKind} {size bytes : Nat} (ht : P.underlying t = some (.slice e)) (htn : P.underlying tn = some (.int kn)) (tb : TyB P e z size bytes) (hzs : z.cells.size = size) (hz1 : z.cells.toList.all Value.oneCell' = true) (hsz : 0 < size)
    (g m0 cap : Nat) (xs : List Value) (hown : w.ownsRow 0 e size (.slice (some ⟨g, 0, none⟩) m0 cap) m0 xs) (m : Nat) (h63 : m0 + m ≤ maxLen) (hbytes : (m0 + m) * bytes ≤ 140737488355328) :
    ∃ v' w', (Builtin.append_ #[t, tn] ty' #[.slice (some ⟨g, 0, none⟩) m0 cap, .int .i64 m]).run P w = .ok v' w' ∧ w'.ownsRow 0 e size v' (m0 + m) (xs ++ (Builtin.zeroCells z.cells m).toList) ∧ w.grownBy w' (some g) ∧
      w.drawn ≤ w'.drawn ∧ (v'.ownBlock = some g ∨ ∃ b, v'.ownBlock = some b ∧ w.heap.size ≤ b) := by
  obtain ⟨i, hi, hz, hsize, hby⟩ := tb.ex
  subst hsize
  subst hby
  have hsmall : m0 + m ≤ 9223372036854775807 := by simp only [maxLen] at h63; omega
  have hl : (Builtin.zeroCells z.cells m).toList.length = m * i.size := by simp [size_zeroCells, hzs]
  have h1 : ∀ u ∈ (Builtin.zeroCells z.cells m).toList, u.oneCell' = true := zc1_one hz1 m
  have hlen : (xs ++ (Builtin.zeroCells z.cells m).toList).length = (m0 + m) * i.size := by rw [List.length_append, hown.1, hl, Nat.add_mul]
  have hm48 : (m : Int) * (i.bytes : Int) ≤ 281474976710656 := by
    have h0 : m * i.bytes ≤ (m0 + m) * i.bytes := Nat.mul_le_mul_right _ (Nat.le_add_left _ _)
    rw [← Int.natCast_mul]
    omega
  rcases hown.2 with ⟨q1, q2⟩ | ⟨g', cap', cur, q1, hbg, hg, hnc, hcm, hcs, htake⟩
  · cases q1
  cases q1
  by_cases hroom : m0 + m ≤ cap
  · have hfit : m0 * i.size + (Builtin.zeroCells z.cells m).toList.length ≤ cur.size := by rw [hl, hcs, ← Nat.add_mul]; exact Nat.mul_le_mul_right _ hroom
    have hst := run_storeCells_at P g (m0 * i.size) e (Builtin.zeroCells z.cells m).toList 0 cur w hg (by simpa using hfit) h1
    simp only [Nat.add_zero] at hst
    have hw : IntKind.i64.wrap (m : Int) = m := by rw [IntKind.wrap_i64]; omega
    have hneg : ¬ ((m : Int) < 0) := by omega
    have hr : (Builtin.append_ #[t, tn] ty' #[.slice (some ⟨g, 0, none⟩) m0 cap, .int .i64 m]).run P w = .ok (.slice (some ⟨g, 0, none⟩) (m0 + m) cap) (w.setRow g (cur.toList.take (m0 * i.size) ++ (Builtin.zeroCells z.cells m).toList ++ cur.toList.drop (m0 * i.size + (Builtin.zeroCells z.cells m).toList.length)).toArray) := by
      have h48' : ¬ (281474976710656 < (m : Int) * (i.bytes : Int)) := by omega
      by_cases hm0 : m = 0
      · subst hm0
        have e0 : (Builtin.zeroCells z.cells 0).toList = [] := List.eq_nil_of_length_eq_zero (by rw [hl, Nat.zero_mul])
        rw [e0] at hst ⊢
        have hr0 : m0 ≤ cap := by omega
        simp at hst
        simp [Builtin.append_, run_underlying ht, run_underlying htn, sizeOf, typeInfo, zeroValue, hi, hz, asInt, asIntOf, hr0, Addr.add_lit, IntKind.wrap_i64]
        rw [hst]
        rfl
      · have hns : ¬ (m * i.size = 0) := Nat.mul_ne_zero hm0 (by omega)
        simp [Builtin.append_, run_underlying ht, run_underlying htn, sizeOf, typeInfo, zeroValue, hi, hz, asInt, asIntOf, hw, hneg, hns, h48', hroom, Addr.add_lit, hst]
    refine ⟨_, _, hr, ⟨hlen, .inr ⟨g, cap, _, rfl, hbg, setRow_heap w g cur _ e _ hg, hroom, hcm, ?_, ?_⟩⟩, ⟨rfl, rfl, rfl, by simp, fun k _ hk => setRow_other w g k _ (fun e => hk (by simp [e]))⟩, by simp, .inl rfl⟩
    · simp only [List.size_toArray, List.length_append, List.length_take, List.length_drop, Array.length_toList]
      rw [Array.length_toList] at hfit
      omega
    · rw [htake, ← hlen]
      exact List.take_left
  · have holds : ∀ j u, xs[j]? = some u → w.cell? ((⟨g, 0, none⟩ : Addr).add j) = some u := hown.cells (g := g) rfl
    have hold := run_firstCells_some (P := P) w.drew i.size m0 ⟨g, 0, none⟩ m0 cap xs hown.1 holds
    have hr := Lib.run_append_grow_zeros (P := P) w t tn ty' e i z .i64 kn ht htn hi hz (some ⟨g, 0, none⟩) m0 cap xs hold m (by omega) hsz (by omega) (by omega) (by rw [← Int.natCast_mul] at hm48; omega) (Nat.le_trans (growslice_fits (by omega) hbytes) (by omega))
    have hge := grownCap_ge w (m0 + m) cap e
    have hcm2 : grownCap w (m0 + m) cap e ≤ maxLen := grownCap_le_maxLen w (m0 + m) cap e h63
    refine ⟨_, _, hr, ⟨hlen, .inr ⟨w.heap.size, _, _, rfl, Nat.zero_le _, heap_alloc_new w.drew _, hge, hcm2, ?_, ?_⟩⟩, ⟨rfl, rfl, rfl, by simp, fun k hk _ => Go.RowKit.Below.heap_alloc w.drew _ k hk⟩, Nat.le_succ _, .inr ⟨_, rfl, Nat.le_refl _⟩⟩
    · simp only [Array.size_append, List.size_toArray, size_zeroCells, hzs, hown.1, ← Nat.add_mul]
      congr 1
      omega
    · simp only [Array.toList_append, List.append_assoc]
      rw [← List.append_assoc, ← hlen]
      exact List.take_left
theorem rx_append_zeros {g : Rg} {i : Nat} {r : List (Nat × Oper)} {T Ti e : Nat} {x y : Operand} {z : Value} {sz by' m0 m gb cap : Nat} {xs : List Value} {kn : IntKind} (k : Nat) [tu : TyU P T (.slice e)] [ti : TyU P Ti (.int kn)] [tb : TyB P e z sz by'] (hx : ev F x = some (.slice (some ⟨gb, 0, none⟩) m0 cap)) (hy : ev F y = some (.int .i64 m))
    (hk : L[k]? = some (Res.row e sz (.slice (some ⟨gb, 0, none⟩) m0 cap) m0 xs)) (hzs : z.cells.size = sz) (hz1 : z.cells.toList.all Value.oneCell' = true) (hsz : 0 < sz) (h63 : m0 + m ≤ maxLen) (hbytes : (m0 + m) * by' ≤ 140737488355328)
    (hw : wantedF g.ops F ⟨dst, .call ⟨.builtin .append, #[x, y], #[T, Ti]⟩, ty, pos, af, gd⟩ = some true) (hd : okd n dst = true) (hlo : g.lo i = true) (o1 : Owe g i h L)
    (o2 : ∀ v', Owe g i h (L.set k (Res.row e sz v' (m0 + m) (xs ++ (Builtin.zeroCells z.cells m).toList))))
    (hn : ∀ v', RX P n K g r (putF dst v' F) h (L.set k (Res.row e sz v' (m0 + m) (xs ++ (Builtin.zeroCells z.cells m).toList))) Q) :
    RX P n K g ((i, ⟨dst, .call ⟨.builtin .append, #[x, y], #[T, Ti]⟩, ty, pos, af, gd⟩) :: r) F h L Q := by
  unfold RX at *
  intro a w f s
  have hown : w.ownsRow 0 e sz (.slice (some ⟨gb, 0, none⟩) m0 cap) m0 xs := s.hd.own _ (List.mem_of_getElem? hk)
  obtain ⟨v', w', hrun, how', hgr, hdr, hblk⟩ := run_append_zeros_ck (P := P) T Ti ty e tu.u ti.u tb hzs hz1 hsz gb m0 cap xs hown m h63 hbytes
  have s' : St K h (L.set k (Res.row e sz v' (m0 + m) (xs ++ (Builtin.zeroCells z.cells m).toList))) w' := by
    refine s.swap hk hgr.os hgr.tape hgr.output hdr hgr.size (fun j hj hjd => hgr.block j hj (fun hh => hjd ?_)) how' ?_ (fun b hb => ?_)
    · show j ∈ (Value.ownBlock (.slice (some ⟨gb, 0, none⟩) m0 cap)).toList
      cases hh
      simp [Value.ownBlock]
    · show v'.ownBlock.toList.Nodup
      cases v'.ownBlock <;> simp
    · have hb : v'.ownBlock = some b := by simpa [Res.row] using hb
      rcases hblk with hh | ⟨b', hh, hge⟩
      · refine .inl ?_
        rw [hb] at hh
        cases hh
        simp [Res.row, Value.ownBlock]
      · rw [hb] at hh; cases hh; exact .inr hge
  refine .inr (.inr ⟨wantedF_ok f hw, hlo, o1.out s, ?_⟩)
  unfold Oper.wp
  have : (execOp a.eval ⟨dst, .call ⟨.builtin .append, #[x, y], #[T, Ti]⟩, ty, pos, af, gd⟩).run P w = .ok (.value v') w' := by
    simp [execOp, resolve, invoke, builtin, f.ev hx, f.ev hy, hrun]
  rw [this]
  exact ⟨(o2 v').out s', hn v' _ _ (f.put hd v') s'⟩
end
end Go.Ck
end

section
namespace Go.Proofs.YtgeepceieckooaaGreatDoor
open Go Go.Ck
set_option maxHeartbeats 4000000
def padW (b : List Int) : List Int := num4 b.length ++ b ++ List.replicate ((sizeF b.length).toNat - (4 + b.length)) 0
theorem sizeF_bd {n : Int} (h0 : 0 ≤ n) (h1 : n ≤ 4000) : n + 4 ≤ sizeF n ∧ sizeF n ≤ 4096 := by
  unfold sizeF classK
  split
  · simp; omega
  · split
    · simp; omega
    · split
      · simp; omega
      · simp; omega
theorem padW_len {b : List Int} (hl : b.length ≤ 4000) : (padW b).length = (sizeF b.length).toNat := by
  have := sizeF_bd (n := b.length) (by omega) (by omega)
  simp only [padW, List.length_append, num4_len, List.length_replicate]
  omega
theorem padW_by {b : List Int} (hb : Bytes b) : Bytes (padW b) := cbytes_app (cbytes_app (putLow_bytes' 4 _) hb) (zeros_by _)
theorem Pad_sp (v : Value) (b : List Int) (hl : b.length ≤ 4000) (h : View) (hb : Bs8 h v b) (w : World) (s : St ⟨w, h, []⟩ h [] w) :
    Calls Tryz.prog 24 [v].toArray w fun e w' => ∃ v, e = .returned (.tuple #[v, .int .i64 0]) ∧ St ⟨w, h, []⟩ h [rowB v (padW b)] w' ∧ True := by
  obtain ⟨_, ad, cap, rfl, hcap, _⟩ := id hb
  have C1 := Class_sp (b.length : Nat) (by omega) (by omega) h
  have hsz := sizeF_bd (n := b.length) (by omega) (by omega)
  refine calls_enter Tryz.func24 rfl Tryz.ntmps24 rfl s ?_
  repeat' (first|refine tw_ ?_|(refine ta_ ?_;intro _)|(refine zk0 ?_ ?_<;>intro ht)|fail)
  (refine ycn (ycp Tryz.func55 rfl (by kernel_rfl) rfl) (C1) rfl rfl rfl ?_ ?_; (· (exact to_)))
  repeat' (first|refine zw3 ?_|(refine ta_ ?_;intro _)|(refine zk0 ?_ ?_<;>intro ht)|fail)
  rename_i bo
  refine rx_row 5 1 ?_
  refine rx_perm (List.Perm.swap _ _ _) ?_
  (refine rx_call_2 (ycp Tryz.func51 rfl (by kernel_rfl) rfl) (OutBytes_sp bo (.slice none 0 0) [] false _ b (by simp; omega) h hb) rfl rfl rfl ?_ ?_ ?_; (· (exact to_)); (·exact zc148); intro x px hle)
  repeat' (first|refine zw3 ?_|(refine ta_ ?_;intro _)|(refine zk0 ?_ ?_<;>intro ht)|fail)
  have hlen : ([] ++ num4 (b.length : Nat) ++ b).length = 4 + b.length := by simp [num4_len]
  (refine rx_call_2 (ycp Tryz.func28 rfl (by kernel_rfl) rfl) (Done_sp bo x ([] ++ num4 (b.length : Nat) ++ b) (by rw [hlen]; omega) h) rfl rfl rfl ?_ ?_ ?_; (· (exact to_)); (·exact zc148); intro x px hle)
  rw [List.nil_append] at hlen ⊢
  refine rx_rowform 0 rfl (fun _ h1 _ => (by omega)) ?_
  rintro g1 cap1 rfl
  have ws : IntKind.i64.wrap (sizeF (b.length : Nat) - ((num4 (b.length : Nat) ++ b).length : Nat)) = (((sizeF (b.length : Nat)).toNat - (4 + b.length) : Nat) : Int) := by rw [hlen, IntKind.wrap_i64]<;>omega
  repeat' (first|refine zw114 ?_|(refine ta_ ?_;intro _)|(refine zk0 ?_ ?_<;>intro ht)|fail)
  refine rx_append_zeros (z := .int .u8 0) (sz := 1) 0 rfl rfl rfl rfl rfl (by omega) (by unfold maxLen; rw [hlen]; omega) (by rw [hlen]; omega) rfl rfl rfl ybf (fun _ => ybf) ?_
  intro v9
  have hz : (Builtin.zeroCells (Value.int .u8 0).cells ((sizeF (b.length : Nat)).toNat - (4 + b.length))).toList = bcs (List.replicate ((sizeF (b.length : Nat)).toNat - (4 + b.length)) 0) := by
    rw [← zeros_bcs]
    apply List.ext_getElem
    · simp [size_zeroCells, Value.cells]
    · intro i h1 h2
      simp [Builtin.zeroCells, Value.cells, Nat.mod_one]
  rw [hz, ← bcs_app]
  repeat' (first|refine tw_ ?_|(refine ta_ ?_;intro _)|(refine zk0 ?_ ?_<;>intro ht)|fail)
  refine nx_ret2 rfl (rv_tmp rfl) (rv_tmp rfl) (fun w' s' => ⟨v9, rfl, ?_, trivial⟩)
  have s3 := s'.keep1
  unfold rowB
  rw [padW_len hl]
  have e : (num4 (b.length : Nat) ++ b).length + ((sizeF (b.length : Nat)).toNat - (4 + b.length)) = (sizeF (b.length : Nat)).toNat := by rw [hlen]; omega
  rw [e] at s3
  exact s3
end Go.Proofs.YtgeepceieckooaaGreatDoor
end

section
namespace Go.Ck
open Go
section
variable {P : Program} {n : Nat} {K : Bs} {F : List (Nat × Value)} {h : View} {L : List Res} {Q : Exit → Act → World → Prop}
variable {dst : Option Nat} {ty : Nat} {pos : String} {af : Array Edge} {gd : Option (Nat × Bool)}
theorem rx_noZero {g : Rg} {i : Nat} {r : List (Nat × Oper)} {f : FuncId} {fn : Func} {x : Operand} {T e m : Nat} {ps ats : Array TypeId} [tu : TyU P T (.slice e)] (hf : P.funcs[f]? = some fn) (hname : (fn.name == "runtime.NumGoroutine") = false)
    (hb : fn.body.isNone = true) (hnx : Extern.findNext fn = none) (he : Extern.find fn = some (Extern.BytealgMakeNoZero.makeNoZero ps #[T])) (hx : ev F x = some (.int .i64 m)) (hm : m ≤ 1000000)
    (hw : wantedF g.ops F ⟨dst, .call ⟨.value (.func f), #[x], ats⟩, ty, pos, af, gd⟩ = some true) (hd : okd n dst = true) (hl : g.lo i = true) (o1 : Owe g i h L) (o2 : ∀ b cs, Owe g i h (Res.blk b (.cells cs e (0, 0)) :: L))
    (hn : ∀ b (cs : Array Value), m ≤ cs.size → cs.size ≤ maxLen → RX P n K g r (putF dst (.slice (some ⟨b, 0, none⟩) m cs.size) F) h (Res.blk b (.cells cs e (0, 0)) :: L) Q) : RX P n K g ((i, ⟨dst, .call ⟨.value (.func f), #[x], ats⟩, ty, pos, af, gd⟩) :: r) F h L Q := by
  unfold RX at *
  intro a w fr s
  obtain ⟨cs, hrun, h1, h2⟩ := Lib.run_makeNoZero (P := P) w ps T e tu.u m (by omega)
  have s1 := s.drew.drew.alloc (.cells cs e (0, 0))
  refine .inr (.inr ⟨wantedF_ok fr hw, hl, o1.out s, ?_⟩)
  unfold Oper.wp
  have hex : (execOp a.eval ⟨dst, .call ⟨.value (.func f), #[x], ats⟩, ty, pos, af, gd⟩).run P w = .ok (.value (.slice (some ⟨w.heap.size, 0, none⟩) m cs.size)) (w.drew.drew.alloc (.cells cs e)) := by
    have hc := run_callFunc_extern (P := P) hf hname hb hnx he #[.int .i64 m] w
    rw [hrun] at hc
    have hfv : a.eval (.func f) = .func (.func f) #[] #[] := rfl
    simp [execOp, resolve, hfv, Deferred.ofValue, invoke, fr.ev hx, hc]
  rw [hex]
  exact ⟨(o2 _ _).out s1, hn _ cs h1 (h2 (by unfold maxLen; omega)) _ _ (fr.put hd _) s1⟩
theorem qv_slice_max {T e k : Nat} {x y z : Operand} {ad : Option Addr} {len cap : Nat} {ky kz : IntKind} {i m : Nat} [tu : TyU P T (.slice e)] [ts : TyS P e k] (hx : ev F x = some (.slice ad len cap)) (hy : ev F y = some (.int ky i)) (hz : ev F z = some (.int kz m)) (h0 : i ≤ m) (h1 : m ≤ cap) :
    QV P n F h L ⟨dst, .slice T x none (some y) (some z), ty, pos, af, gd⟩ (.slice ad i m) := .mk fun a w f s => by
  have h2 : (i : Int) ≤ (m : Int) := by omega
  have h3 : (m : Int) ≤ (cap : Int) := by omega
  simp [execOp, f.ev hx, f.ev hy, f.ev hz, Instr.sliceAt, Instr.slice, Instr.sliceBounds, Instr.sliceBound, asIntOf, run_underlying tu.u, ts.s, h0, h1, h2, h3]
  intro hc
  cases ad with
  | none => rfl
  | some ad => simp [Addr.add]
theorem qv_binc {op : BinOp} {T T' : Nat} {x y : Operand} {kx ky : IntKind} {i j : Int} {v : Value} (hx : ev F x = some (.int kx i)) (hy : ev F y = some (.int ky j)) (hg : ∀ w, (eqGuard op T x y (.int kx i) (.int ky j)).run P w = .ok () w) (hr : ∀ w, (binOp op T (.int kx i) (.int ky j)).run P w = .ok v w) :
    QV P n F h L ⟨dst, .binOp op T x y T', ty, pos, af, gd⟩ v := .mk fun a w f s => by
  simp [execOp, f.ev hx, f.ev hy, hg, hr]
end
theorem qv_slice_fromz {P : Program} {n : Nat} {F : List (Nat × Value)} {h : View} {L : List Res} {dst : Option Nat} {ty : Nat} {pos : String} {af : Array Edge} {gd : Option (Nat × Bool)} {T e k : Nat} {x y : Operand} {b len cap i : Nat} {ki : IntKind} [tu : TyU P T (.slice e)] [ts : TyS P e k] (hx : ev F x = some (.slice (some ⟨b, 0, none⟩) len cap)) (hy : ev F y = some (.int ki i)) (h1 : i ≤ len) (h2 : i < cap) :
    QV P n F h L ⟨dst, .slice T x (some y) none none, ty, pos, af, gd⟩ (.slice (some ⟨b, i * k, none⟩) (len - i) (cap - i)) := by
  have := qv_slice_from (P := P) (n := n) (h := h) (L := L) (dst := dst) (ty := ty) (pos := pos) (af := af) (gd := gd) (T := T) (e := e) (k := k) hx hy h1
  have e1 : cutF (some ⟨b, 0, none⟩) cap i k = some ⟨b, i * k, none⟩ := by
    unfold cutF
    rw [if_neg (by omega)]
    show some ((⟨b, 0, none⟩ : Addr).add (i * k)) = _
    rw [Addr.add_off, Nat.zero_add]
  rwa [e1] at this
end Go.Ck
end

section
namespace Go.Proofs.YtgeepceieckooaaGreatDoor
open Go Go.Ck
set_option maxHeartbeats 4000000
theorem bGrow_sp (m : Nat) (hm : m ≤ 1000000) (h : View) (w : World) (s : St ⟨w, h, []⟩ h [] w) :
    Calls Tryz.prog 131 [.slice none 0 0, .int .i64 m].toArray w fun e w' => ∃ v, e = .returned v ∧ St ⟨w, h, []⟩ h [rowB v []] w' ∧ True := by
  refine calls_enter Tryz.func131 rfl Tryz.ntmps131 rfl s ?_
  repeat' (first|refine zw115 ?_|(refine ta_ ?_;intro _)|(refine zk0 ?_ ?_<;>intro ht)|fail)
  · refine rx_row 5 1 ?_
    have hm0 : 0 < m := by omega
    have e1 : (m : Int) - (((0 : Nat) : Int) - ((0 : Nat) : Int)) = m := by omega
    rw [e1]
    refine rx_grow_nil 0 rfl rfl rfl hm0 rfl (by omega) (by unfold maxLen; omega) (by omega) rfl rfl rfl ybf (fun _ _ => ybf) ?_
    intro b cap hc1 hc2
    refine rx_cut 0 0 rfl (Nat.zero_le _) ?_
    repeat' (first|refine zw115 ?_|(refine ta_ ?_;intro _)|(refine zk0 ?_ ?_<;>intro ht)|fail)
    refine nx_ret1 rfl (rv_tmp rfl) (fun w' s' => ⟨_, rfl, ?_, trivial⟩)
    exact s'
  · refine nx_ret1 rfl (rv_tmp rfl) (fun w' s' => ⟨_, rfl, ?_, trivial⟩)
    exact s'.rowNil _ _
def flatB (parts : List (Value × List Int)) (k : Nat) : List Int := (parts.take k).flatMap (·.2)
theorem flatB_succ {parts : List (Value × List Int)} {k : Nat} (hk : k < parts.length) : flatB parts (k + 1) = flatB parts k ++ parts[k].2 := by
  unfold flatB
  rw [List.take_succ_eq_append_getElem hk, List.flatMap_append]
  simp
theorem flatB_le {parts : List (Value × List Int)} {k : Nat} (hk : k ≤ parts.length) : (flatB parts k).length ≤ (flatB parts parts.length).length := by
  unfold flatB
  rw [List.take_length]
  conv => rhs; rw [← List.take_append_drop k parts]
  rw [List.flatMap_append, List.length_append]
  omega
theorem bConcat_sp (sv : Value) (parts : List (Value × List Int)) (h : View) (hs : Sc h 1 sv parts.length (parts.map (·.1))) (hp : ∀ p ∈ parts, Bs8 h p.1 p.2) (hlen : (flatB parts parts.length).length ≤ 1000000) (hpl : parts.length ≤ 1000000) (w : World) (s : St ⟨w, h, []⟩ h [] w) :
    Calls Tryz.prog 114 [sv].toArray w fun e w' => ∃ v, e = .returned v ∧ St ⟨w, h, []⟩ h [rowB v (flatB parts parts.length)] w' ∧ True := by
  obtain ⟨_, ad, cap, rfl, hcap, _⟩ := id hs
  refine calls_enter Tryz.func114 rfl Tryz.ntmps114 rfl s ?_
  repeat' (first|refine zw115 ?_|(refine ta_ ?_;intro _)|(refine zk0 ?_ ?_<;>intro ht)|fail)
  refine cx_loop (X := Nat) (fun k => [(0, .slice ad parts.length cap), (3, .int .i64 (flatB parts k).length), (9, .slice ad parts.length cap), (10, .int .i64 parts.length), (11, .int .i64 k)]) (fun _ => h) (fun _ => []) (fun k => k ≤ parts.length) (fun k => parts.length - k) 0 (Nat.zero_le _) ts_ (fun _ s => s) ?_
  intro k hk
  by_cases hkl : k < parts.length
  · obtain ⟨bs, o, rfl⟩ := hs.ad (by omega) (by omega)
    have hel : ∀ L, CellAt h L bs (o + k * 1) parts[k].1 := fun L => (hs.cells (L := L)).cell (by simp [hkl])
    have hd := hp _ (List.getElem_mem hkl)
    obtain ⟨_, ad1, cap1, hv1, _, _⟩ := id hd
    have e1 := flatB_succ hkl
    have h1 := flatB_le (parts := parts) (k := k + 1) hkl
    have h2 : (flatB parts (k + 1)).length = (flatB parts k).length + parts[k].2.length := by rw [e1, List.length_append]
    rw [hv1] at hel
    repeat' (first|refine zw116 ?_|(refine ta_ ?_;intro _)|(refine zk0 ?_ ?_<;>intro ht)|fail)
    · refine nx_round (k + 1) (by show k + 1 ≤ _; omega) (by show parts.length - (k + 1) < parts.length - k; omega) ?_ (fun _ s => s)
      rw [h2]
      exact ts_
    · omega
  · have ek : k = parts.length := by omega
    subst ek
    repeat' (first|refine zw116 ?_|(refine ta_ ?_;intro _)|(refine zk0 ?_ ?_<;>intro ht)|fail)
    · omega
    (refine yco (ycp Tryz.func131 rfl (by kernel_rfl) rfl) (bGrow_sp (flatB parts parts.length).length hlen h) rfl rfl rfl ?_ ?_ ?_; (· (exact to_)); (·exact zc148); intro x px hle)
    repeat' (first|refine zw116 ?_|(refine ta_ ?_;intro _)|(refine zk0 ?_ ?_<;>intro ht)|fail)
    have e0 : flatB parts 0 = [] := rfl
    refine cx_loop (X := Nat × Value) (fun y => [(6, y.2), (25, .slice ad parts.length cap), (26, .int .i64 parts.length), (27, .int .i64 y.1)]) (fun _ => h) (fun y => [rowB y.2 (flatB parts y.1)]) (fun y => y.1 ≤ parts.length) (fun y => parts.length - y.1) (0, x) (Nat.zero_le _) ts_ (fun _ s => s) ?_
    rintro ⟨k, v⟩ hk
    replace hk : k ≤ parts.length := hk
    dsimp only
    by_cases hkl : k < parts.length
    · obtain ⟨bs, o, rfl⟩ := hs.ad (by omega) (by omega)
      have hel : ∀ L, CellAt h L bs (o + k * 1) parts[k].1 := fun L => (hs.cells (L := L)).cell (by simp [hkl])
      have hd := hp _ (List.getElem_mem hkl)
      obtain ⟨_, ad1, cap1, hv1, _, _⟩ := id hd
      have e1 := flatB_succ hkl
      have h1 := flatB_le (parts := parts) (k := k + 1) hkl
      have h2 : (flatB parts (k + 1)).length = (flatB parts k).length + parts[k].2.length := by rw [e1, List.length_append]
      rw [hv1] at hel hd
      repeat' (first|refine zw116 ?_|(refine ta_ ?_;intro _)|(refine zk0 ?_ ?_<;>intro ht)|fail)
      · refine rx_append_sc (sz := 1) 0 rfl rfl rfl hd (bcs_one _) rfl (by omega) (by unfold maxLen; omega) (by omega) rfl rfl rfl ybf (fun _ => ybf) ?_
        intro v2 _
        repeat' (first|refine zw116 ?_|(refine ta_ ?_;intro _)|(refine zk0 ?_ ?_<;>intro ht)|fail)
        refine nx_round (k + 1, v2) (by show k + 1 ≤ _; omega) (by show parts.length - (k + 1) < parts.length - k; omega) ts_ (fun _ s => ?_)
        dsimp only
        unfold rowB
        rw [h2, e1, bcs_app]
        exact s
      · omega
    · have ek : k = parts.length := by omega
      subst ek
      repeat' (first|refine zw116 ?_|(refine ta_ ?_;intro _)|(refine zk0 ?_ ?_<;>intro ht)|fail)
      · omega
      refine nx_ret1 rfl (rv_tmp rfl) (fun w' s' => ⟨_, rfl, ?_, trivial⟩)
      exact s'
end Go.Proofs.YtgeepceieckooaaGreatDoor
end

section
namespace Go.Proofs.YtgeepceieckooaaGreatDoor
open Go Go.Ck
set_option maxHeartbeats 4000000
def padZ (n : Nat) : Nat := (119 - n % 64) % 64
def padF (b : List Int) : List Int := b ++ [128] ++ List.replicate (padZ b.length) 0 ++ num8 (8 * b.length)
def blocksF (p : List Int) : Nat → List W32
  | 0 => shH
  | k + 1 => mixF (blocksF p k) ((p.drop (64 * k)).take 64)
def shaF (b : List Int) : List Int := (blocksF (padF b) ((padF b).length / 64)).flatMap fun x => num4 x.toNat
theorem blocksF_len (p : List Int) : ∀ k, (blocksF p k).length = 8
  | 0 => rfl
  | k + 1 => mixF_len _ (blocksF_len p k)
theorem padF_len (b : List Int) : (padF b).length % 64 = 0 ∧ (padF b).length = b.length + 1 + padZ b.length + 8 := by
  have : (padF b).length = b.length + 1 + padZ b.length + 8 := by simp [padF, num8_len]; omega
  refine ⟨?_, this⟩
  rw [this]
  unfold padZ
  omega
theorem padF_bytes {b : List Int} (hb : Bytes b) : Bytes (padF b) := fun x hx => by
  unfold padF at hx
  rcases List.mem_append.1 hx with hx | hx
  · rcases List.mem_append.1 hx with hx | hx
    · rcases List.mem_append.1 hx with hx | hx
      · exact hb x hx
      · rw [List.mem_singleton.1 hx]; decide
    · rw [(List.mem_replicate.1 hx).2]; decide
  · exact putLow_bytes' _ _ x hx
theorem flatB_bytes {parts : List (Value × List Int)} (h : ∀ p ∈ parts, Bytes p.2) : Bytes (flatB parts parts.length) := fun x hx => by
  unfold flatB at hx
  obtain ⟨p, hp, hx⟩ := List.mem_flatMap.1 hx
  exact h p (List.mem_of_mem_take hp) x hx
theorem shaSum_sp (sv : Value) (parts : List (Value × List Int)) (h : View) (hs : Sc h 1 sv parts.length (parts.map (·.1))) (hp : ∀ p ∈ parts, Bs8 h p.1 p.2) (hby : ∀ p ∈ parts, Bytes p.2) (hlen : (flatB parts parts.length).length ≤ 900000) (hpl : parts.length ≤ 1000000) (hg : ShG h) (w : World) (s : St ⟨w, h, []⟩ h [] w) :
    Calls Tryz.prog 100 [sv].toArray w fun e w' => e = .returned (.agg (bcs (shaF (flatB parts parts.length))).toArray) ∧ St ⟨w, h, []⟩ h [] w' := by
  refine calls_enter Tryz.func100 rfl Tryz.ntmps100 rfl s ?_
  repeat' (first|refine tw_ ?_|(refine ta_ ?_;intro _)|(refine zk0 ?_ ?_<;>intro ht)|fail)
  (refine yco (ycp Tryz.func114 rfl (by kernel_rfl) rfl) (bConcat_sp sv parts h hs hp (by omega) hpl) rfl rfl rfl ?_ ?_ ?_; (· (exact to_)); (·exact zc148); intro x px hle)
  repeat' (first|refine tw_ ?_|(refine ta_ ?_;intro _)|(refine zk0 ?_ ?_<;>intro ht)|fail)
  rename_i b2
  generalize hbb : flatB parts parts.length = b at hlen ⊢
  refine rx_rowsl 0 rfl ?_
  rintro ad cap rfl
  have hw : IntKind.u64.wrap (b.length : Int) = (b.length : Int) := wrap_u64 (by omega) (by omega)
  repeat' (first|refine zw117 ?_|(refine ta_ ?_;intro _)|(refine zk0 ?_ ?_<;>intro ht)|fail)
  refine rx_append (sz := 1) 1 rfl rfl rfl (yaz 0 rfl) rfl (bcs_one [128]) rfl (by omega) (by unfold maxLen; omega) (by omega) rfl rfl rfl ybf (fun _ => ybf) ?_
  intro v1 _
  repeat' (first|refine tw_ ?_|(refine ta_ ?_;intro _)|(refine zk0 ?_ ?_<;>intro ht)|fail)
  refine cx_loop (X := Nat × Value) (fun y => [(2, .pointer (some ⟨b2, 0, none⟩)), (3, y.2), (4, .int .u64 (b.length : Nat))]) (fun _ => h) (fun y => [rowB y.2 (b ++ [128] ++ List.replicate y.1 0), Res.blk b2 (.cells (bcs (List.replicate 32 0)).toArray 33 (0, 0))])
    (fun y => y.1 ≤ padZ b.length) (fun y => padZ b.length - y.1) (0, v1) (Nat.zero_le _) ts_ (fun _ s => ?_) ?_
  · dsimp only
    rw [List.replicate_zero, List.append_nil]
    unfold rowB
    rw [List.length_append, bcs_app]
    exact s.tl
  rintro ⟨k, v⟩ hk
  replace hk : k ≤ padZ b.length := hk
  dsimp only
  have hpz : padZ b.length < 64 := by unfold padZ; omega
  have hpm : (b.length + 1 + padZ b.length) % 64 = 56 := by unfold padZ; omega
  have hln : (b ++ [128] ++ List.replicate k (0 : Int)).length = b.length + 1 + k := by simp; omega
  by_cases hkz : k < padZ b.length
  · have hrem : (((b ++ [128] ++ List.replicate k (0 : Int)).length : Nat) : Int).tmod 64 = (((b.length + 1 + k) % 64 : Nat) : Int) := by rw [hln]; rfl
    have hne : (b.length + 1 + k) % 64 ≠ 56 := by unfold padZ at hkz; omega
    refine cx_rowsl 0 rfl ?_
    rintro ad1 cap1 rfl
    repeat' (first|refine zw118 ?_|(refine ta_ ?_;intro _)|(refine zk0 ?_ ?_<;>intro ht)|fail)
    refine rx_append (sz := 1) 1 rfl rfl rfl (yaz 0 rfl) rfl (bcs_one [0]) rfl (by omega) (by unfold maxLen; omega) (by omega) rfl rfl rfl ybf (fun _ => ybf) ?_
    intro v2 _
    repeat' (first|refine tw_ ?_|(refine ta_ ?_;intro _)|(refine zk0 ?_ ?_<;>intro ht)|fail)
    refine nx_round (k + 1, v2) (by show k + 1 ≤ _; omega) (by show padZ b.length - (k + 1) < padZ b.length - k; omega) ts_ (fun _ s => ?_)
    dsimp only
    rw [List.replicate_succ', ← List.append_assoc]
    unfold rowB
    rw [List.length_append, bcs_app]
    exact s.tl
  · have ek : k = padZ b.length := by omega
    subst ek
    have hrem : (((b ++ [128] ++ List.replicate (padZ b.length) (0 : Int)).length : Nat) : Int).tmod 64 = 56 := by
      rw [hln, show (((b.length + 1 + padZ b.length : Nat) : Int)).tmod 64 = (((b.length + 1 + padZ b.length) % 64 : Nat) : Int) from rfl, hpm]
      rfl
    refine cx_rowsl 0 rfl ?_
    rintro ad1 cap1 rfl
    repeat' (first|refine zw118 ?_|(refine ta_ ?_;intro _)|(refine zk0 ?_ ?_<;>intro ht)|fail)
    have hsh : IntKind.u64.wrap ((b.length : Int) * 2 ^ 3) = 8 * (b.length : Int) := by
      have e : (2 : Int) ^ 3 = 8 := by decide
      rw [e, Int.mul_comm]
      exact wrap_u64 (by omega) (by omega)
    repeat' (first|refine zw119 ?_|(refine ta_ ?_;intro _)|(refine zk0 ?_ ?_<;>intro ht)|fail)
    have hp8 := putLow_len 8 (8 * (b.length : Int))
    (refine yco (ycp Tryz.func88 rfl (by kernel_rfl) rfl) (PutHigh_sp (8 * (b.length : Int)) 8 ⟨by omega, by omega⟩ (by omega) (by omega) h) rfl rfl rfl ?_ ?_ ?_; (· (exact to_)); (·exact zc148); intro x px hle)
    refine rx_rowform 0 rfl (fun _ h1 _ => (by rw [List.length_reverse] at h1; omega)) ?_
    rintro g cap2 rfl
    repeat' (first|refine zw119 ?_|(refine ta_ ?_;intro _)|(refine zk0 ?_ ?_<;>intro ht)|fail)
    refine rx_append (sz := 1) 1 rfl rfl rfl (row_cells 0 rfl) (by rw [bcs_len, Nat.mul_one]) (bcs_one _) rfl (by omega) (by unfold maxLen; rw [List.length_reverse]; omega) (by rw [List.length_reverse]; omega) rfl rfl rfl ybf (fun _ => ybf) ?_
    intro v2 _
    refine rx_perm (perm_at (k := 1) rfl) ?_
    refine rx_persist rfl fun h1 hle1 hsp => ?_
    have hP : Bs8 h1 v2 (padF b) := by
      unfold Bs8
      have e : (padF b).length = (b ++ [128] ++ List.replicate (padZ b.length) (0 : Int)).length + (putLow 8 (8 * (b.length : Int))).reverse.length := by unfold padF; rw [List.length_append]; rfl
      rw [e, show bcs (padF b) = bcs (b ++ [128] ++ List.replicate (padZ b.length) (0 : Int)) ++ bcs (putLow 8 (8 * (b.length : Int))).reverse by unfold padF; rw [bcs_app]; rfl]
      exact hsp
    have hg1 := hg.mono hle1
    obtain ⟨_, eS, fzS, hgS⟩ := id hg1
    have hcS : ∀ L, Cells h1 L ⟨0, 0, none⟩ (up32 shH) := fun L => cells_view (cs := (up32 shH).toArray) hgS
    have h8 : shH.length = 8 := rfl
    have hpl2 := padF_len b
    have hpb : Bytes (padF b) := padF_bytes (by rw [← hbb]; exact flatB_bytes hby)
    have e0 : blocksF (padF b) 0 = shH := rfl
    generalize hpF : padF b = p at hP hpl2 hpb e0 ⊢
    repeat' (first|refine zw120 ?_|(refine ta_ ?_;intro _)|(refine zk0 ?_ ?_<;>intro ht)|fail)
    rename_i b5
    obtain ⟨_, adp, capp, rfl, hcapp, _⟩ := id hP
    refine cx_loop (X := Nat × Option Addr × Nat) (fun y => [(2, .pointer (some ⟨b2, 0, none⟩)), (3, .slice y.2.1 (p.length - 64 * y.1) y.2.2), (5, .pointer (some ⟨b5, 0, none⟩))]) (fun _ => h1)
      (fun y => [Res.blk b5 (.cells (up32 (blocksF p y.1)).toArray 164 (0, 0)), Res.blk b2 (.cells (bcs (List.replicate 32 0)).toArray 33 (0, 0))])
      (fun y => 64 * y.1 ≤ p.length ∧ Bs8 h1 (.slice y.2.1 (p.length - 64 * y.1) y.2.2) (p.drop (64 * y.1))) (fun y => p.length - 64 * y.1) (0, adp, capp) ⟨by omega, by simpa using hP⟩ ts_ (fun _ s => ?_) ?_
    · dsimp only
      rw [e0]
      exact (s.perm (List.Perm.swap _ _ _)).tl
    rintro ⟨k, ad3, cap3⟩ ⟨hk, hv⟩
    dsimp only at hk hv ⊢
    have hbl := blocksF_len p k
    have hlen : (p.drop (64 * k)).length = p.length - 64 * k := by simp
    by_cases hkl : 64 * k < p.length
    · have hge : 64 ≤ p.length - 64 * k := by omega
      have hv2 : Bs8 h1 (.slice ad3 (p.drop (64 * k)).length cap3) (p.drop (64 * k)) := by rw [hlen]; exact hv
      have hT : Bs8 h1 (.slice ad3 64 cap3) ((p.drop (64 * k)).take 64) := by
        have e64 : ((p.drop (64 * k)).take 64).length = 64 := by simp; omega
        have := sc_take hv2 (j := 64) (by omega)
        unfold Bs8
        rw [e64]
        simpa [bcs] using this
      have hD : Bs8 h1 (.slice (cutF ad3 cap3 64 1) (p.length - 64 * (k + 1)) (cap3 - 64)) (p.drop (64 * (k + 1))) := by
        have := sc_drop hv2 (by decide) (j := 64) (by omega)
        have e1 : (p.drop (64 * (k + 1))).length = p.length - 64 * (k + 1) := by simp
        unfold Bs8
        rw [e1]
        have e2 : bcs (p.drop (64 * (k + 1))) = (bcs (p.drop (64 * k))).drop (64 * 1) := by simp [bcs, List.drop_drop]; congr 1
        rw [e2, show p.length - 64 * (k + 1) = (p.drop (64 * k)).length - 64 by rw [hlen]; omega]
        exact this
      have M := mix_sp (blocksF p k) _ _ hbl (bytes_take (bytes_drop hpb (64 * k)) 64) (by simp; omega) h1 hT hg1
      rw [show mixF (blocksF p k) ((p.drop (64 * k)).take 64) = blocksF p (k + 1) from rfl] at M
      have hbl2 := blocksF_len p (k + 1)
      generalize hnx : blocksF p (k + 1) = nx at M hbl2
      generalize blocksF p k = cu at M hbl
      have hcap3 : p.length - 64 * k ≤ cap3 := by
        obtain ⟨_, _, cc, e7, hc, _⟩ := id hv2
        injection e7 with _ _ e9
        omega
      repeat' (first|refine zw121 ?_|(refine ta_ ?_;intro _)|(refine zk0 ?_ ?_<;>intro ht)|fail)
      refine cx_region_draw' rfl (by kernel_rfl) ?_
      repeat' (first|refine zw122 ?_|(refine ycf ?_;(first|(refine zg0 ?_ ?_<;>intro ht)|(refine tb_ ?_ ?_ ?_;(·(exact to_));(·intro _;(exact to_));intro _)))|fail)
      (refine ycn (ycp Tryz.func115 rfl (by kernel_rfl) rfl) (M) rfl rfl rfl ?_ ?_; (· (exact to_)))
      repeat' (first|refine zw122 ?_|(refine ycf ?_;(first|(refine zg0 ?_ ?_<;>intro ht)|(refine tb_ ?_ ?_ ?_;(·(exact to_));(·intro _;(exact to_));intro _)))|fail)
      repeat' (first|refine zw123 ?_|(refine ta_ ?_;intro _)|(refine zk0 ?_ ?_<;>intro ht)|fail)
      refine nx_round (k + 1, cutF ad3 cap3 64 1, cap3 - 64) ⟨by show 64 * (k + 1) ≤ p.length; omega, hD⟩ (by show p.length - 64 * (k + 1) < p.length - 64 * k; omega) ?_ (fun _ s => by dsimp only; rw [hnx]; exact s)
      dsimp only
      rw [show p.length - 64 * (k + 1) = p.length - 64 * k - 64 by omega]
      exact ts_
    · have ek : k = p.length / 64 := by omega
      subst ek
      generalize hR : blocksF p (p.length / 64) = R at hbl ⊢
      repeat' (first|refine zw124 ?_|(refine ta_ ?_;intro _)|(refine zk0 ?_ ?_<;>intro ht)|fail)
      refine cx_row 5 1 ?_
      refine cx_loop (X := Nat × Value) (fun y => [(2, .pointer (some ⟨b2, 0, none⟩)), (6, y.2), (39, .agg (up32 R).toArray), (40, .int .i64 (y.1 : Nat))]) (fun _ => h1)
        (fun y => [rowB y.2 ((R.take y.1).flatMap fun x => num4 x.toNat), Res.blk b5 (.cells (up32 R).toArray 164 (0, 0)), Res.blk b2 (.cells (bcs (List.replicate 32 0)).toArray 33 (0, 0))])
        (fun y => y.1 ≤ 8) (fun y => 8 - y.1) (0, .slice none 0 0) (Nat.zero_le _) ts_ (fun _ s => s) ?_
      rintro ⟨i, vo⟩ hi
      replace hi : i ≤ 8 := hi
      dsimp only
      have hfl : ((R.take i).flatMap fun x => num4 x.toNat).length = 4 * i := by
        have : ∀ l : List W32, (l.flatMap fun x => num4 x.toNat).length = 4 * l.length := fun l => by
          induction l with
          | nil => rfl
          | cons a l ih => rw [List.flatMap_cons, List.length_append, num4_len, ih, List.length_cons]; omega
        rw [this, List.length_take]; omega
      by_cases hi8 : i < 8
      · have hgx := getD_at (l := R) (i := i) (by omega)
        have hfs : ((R.take (i + 1)).flatMap fun x => num4 x.toNat) = ((R.take i).flatMap fun x => num4 x.toNat) ++ num4 (R.getD i 0).toNat := by
          rw [flat_succ (by omega : i < R.length)]
          congr 3
          simp [List.getD_eq_getElem?_getD, hbl, hi8]
        generalize R.getD i 0 = xi at hgx hfs
        have hidx : (up32 R).toArray[((i : Int)).toNat * 1]? = some (v32 xi) := by
          rw [Nat.mul_one, Int.toNat_natCast, List.getElem?_toArray]
          exact up32_at hgx
        have hp4 := putLow_len 4 (xi.toNat : Int)
        have hx32 := xi.isLt
        repeat' (first|refine zw125 ?_|(refine ta_ ?_;intro _)|(refine zk0 ?_ ?_<;>intro ht)|fail)
        (refine yco (ycp Tryz.func88 rfl (by kernel_rfl) rfl) (PutHigh_sp (xi.toNat : Int) 4 ⟨by omega, by omega⟩ (by omega) (by omega) h1) rfl rfl rfl ?_ ?_ ?_; (· (exact to_)); (·exact zc148); intro x px hle)
        refine rx_rowform 0 rfl (fun _ h1 _ => (by rw [List.length_reverse] at h1; omega)) ?_
        rintro g4 cap4 rfl
        repeat' (first|refine tw_ ?_|(refine ta_ ?_;intro _)|(refine zk0 ?_ ?_<;>intro ht)|fail)
        refine rx_append (sz := 1) 1 rfl rfl rfl (row_cells 0 rfl) (by rw [bcs_len, Nat.mul_one]) (bcs_one _) rfl (by omega) (by unfold maxLen; rw [List.length_reverse]; omega) (by rw [List.length_reverse]; omega) rfl rfl rfl ybf (fun _ => ybf) ?_
        intro v5 _
        repeat' (first|refine tw_ ?_|(refine ta_ ?_;intro _)|(refine zk0 ?_ ?_<;>intro ht)|fail)
        refine nx_round (i + 1, v5) (by show i + 1 ≤ 8; omega) (by show 8 - (i + 1) < 8 - i; omega) ts_ (fun _ s => ?_)
        dsimp only
        rw [hfs]
        unfold rowB
        rw [List.length_append, bcs_app]
        exact s.tl
      · have ei : i = 8 := by omega
        subst ei
        rw [List.take_of_length_le (by omega)] at hfl ⊢
        repeat' (first|refine zw3 ?_|(refine ta_ ?_;intro _)|(refine zk0 ?_ ?_<;>intro ht)|fail)
        refine rx_rowform 0 rfl (fun _ h1 _ => (by omega)) ?_
        rintro g6 cap6 rfl
        have hsha : shaF b = R.flatMap fun x => num4 x.toNat := by
          unfold shaF
          rw [hpF, hR]
        rw [hsha]
        generalize (R.flatMap fun x => num4 (x.toNat : Int)) = out at hfl ⊢
        have hol : (bcs out).length = 32 := by rw [bcs_len]; omega
        repeat' (first|refine zw126 ?_|(refine ta_ ?_;intro _)|(refine zk0 ?_ ?_<;>intro ht)|fail)
        exact nx_ret1 rfl (rv_cells rfl (yaz 2 rfl) (by show (bcs out).toArray.toList.length = 32; simpa using hol)) (fun w' s' => ⟨rfl, s'.nil.base⟩)
end Go.Proofs.YtgeepceieckooaaGreatDoor
end

section
namespace Go.Proofs.YtgeepceieckooaaGreatDoor
open Go Go.Ck
set_option maxHeartbeats 4000000
theorem Mul64_sp (h : View) (w : World) (s : St ⟨w, h, []⟩ h [] w) :
    Calls Tryz.prog 147 [.int .u64 1, .int .u64 64].toArray w fun e w' => e = .returned (.tuple #[.int .u64 0, .int .u64 64]) ∧ St ⟨w, h, []⟩ h [] w' := by
  refine calls_enter Tryz.func147 rfl Tryz.ntmps147 rfl s ?_
  repeat' (first|refine zw127 ?_|(refine ta_ ?_;intro _)|(refine zk0 ?_ ?_<;>intro ht)|fail)
  exact nx_ret2 rfl (rv_tmp rfl) (rv_tmp rfl) (fun w' s' => ⟨rfl, s'⟩)
theorem Mul_sp (h : View) (w : World) (s : St ⟨w, h, []⟩ h [] w) :
    Calls Tryz.prog 134 [.int .u64 1, .int .u64 64].toArray w fun e w' => e = .returned (.tuple #[.int .u64 0, .int .u64 64]) ∧ St ⟨w, h, []⟩ h [] w' := by
  refine calls_enter Tryz.func134 rfl Tryz.ntmps134 rfl s ?_
  repeat' (first|refine zw128 ?_|(refine ta_ ?_;intro _)|(refine zk0 ?_ ?_<;>intro ht)|fail)
  (refine ycn (ycp Tryz.func147 rfl (by kernel_rfl) rfl) (Mul64_sp h) rfl rfl rfl ?_ ?_; (· (exact to_)))
  repeat' (first|refine zw128 ?_|(refine ta_ ?_;intro _)|(refine zk0 ?_ ?_<;>intro ht)|fail)
  exact nx_ret2 rfl (rv_tmp rfl) (rv_tmp rfl) (fun w' s' => ⟨rfl, s'⟩)
theorem Repeat_sp (v : Value) (x : Int) (hx : 0 ≤ x ∧ x < 256) (h : View) (hb : Bs8 h v [x]) (w : World) (s : St ⟨w, h, []⟩ h [] w) :
    Calls Tryz.prog 116 [v, .int .i64 64].toArray w fun e w' => ∃ y : View × Value, e = .returned y.2 ∧ St ⟨w, h, []⟩ y.1 [] w' ∧ Bs8 y.1 y.2 (List.replicate 64 x) := by
  obtain ⟨_, ad, cap, rfl, hcap, _⟩ := id hb
  refine calls_enter Tryz.func116 rfl Tryz.ntmps116 rfl s ?_
  repeat' (first|refine zw129 ?_|(refine ta_ ?_;intro _)|(refine zk0 ?_ ?_<;>intro ht)|fail)
  (refine ycn (ycp Tryz.func134 rfl (by kernel_rfl) rfl) (Mul_sp h) rfl rfl rfl ?_ ?_; (· (exact to_)))
  repeat' (first|refine zw129 ?_|(refine ta_ ?_;intro _)|(refine zk0 ?_ ?_<;>intro ht)|fail)
  refine rx_noZero (T := 22) (ps := #[3]) (m := 64) Tryz.func135 (by kernel_rfl) (by kernel_rfl) (by kernel_rfl) (by kernel_rfl) rfl (by omega) rfl rfl rfl ybf (fun _ _ => ybf) ?_
  intro g cs hcs1 hcs2
  repeat' (first|refine zw130 ?_|(refine ta_ ?_;intro _)|(refine zk0 ?_ ?_<;>intro ht)|fail)
  obtain ⟨bb, ob, rfl⟩ := hb.ad (by simp) (by omega)
  refine rx_copy (news := [.int .u8 x]) 0 rfl rfl rfl hb.cells rfl (by show 0 + 1 ≤ cs.size; omega) (fun u hu => by rw [List.mem_singleton.1 hu]; rfl) rfl rfl rfl rfl ybf ybf ?_
  have hc1 : (spl cs.toList 0 [.int .u8 x]).length = cs.size ∧ (spl cs.toList 0 [.int .u8 x]).take 1 = List.replicate 1 (.int .u8 x) := by
    constructor
    · rw [spl_len (by simp; omega)]; simp
    · simp [spl]
  repeat' (first|refine zw3 ?_|(refine ta_ ?_;intro _)|(refine zk0 ?_ ?_<;>intro ht)|fail)
  refine cx_loop (X := Nat × List Value) (fun y => [(7, .int .i64 (64 : Nat)), (8, .int .i64 (64 : Nat)), (9, .slice (some ⟨g, 0, none⟩) 64 64), (10, .int .i64 (y.1 : Nat))]) (fun _ => h) (fun y => [Res.blk g (.cells y.2.toArray 5 (0, 0))])
    (fun y => 1 ≤ y.1 ∧ y.1 ≤ 64 ∧ y.2.length = cs.size ∧ y.2.take y.1 = List.replicate y.1 (.int .u8 x)) (fun y => 64 - y.1) (1, spl cs.toList 0 [.int .u8 x]) ⟨by omega, by omega, hc1⟩ ts_ (fun _ s => s) ?_
  rintro ⟨k, c⟩ ⟨hk1, hk64, hcl, hct⟩
  dsimp only at hk1 hk64 hcl hct ⊢
  by_cases hkl : k < 64
  · have hmn : (if ((64 : Nat) : Int) < (k : Int) then ((64 : Nat) : Int) else (k : Int)) = (k : Int) := by rw [if_neg (by omega)]
    generalize hm : min k (64 - k) = m
    have hcut : (Value.slice (some ⟨g, 0, none⟩) k 64) = .slice (some ⟨g, 0, none⟩) (k : Int).toNat 64 := by rw [Int.toNat_natCast]
    repeat' (first|refine zw131 ?_|(refine ta_ ?_;intro _)|(refine zk0 ?_ ?_<;>intro ht)|fail)
    have hrl : (List.replicate m (Value.int .u8 x)).length = m := by simp
    have hsrc : Cells h [Res.blk g (.cells c.toArray 5 (0, 0))] ⟨g, 0, none⟩ (List.replicate m (Value.int .u8 x)) := by
      have h1 := (yaz (h := h) (L := [Res.blk g (.cells c.toArray 5 (0, 0))]) 0 rfl).take m
      have e : c.toArray.toList.take m = List.replicate m (Value.int .u8 x) := by
        have : c.take m = (c.take k).take m := by rw [List.take_take]; congr 1; omega
        show c.take m = _
        rw [this, hct, List.take_replicate]
        congr 1
        omega
      rw [e] at h1
      exact h1
    refine cx_region_draw [] rfl (by kernel_rfl) ?_
    repeat' (first|refine zw132 ?_|(refine ycf ?_;(first|(refine zg0 ?_ ?_<;>intro ht)|(refine tb_ ?_ ?_ ?_;(·exact zc48);(·exact zc152);intro _)))|fail)
    refine rx_copy (news := List.replicate m (.int .u8 x)) 0 rfl rfl rfl hsrc (by rw [hrl, Int.toNat_natCast]; omega) (by show k * 1 + _ ≤ c.toArray.size; rw [hrl, List.size_toArray]; omega) (fun u hu => by rw [(List.mem_replicate.1 hu).2]; rfl) rfl rfl rfl rfl ?_ ?_ ?_
    · (first|exact ybf | (refine .inl ?_;(exact fun _ s => Hd.sub s (Le.refl _) (fun r hr => nomatch hr))) | exact to_)
    · (first|exact ybf | (refine .inl ?_;(exact fun _ s => Hd.sub s (Le.refl _) (fun r hr => nomatch hr))) | exact to_)
    have hwa : IntKind.i64.wrap ((k : Int) + ((List.replicate m (Value.int .u8 x)).length : Nat)) = ((k + m : Nat) : Int) := by rw [hrl, IntKind.wrap_i64]<;>omega
    repeat' (first|refine zw133 ?_|(refine ycf ?_;(first|(refine zg0 ?_ ?_<;>intro ht)|(refine tb_ ?_ ?_ ?_;(·exact zc48);(·exact zc152);intro _)))|fail)
    repeat' (first|refine zw3 ?_|(refine ta_ ?_;intro _)|(refine zk0 ?_ ?_<;>intro ht)|fail)
    refine nx_round (k + m, spl c (k * 1) (List.replicate m (.int .u8 x))) ⟨by show 1 ≤ k + m; omega, by show k + m ≤ 64; omega, ?_, ?_⟩ (by show 64 - (k + m) < 64 - k; omega) ts_ (fun _ s => s)
    · show (spl c (k * 1) (List.replicate m (.int .u8 x))).length = _
      rw [spl_len (by rw [hrl]; omega)]
      exact hcl
    · show (spl c (k * 1) (List.replicate m (.int .u8 x))).take (k + m) = _
      have hlk : (c.take k).length = k := by rw [List.length_take]; omega
      unfold spl
      rw [Nat.mul_one, hct, List.take_append_of_le_length (by simp), List.take_of_length_le (by simp), List.replicate_append_replicate]
  · have ek : k = 64 := by omega
    subst ek
    repeat' (first|refine zw3 ?_|(refine ta_ ?_;intro _)|(refine zk0 ?_ ?_<;>intro ht)|fail)
    refine nx_ret1 rfl (rv_tmp rfl) (fun w' s' => ?_)
    have s1 := s'.persist rfl
    refine ⟨(addV h g (.cells c.toArray 5 (0, 0)), .slice (some ⟨g, 0, none⟩) 64 64), rfl, s1, ?_⟩
    refine ⟨by simp [bcs], _, _, by rw [List.length_replicate], by rw [List.length_replicate]; exact Nat.le_refl _, .inr ⟨g, 0, c.toArray, _, (0, 0), rfl, (by show addV h g _ g = _; unfold addV; rw [if_pos rfl]), fun j u hj => ?_⟩⟩
    have hb2 : bcs (List.replicate 64 x) = List.replicate 64 (.int .u8 x) := by simp [bcs]
    rw [hb2, ← hct, List.getElem?_take] at hj
    split at hj
    · rw [Nat.zero_add]; simpa using hj
    · cases hj
end Go.Proofs.YtgeepceieckooaaGreatDoor
end

section
namespace Go.Proofs.YtgeepceieckooaaGreatDoor
open Go Go.Ck
set_option maxHeartbeats 4000000
def cutV (l : List Int) : List Int := (byC (l, 0) 4000).1
def cutOk (l : List Int) : Bool := decide (padW (cutV l) = l)
theorem Cut_sp (v : Value) (l : List Int) (yb : Bytes l) (hl : l.length ≤ 900000) (h : View) (hb : Bs8 h v l) (w : World) (s : St ⟨w, h, []⟩ h [] w) :
    Calls Tryz.prog 76 [v].toArray w fun e w' => ∃ x : View × Value, e = .returned (.tuple #[x.2, .int .i64 (if cutOk l then 0 else 2)]) ∧ St ⟨w, h, []⟩ x.1 [] w' ∧ Bs8 x.1 x.2 (if cutOk l then cutV l else []) := by
  obtain ⟨_, ad, cap, rfl, hcap, _⟩ := id hb
  obtain ⟨_, yc, lc⟩ := RsOk.by (s := (l, 0)) (most := 4000) ⟨yb, by show l.length ≤ 140737488355328; omega⟩ (by omega)
  have hc4 : (cutV l).length ≤ 4000 := by unfold cutV; omega
  have hyc : Bytes (cutV l) := yc
  have hpl : (padW (cutV l)).length ≤ 900000 := by
    have := sizeF_bd (n := (cutV l).length) (by omega) (by omega)
    rw [padW_len hc4]
    omega
  refine calls_enter Tryz.func76 rfl Tryz.ntmps76 rfl s ?_
  repeat' (first|refine tw_ ?_|(refine ta_ ?_;intro _)|(refine zk0 ?_ ?_<;>intro ht)|fail)
  (refine yco (ycp Tryz.func42 rfl (by kernel_rfl) rfl) (Of_sp _ l (by omega) h hb) rfl rfl rfl ?_ ?_ ?_; (· (exact to_)); (·exact zc148); intro x px hle)
  obtain ⟨h1, bi, v1⟩ := x
  dsimp only at px hle
  (refine rx_call_m (ycp Tryz.func45 rfl (by kernel_rfl) rfl) (perm_at (k := 0) rfl) (InBytes_sp bi v1 l 0 4000 yb (by omega) (by omega) h1 px) rfl rfl rfl ?_ ?_ ?_; (· (exact to_)); (·exact zc148); intro x px hle)
  obtain ⟨h2, vo, v2⟩ := x
  obtain ⟨ho, _⟩ := px
  dsimp only at ho
  have hle2 : Le h h2 := Le.trans ‹Le h h1› hle
  have hb2 := hb.mono hle2
  clear hle
  change Bs8 h2 vo (cutV l) at ho
  obtain ⟨_, ad2, cap2, rfl, _, _⟩ := id ho
  repeat' (first|refine tw_ ?_|(refine ta_ ?_;intro _)|(refine zk0 ?_ ?_<;>intro ht)|fail)
  (refine yco (ycp Tryz.func24 rfl (by kernel_rfl) rfl) (Pad_sp _ (cutV l) hc4 h2 ho) rfl rfl rfl ?_ ?_ ?_; (· (exact to_)); (·exact zc148); intro x px hle)
  refine rx_persist rfl fun h3 hle3 hv3 => ?_
  clear hle
  have hb3 := hb2.mono hle3
  have ho3 := ho.mono hle3
  have hv3 : Bs8 h3 x (padW (cutV l)) := hv3
  obtain ⟨_, ad3, cap3, rfl, _, _⟩ := id hv3
  repeat' (first|refine tw_ ?_|(refine ta_ ?_;intro _)|(refine zk0 ?_ ?_<;>intro ht)|fail)
  have S1 := bSame_sp _ _ (padW (cutV l)) l h3 hv3 hb3 (padW_by hyc) yb hpl hl
  (refine ycn (ycp Tryz.func97 rfl (by kernel_rfl) rfl) (S1) rfl rfl rfl ?_ ?_; (· (exact to_)))
  by_cases hok : padW (cutV l) = l
  · have e1 : cutOk l = true := by unfold cutOk; simpa using hok
    have e2 : decide (padW (cutV l) = l) = true := by simpa using hok
    rw [e1, e2]
    repeat' (first|refine tw_ ?_|(refine ta_ ?_;intro _)|(refine zk0 ?_ ?_<;>intro ht)|fail)
    refine nx_ret2 rfl (rv_tmp rfl) (rv_tmp rfl) (fun w' s' => ⟨(h3, _), rfl, s'.nil, ?_⟩)
    exact ho3
  · have e1 : cutOk l = false := by unfold cutOk; simpa using hok
    have e2 : decide (padW (cutV l) = l) = false := by simpa using hok
    rw [e1, e2]
    repeat' (first|refine tw_ ?_|(refine ta_ ?_;intro _)|(refine zk0 ?_ ?_<;>intro ht)|fail)
    refine nx_ret2 rfl (rv_tmp rfl) (rv_tmp rfl) (fun w' s' => ⟨(h3, .slice none 0 0), rfl, s'.nil, ?_⟩)
    exact Sc.nil _ _ _ _
end Go.Proofs.YtgeepceieckooaaGreatDoor
end

section
namespace Go.Proofs.YtgeepceieckooaaGreatDoor
open Go Go.Ck
set_option maxHeartbeats 4000000
instance tykUse : TyK Tryz.prog 114 [(3, 0), (3, 1)] := ⟨by kernel_rfl, by kernel_rfl, by kernel_rfl, by kernel_rfl⟩
instance tykSea : TyK Tryz.prog 116 [(114, 0), (3, 2), (9, 3), (9, 4)] := ⟨by kernel_rfl, by kernel_rfl, by kernel_rfl, by kernel_rfl⟩
abbrev UseK := Int × Int
abbrev SeaK := Int × Int × Int × ByteArray × ByteArray
def useA (a : UseK) : Array Value := #[.int .i64 a.1, .int .i64 a.2]
def seaA (a : SeaK) : Array Value := #[.int .i64 a.1, .int .i64 a.2.1, .int .i64 a.2.2.1, .string a.2.2.2.1, .string a.2.2.2.2]
theorem part1 {P : Program} {T : Nat} {cs : Array Value} {off : Nat} {v : Value} [ta : TyA P T false] (h : cs[off]? = some v) (w : World) : (part T cs off).run P w = .ok v w := by simp [part, ta.a, h]
theorem partA {P : Program} {T k : Nat} {cs : Array Value} {off : Nat} {xs : Array Value} [ta : TyA P T true] [ts : TyS P T k] (h : cs.extract off (off + k) = xs) (w : World) : (part T cs off).run P w = .ok (.agg xs) w := by simp [part, ta.a, ts.s, h]
theorem use_parts (a : UseK) : Parts Tryz.prog (useA a) [(3, 0), (3, 1)] [.int .i64 a.1, .int .i64 a.2] :=
  .cons (part1 rfl) (.cons (part1 rfl) .nil)
theorem sea_parts (a : SeaK) : Parts Tryz.prog (seaA a) [(114, 0), (3, 2), (9, 3), (9, 4)] [.agg (useA (a.1, a.2.1)), .int .i64 a.2.2.1, .string a.2.2.2.1, .string a.2.2.2.2] :=
  .cons (partA (k := 2) rfl) (.cons (part1 rfl) (.cons (part1 rfl) (.cons (part1 rfl) .nil)))
theorem use_eq (d : Nat) (a b : UseK) (w : World) : (Op.equalIn (d + 2) 114 (.agg (useA a)) (.agg (useA b))).run Tryz.prog w = .ok (decide (a = b)) w := by
  have := struct_eq (P := Tryz.prog) (T := 114) (d := d + 1) w (bs := [a.1 == b.1, a.2 == b.2]) rfl (use_parts a) (use_parts b) (by
    intro i t u v r h1 h2 h3 h4 w
    match i, h1, h2, h3, h4 with
    | 0, h1, h2, h3, h4 => cases h1; cases h2; cases h3; cases h4; exact run_equalIn_int w d _ _ _ _ _ (TyU.u (d := .int .i64))
    | 1, h1, h2, h3, h4 => cases h1; cases h2; cases h3; cases h4; exact run_equalIn_int w d _ _ _ _ _ (TyU.u (d := .int .i64)))
  rw [this]
  congr 1
  rw [Bool.eq_iff_iff]
  simp [Prod.ext_iff]
theorem sea_eq (d : Nat) (a b : SeaK) (w : World) : (Op.equalIn (d + 3) 116 (.agg (seaA a)) (.agg (seaA b))).run Tryz.prog w = .ok (decide (a = b)) w := by
  have := struct_eq (P := Tryz.prog) (T := 116) (d := d + 2) w (bs := [decide ((a.1, a.2.1) = (b.1, b.2.1)), a.2.2.1 == b.2.2.1, a.2.2.2.1.toList == b.2.2.2.1.toList, a.2.2.2.2.toList == b.2.2.2.2.toList]) rfl (sea_parts a) (sea_parts b) (by
    intro i t u v r h1 h2 h3 h4 w
    match i, h1, h2, h3, h4 with
    | 0, h1, h2, h3, h4 => cases h1; cases h2; cases h3; cases h4; exact use_eq d _ _ w
    | 1, h1, h2, h3, h4 => cases h1; cases h2; cases h3; cases h4; exact run_equalIn_int w (d + 1) _ _ _ _ _ (TyU.u (d := .int .i64))
    | 2, h1, h2, h3, h4 => cases h1; cases h2; cases h3; cases h4; exact run_equalIn_string w (d + 1) _ _ _ (TyU.u (d := .string))
    | 3, h1, h2, h3, h4 => cases h1; cases h2; cases h3; cases h4; exact run_equalIn_string w (d + 1) _ _ _ (TyU.u (d := .string)))
  rw [this]
  congr 1
  rw [← beq_toListBytes, ← beq_toListBytes, ba_beq, ba_beq, Bool.eq_iff_iff]
  simp [Prod.ext_iff, and_assoc]
theorem chk_int {P : Program} {T : Nat} {k : IntKind} [tu : TyU P T (.int k)] (b : Bool) (d : Nat) (i : Int) (w : World) : (Instr.checkKey b (d + 1) T (.int k i)).run P w = .ok () w := MapKept.run_checkKey (k := .int k i) tu.u rfl b d
theorem chk_str {P : Program} {T : Nat} [tu : TyU P T .string] (b : Bool) (d : Nat) (i : ByteArray) (w : World) : (Instr.checkKey b (d + 1) T (.string i)).run P w = .ok () w := MapKept.run_checkKey (k := .string i) tu.u trivial b d
theorem use_chk (b : Bool) (d : Nat) (a : UseK) (w : World) : (Instr.checkKey b (d + 2) 114 (.agg (useA a))).run Tryz.prog w = .ok () w :=
  struct_chk (P := Tryz.prog) (T := 114) (d := d + 1) w (use_parts a) (by
    intro i t u h1 h2 w
    match i, h1, h2 with
    | 0, h1, h2 => cases h1; cases h2; exact chk_int b d _ w
    | 1, h1, h2 => cases h1; cases h2; exact chk_int b d _ w)
theorem sea_chk (b : Bool) (d : Nat) (a : SeaK) (w : World) : (Instr.checkKey b (d + 3) 116 (.agg (seaA a))).run Tryz.prog w = .ok () w :=
  struct_chk (P := Tryz.prog) (T := 116) (d := d + 2) w (sea_parts a) (by
    intro i t u h1 h2 w
    match i, h1, h2 with
    | 0, h1, h2 => cases h1; cases h2; exact use_chk b d _ w
    | 1, h1, h2 => cases h1; cases h2; exact chk_int b (d + 1) _ w
    | 2, h1, h2 => cases h1; cases h2; exact chk_str b (d + 1) _ w
    | 3, h1, h2 => cases h1; cases h2; exact chk_str b (d + 1) _ w)
theorem use_kl : KeyLw Tryz.prog 114 (fun a : UseK => Value.agg (useA a)) :=
  struct_kl (fun a b w => use_eq 9998 a b w) (fun b a w => use_chk b 9998 a w) (fun a => by simp [Instr.sameBits, useA])
theorem sea_kl : KeyLw Tryz.prog 116 (fun a : SeaK => Value.agg (seaA a)) :=
  struct_kl (fun a b w => sea_eq 9997 a b w) (fun b a w => sea_chk b 9997 a w) (fun a => by simp [Instr.sameBits, seaA, ba_beq])
end Go.Proofs.YtgeepceieckooaaGreatDoor
end
