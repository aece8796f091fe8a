/-
  CkMem: stores, appends, literals, and slices that are read, in the small logic.
  Conditions: none; each law states its own.
-/
import Derived.Test.YtbpahaciegfpfaaCkOps
import Derived.Laws.OwnMore
import Derived.Laws.AppendOwnNone
namespace Go.Ck
open Go
set_option linter.unusedVariables false
set_option linter.unusedSimpArgs false
section
variable {P : Program} {n : Nat} {K : Bs} {F : List (Nat × Value)} {h : View} {L : List Res} {Q : Exit → Act → World → Prop}
variable {dst : Option Nat} {ty : Nat} {pos : String} {af : Array Edge} {gd : Option (Nat × Bool)}

theorem Owe.out {g : Rg} {i : Nat} (o : Owe g i h L) {w : World} (s : St K h L w) : g.S w ∨ g.bar i = true := o.imp (fun k => k w s.hd) id

/-! stores -/
/-- cells vs from place o on -/
def spl (cs : List Value) (o : Nat) (vs : List Value) : List Value := cs.take o ++ vs ++ cs.drop (o + vs.length)
theorem ybh {z vs : List Value} (hl : vs.length = z.length) : spl z 0 vs = vs := by simp [spl, hl]

theorem ybg {g : Rg} {i : Nat} {r : List (Nat × Oper)} {T : Nat} {x y : Operand} {b o sz : Nat} {v : Value} {cs : Array Value} {e : TypeId} (k : Nat) [ts : TyS P T sz] (hx : ev F x = some (.pointer (some ⟨b, o, none⟩))) (hy : ev F y = some v)
    (hk : L[k]? = some (Res.blk b (.cells cs e (0, 0)))) (hsz : v.cells.size = sz) (hfit : o + v.cells.size ≤ cs.size) (h1 : v.cells.toList.all Value.oneCell' = true) {cs' : List Value} (hcs : spl cs.toList o v.cells.toList = cs')
    (hw : wantedF g.ops F ⟨none, .store T x y, ty, pos, af, gd⟩ = some true) (hl : g.lo i = true) (o1 : Owe g i h L) (o2 : Owe g i h (L.set k (Res.blk b (.cells cs'.toArray e (0, 0)))))
    (hn : RX P n K g r F h (L.set k (Res.blk b (.cells cs'.toArray e (0, 0)))) Q) : RX P n K g ((i, ⟨none, .store T x y, ty, pos, af, gd⟩) :: r) F h L Q := by
  unfold RX at *
  intro a w f s
  subst hcs
  have h1 : ∀ u ∈ v.cells.toList, u.oneCell' = true := fun u hu => List.all_eq_true.1 h1 u hu
  have hb : w.heap[b]? = some (.cells cs e (0, 0)) := s.hd.own _ (List.mem_of_getElem? hk)
  have hrun : (execOp a.eval ⟨none, .store T x y, ty, pos, af, gd⟩).run P w = .ok .skip (w.setRow b (spl cs.toList o v.cells.toList).toArray) := by
    have hst := run_storeCells_at P b o e v.cells.toList 0 cs w hb (by simpa using hfit) h1
    simp only [Nat.add_zero] at hst
    simp [execOp, f.ev hx, f.ev hy, Instr.storeAt, Instr.sureAddr, storeVar, ts.s, hsz, hst, spl]
  have s' : St K h (L.set k (Res.blk b (.cells (spl cs.toList o v.cells.toList).toArray e (0, 0)))) (w.setRow b (spl cs.toList o v.cells.toList).toArray) :=
    s.writeAt hk rfl rfl rfl (by simp) (by simp) (fun j hj => setRow_other w b j _ hj) (setRow_heap w b cs _ e _ hb)
  refine .inr (.inr ⟨wantedF_ok f hw, hl, o1.out s, ?_⟩)
  unfold Oper.wp
  rw [hrun]
  exact ⟨o2.out s', hn _ _ f s'⟩

theorem ix0 {α : Type} {a : α} {l : List α} : (a :: l)[0]? = some a := rfl
theorem ix1 {α : Type} {a b : α} {l : List α} : (b :: a :: l)[1]? = some a := rfl
theorem ix2 {α : Type} {a b c : α} {l : List α} : (b :: c :: a :: l)[2]? = some a := rfl
theorem ix3 {α : Type} {a b c d : α} {l : List α} : (b :: c :: d :: a :: l)[3]? = some a := rfl
theorem ix4 {α : Type} {a b c d e : α} {l : List α} : (b :: c :: d :: e :: a :: l)[4]? = some a := rfl
theorem ix5 {α : Type} {a b c d e f : α} {l : List α} : (b :: c :: d :: e :: f :: a :: l)[5]? = some a := rfl

/-! rows of the call's own -/
def Res.row (e : TypeId) (k : Nat) (v : Value) (n : Nat) (xs : List Value) : Res where
  dom := v.ownBlock.toList
  sat := fun w => w.ownsRow 0 e k v n xs
  loc := fun w w' hh hs => by
    refine ⟨hs.1, ?_⟩
    rcases hs.2 with hn | ⟨g, cap, cur, rfl, hb, hgg, rest⟩
    · exact .inl hn
    · exact .inr ⟨g, cap, cur, rfl, hb, by rw [hh g (by simp [Value.ownBlock])]; exact hgg, rest⟩
  lt := fun w hs b hb => by
    have hb : v.ownBlock = some b := by simpa using hb
    exact (hs.lt b hb).2

theorem St.rowNil {w : World} (s : St K h L w) (e : TypeId) (k : Nat) : St K h (Res.row e k (.slice none 0 0) 0 [] :: L) w := by
  have hd : doms (Res.row e k (.slice none 0 0) 0 [] :: L) = doms L := by simp [doms_cons, Res.row, Value.ownBlock]
  exact ⟨s.os, s.tape, s.output, s.drawn, s.size, s.keep, ⟨s.hd.view, fun r hr => by
    rcases List.mem_cons.1 hr with rfl | hr
    · exact World.ownsRow_nil w 0 e k
    · exact s.hd.own r hr⟩, by rw [hd]; exact s.nd, fun b hb => s.src b (by rw [← hd]; exact hb), s.grow, s.new, fun b hb => s.dis b (by rw [← hd]; exact hb)⟩
theorem cx_row {c : Code} (e : TypeId) (k : Nat) (hx : CX P n K c F h (Res.row e k (.slice none 0 0) 0 [] :: L) Q) : CX P n K c F h L Q := by
  unfold CX at *
  exact fun a w f s => hx a w f (s.rowNil e k)

/-- a resource is put in another's place, the call being one that may write the first and make memory -/
theorem St.swap {R R' : Res} {k : Nat} {w w' : World} (s : St K h L w) (hk : L[k]? = some R) (h1 : w'.os = w.os) (h2 : w'.tape = w.tape) (h3 : w'.output = w.output) (hdr : w.drawn ≤ w'.drawn) (h4 : w.heap.size ≤ w'.heap.size)
    (h5 : ∀ j, j < w.heap.size → j ∉ R.dom → w'.heap[j]? = w.heap[j]?) (h6 : R'.sat w') (h7 : R'.dom.Nodup) (h8 : ∀ b ∈ R'.dom, b ∈ R.dom ∨ w.heap.size ≤ b) : St K h (L.set k R') w' := by
  have s1 : St K h ([R] ++ L.eraseIdx k) w := s.perm (perm_at hk)
  have e1 : doms [R] = R.dom := by simp [doms]
  have e2 : doms [R'] = R'.dom := by simp [doms]
  have t : St ⟨w, h, doms [R]⟩ h [R'] w' := by
    refine ⟨h1, h2, h3, hdr, h4, fun j hj hjA => h5 j hj (by rw [e1] at hjA; exact hjA), ⟨fun x ob hx => ?_, fun r hr => ?_⟩, by rw [e2]; exact h7, fun b hb => by rw [e2] at hb; rw [e1]; exact h8 b hb, Le.refl h, fun _ _ hx => hx, fun b hb => ?_⟩
    · have hv := s.hd.view x ob hx
      rw [h5 x (Array.getElem?_eq_some_iff.1 hv).1 (fun hm => ?_)]
      · exact hv
      · have := s1.dis x (by rw [doms_append, e1]; exact List.mem_append_left _ hm)
        rw [this] at hx; cases hx
    · have : r = R' := by simpa using hr
      subst this; exact h6
    · rw [e2] at hb
      rcases h8 b hb with hb | hb
      · exact s1.dis b (by rw [doms_append, e1]; exact List.mem_append_left _ hb)
      · cases hx : h b with
        | none => rfl
        | some ob =>
          have hv := s.hd.view b ob hx
          have := (Array.getElem?_eq_some_iff.1 hv).1
          omega
  exact (St.leave (Li := [R]) (Lo := [R']) s1 t).perm (perm_set hk)

/-- append, with where the new row lies -/
theorem run_append_ck {w : World} (t ty' e : TypeId) {z : Value} {size bytes : Nat} (ht : P.underlying t = some (.slice e)) (tb : TyB P e z size bytes) (hzs : z.cells.size = size) (hsz : 0 < size)
    (v : Value) (m0 : Nat) (xs : List Value) (hown : w.ownsRow 0 e size v m0 xs)
    (ad : Addr) (m c : Nat) (news : List Value) (hl : news.length = m * size) (hnews : ∀ j u, news[j]? = some u → w.cell? (ad.add j) = some u) (h1 : ∀ u ∈ news, u.oneCell' = true)
    (h63 : m0 + m ≤ maxLen) (hbytes : (m0 + m) * bytes ≤ 140737488355328) :
    ∃ v' w', (Builtin.append_ #[t, t] ty' #[v, .slice (some ad) m c]).run P w = .ok v' w' ∧ w'.ownsRow 0 e size v' (m0 + m) (xs ++ news) ∧ w.grownBy w' v.ownBlock ∧
      (v' = .slice none 0 0 ↔ v = .slice none 0 0 ∧ m = 0) ∧ w.drawn ≤ w'.drawn ∧ (v'.ownBlock = v.ownBlock ∨ ∃ b, v'.ownBlock = some b ∧ w.heap.size ≤ b) := by
  obtain ⟨i, hi, hz, hsize, hby⟩ := tb.ex
  subst hsize
  subst hby
  have hsmall : m0 + m ≤ 9223372036854775807 := by simp only [maxLen] at h63; omega
  have hlen : (xs ++ news).length = (m0 + m) * i.size := by rw [List.length_append, hown.1, hl, Nat.add_mul]
  have grown : ∀ (old : Nat), old < m0 + m → ∀ (row : Option Nat),
      (w.drew.alloc (.cells (xs.toArray ++ news.toArray ++ Builtin.zeroCells z.cells (grownCap w (m0 + m) old e - (m0 + m))) e)).ownsRow 0 e i.size
        (.slice (some ⟨w.heap.size, 0, none⟩) (m0 + m) (grownCap w (m0 + m) old e)) (m0 + m) (xs ++ news) ∧
      w.grownBy (w.drew.alloc (.cells (xs.toArray ++ news.toArray ++ Builtin.zeroCells z.cells (grownCap w (m0 + m) old e - (m0 + m))) e)) row := by
    intro old ho row
    have hge := grownCap_ge w (m0 + m) old e
    have hcm : grownCap w (m0 + m) old e ≤ maxLen := grownCap_le_maxLen w (m0 + m) old e h63
    refine ⟨⟨hlen, .inr ⟨w.heap.size, _, _, rfl, Nat.zero_le _, heap_alloc_new w.drew _, hge, hcm, ?_, ?_⟩⟩, ⟨rfl, rfl, rfl, by simp, fun k hk _ => Go.RowKit.Below.heap_alloc w.drew _ k hk⟩⟩
    · simp only [Array.size_append, List.size_toArray, size_zeroCells, hzs, hown.1, hl, ← Nat.add_mul]
      congr 1
      omega
    · simp only [Array.toList_append, List.append_assoc]
      rw [← List.append_assoc, ← hlen]
      exact List.take_left
  rcases hown.2 with ⟨rfl, rfl⟩ | ⟨g, cap, cur, rfl, hbg, hg, hnc, hcm, hcs, htake⟩
  · have hx : xs = [] := List.eq_nil_of_length_eq_zero (by simpa using hown.1)
    subst hx
    by_cases hm : m = 0
    · subst hm
      have hn : news = [] := List.eq_nil_of_length_eq_zero (by simpa using hl)
      subst hn
      refine ⟨.slice none 0 0, w, ?_, World.ownsRow_nil w 0 e i.size, ⟨rfl, rfl, rfl, Nat.le_refl _, fun _ _ _ => rfl⟩, by simp, Nat.le_refl _, .inl rfl⟩
      simp [Builtin.append_, run_underlying ht, sizeOf, typeInfo, hi, Builtin.lenOf, Builtin.firstCells, loadCells, loadCellsFrom]
    · have hr := run_append_nil (P := P) w t ty' e i z ht hi hz ad m c news hl hnews (by omega) (by omega) (by have hb := hbytes; simp only [Nat.zero_add] at hb; omega)
      have hgr := grown 0 (by omega) (Value.ownBlock (.slice none 0 0))
      simp only [Nat.zero_add, List.nil_append, Array.empty_append] at hgr ⊢
      exact ⟨_, _, hr, hgr.1, hgr.2, by simp [hm], Nat.le_succ _, .inr ⟨_, rfl, Nat.le_refl _⟩⟩
  · by_cases hroom : m0 + m ≤ cap
    · have hfit : m0 * i.size + news.length ≤ cur.size := by rw [hl, hcs, ← Nat.add_mul]; exact Nat.mul_le_mul_right _ hroom
      have hr := run_append_room (P := P) w t ty' e i ht hi g m0 cap cur hg ad m c news hl hnews h1 hroom hfit
      refine ⟨_, _, hr, ⟨hlen, .inr ⟨g, cap, _, rfl, hbg, setRow_heap w g cur _ e _ hg, hroom, hcm, ?_, ?_⟩⟩, ⟨rfl, rfl, rfl, by simp, fun k _ hk => setRow_other w g k _ (fun e => hk (by simp [Value.ownBlock, e]))⟩, by simp, by simp, .inl rfl⟩
      · simp only [List.size_toArray, List.length_append, List.length_take, List.length_drop, Array.length_toList]
        omega
      · rw [htake, ← hlen]
        exact List.take_left
    · have holds : ∀ j u, xs[j]? = some u → w.cell? ((⟨g, 0, none⟩ : Addr).add j) = some u := hown.cells (g := g) rfl
      have hr := run_append_grow (P := P) w t ty' e i z ht hi hz ⟨g, 0, none⟩ m0 cap xs hown.1 holds ad m c news hl hnews (by omega) (by omega) (growslice_fits (by omega) hbytes)
      have hgr := grown cap (by omega) (Value.ownBlock (.slice (some ⟨g, 0, none⟩) m0 cap))
      exact ⟨_, _, hr, hgr.1, hgr.2, by simp, Nat.le_succ _, .inr ⟨_, rfl, Nat.le_refl _⟩⟩

/-- cells from an address on, in every world that the facts fit -/
def Cells (h : View) (L : List Res) (ad : Addr) (vs : List Value) : Prop := ∀ w, Hd h L w → ∀ j u, vs[j]? = some u → w.cell? (ad.add j) = some u
theorem yaz {b : Nat} {cs : Array Value} {e : TypeId} {fz : Nat × Nat} (k : Nat) (hk : L[k]? = some (Res.blk b (.cells cs e fz))) : Cells h L ⟨b, 0, none⟩ cs.toList := fun w s j u hj => by
  have := s.own _ (List.mem_of_getElem? hk)
  have hb : w.heap[b]? = some (.cells cs e fz) := this
  rw [Addr.add_off]
  simp only [Array.getElem?_toList] at hj
  simp [World.cell?, hb, hj]

theorem rx_append {g : Rg} {i : Nat} {r : List (Nat × Oper)} {T e : Nat} {x y : Operand} {z v : Value} {sz by' m0 m c : Nat} {ad : Addr} {xs news : List Value} (k : Nat) [tu : TyU P T (.slice e)] [tb : TyB P e z sz by'] (hx : ev F x = some v) (hy : ev F y = some (.slice (some ad) m c))
    (hk : L[k]? = some (Res.row e sz v m0 xs)) (hnews : Cells h L ad news) (hl : news.length = m * sz) (h1 : ∀ u ∈ news, u.oneCell' = true) (hzs : z.cells.size = sz) (hsz : 0 < sz) (h63 : m0 + m ≤ maxLen) (hbytes : (m0 + m) * by' ≤ 140737488355328)
    (hw : wantedF g.ops F ⟨dst, .call ⟨.builtin .append, #[x, y], #[T, T]⟩, ty, pos, af, gd⟩ = some true) (hd : okd n dst = true) (hlo : g.lo i = true) (o1 : Owe g i h L)
    (o2 : ∀ v', Owe g i h (L.set k (Res.row e sz v' (m0 + m) (xs ++ news))))
    (hn : ∀ v', (v' = .slice none 0 0 ↔ v = .slice none 0 0 ∧ m = 0) → RX P n K g r (putF dst v' F) h (L.set k (Res.row e sz v' (m0 + m) (xs ++ news))) Q) :
    RX P n K g ((i, ⟨dst, .call ⟨.builtin .append, #[x, y], #[T, T]⟩, ty, pos, af, gd⟩) :: r) F h L Q := by
  unfold RX at *
  intro a w f s
  have hown : w.ownsRow 0 e sz v m0 xs := s.hd.own _ (List.mem_of_getElem? hk)
  obtain ⟨v', w', hrun, how', hgr, hnil, hdr, hblk⟩ := run_append_ck (P := P) T ty e tu.u tb hzs hsz v m0 xs hown ad m c news hl (hnews w s.hd) h1 h63 hbytes
  have s' : St K h (L.set k (Res.row e sz v' (m0 + m) (xs ++ news))) w' := by
    refine s.swap hk hgr.os hgr.tape hgr.output hdr hgr.size (fun j hj hjd => hgr.block j hj (fun hh => hjd ?_)) how' ?_ (fun b hb => ?_)
    · show j ∈ v.ownBlock.toList
      rw [← hh]; simp
    · show v'.ownBlock.toList.Nodup
      cases v'.ownBlock <;> simp
    · have hb : v'.ownBlock = some b := by simpa [Res.row] using hb
      rcases hblk with hh | ⟨b', hh, hge⟩
      · refine .inl ?_
        show b ∈ v.ownBlock.toList
        rw [← hh, hb]; simp
      · rw [hb] at hh; cases hh; exact .inr hge
  refine .inr (.inr ⟨wantedF_ok f hw, hlo, o1.out s, ?_⟩)
  unfold Oper.wp
  have : (execOp a.eval ⟨dst, .call ⟨.builtin .append, #[x, y], #[T, T]⟩, ty, pos, af, gd⟩).run P w = .ok (.value v') w' := by
    simp [execOp, resolve, invoke, builtin, f.ev hx, f.ev hy, hrun]
  rw [this]
  exact ⟨(o2 v').out s', hn v' hnil _ _ (f.put hd v') s'⟩

/-! literals -/
def fillL (place : Nat → Option (Nat × Nat)) (cells : List Value) : List (Nat × Value) → Option (List Value)
  | [] => some cells
  | (i, v) :: rest => match place i with
    | none => none
    | some (off, size) => if v.cells.size ≠ size || off + v.cells.size > cells.length then none else fillL place (spl cells off v.cells.toList) rest

theorem foldl_set (vs : List Value) : ∀ (k off : Nat) (cells : Array Value), off + k + vs.length ≤ cells.size →
    ((vs.zipIdx k).foldl (fun cs (cj : Value × Nat) => cs.setIfInBounds (off + cj.2) cj.1) cells) = (spl cells.toList (off + k) vs).toArray := by
  induction vs with
  | nil => intro k off cells hl; simp [spl]
  | cons v vs ih =>
    intro k off cells hl
    simp only [List.length_cons] at hl
    simp only [List.zipIdx_cons, List.foldl_cons]
    rw [ih (k + 1) off _ (by simp; omega)]
    congr 1
    simp only [spl, Array.toList_setIfInBounds]
    have h1 : off + k < cells.toList.length := by simp; omega
    rw [← Nat.add_assoc, List.take_set, List.drop_set_of_lt (by omega), List.take_add_one, List.set_append]
    simp only [List.length_take, List.length_cons]
    rw [if_neg (by omega)]
    have h2 : off + k - min (off + k) cells.toList.length = 0 := by omega
    rw [h2, List.getElem?_eq_getElem h1]
    simp only [Option.toList_some, List.set_cons_zero]
    have h3 : off + k + 1 + vs.length = off + k + (vs.length + 1) := by omega
    rw [h3]
    simp [List.append_assoc]

theorem fill_eq (place : Nat → Option (Nat × Nat)) : ∀ (ps : List (Nat × Value)) (cells : Array Value), (Instr.fill place cells ps) = (fillL place cells.toList ps).map List.toArray
  | [], cells => by simp [Instr.fill, fillL]
  | (i, v) :: rest, cells => by
    simp only [Instr.fill, fillL]
    cases hp : place i with
    | none => rfl
    | some os =>
      obtain ⟨off, size⟩ := os
      simp only [Array.length_toList]
      split
      · rfl
      · rename_i hc
        simp only [Bool.or_eq_true, decide_eq_true_eq, not_or, Nat.not_lt] at hc
        have hfold : (v.cells.zipIdx.foldl (fun cs (x : Value × Nat) => cs.setIfInBounds (off + x.2) x.1) cells) = (spl cells.toList off v.cells.toList).toArray := by
          have := foldl_set v.cells.toList 0 off cells (by simpa using hc.2)
          rw [← Array.foldl_toList, Array.toList_zipIdx]
          simpa using this
        rw [fill_eq place rest]
        congr 2
        exact congrArg Array.toList hfold
end
end Go.Ck
