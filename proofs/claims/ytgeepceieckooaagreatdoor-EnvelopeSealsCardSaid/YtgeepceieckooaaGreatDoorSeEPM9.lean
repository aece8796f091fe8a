/-
  Part 9 of a proof: CkStr CkMark KyA PoE PoF AeA AeB CkFull KyB.
  Conditions: each theorem states its own.
-/
import Derived.Laws.IdiomStrings
import Derived.Test.YtgeepceieckooaaGreatDoorSeEPM8
set_option maxRecDepth 100000
set_option linter.unusedVariables false
set_option linter.unusedSimpArgs false
section
namespace Go.Ck
open Go
set_option maxHeartbeats 4000000
theorem run_storeCells_fz {P : Program} (g o : Nat) (t : TypeId) (fz : Nat × Nat) : ∀ (vs : List Value) (i : Nat) (cur : Array Value) (w : World), w.heap[g]? = some (.cells cur t fz) → (fz.2 ≤ fz.1 ∨ cur.size ≤ fz.1) → o + i + vs.length ≤ cur.size → (∀ v ∈ vs, v.oneCell' = true) →
    (storeCells ⟨g, o, none⟩ vs i).run P w = .ok () (w.setRow g (cur.toList.take (o + i) ++ vs ++ cur.toList.drop (o + i + vs.length)).toArray)
  | [], i, cur, w, hg, _, _, _ => by
    simp only [storeCells, List.append_nil, List.length_nil, Nat.add_zero, List.take_append_drop, Array.toArray_toList]
    rw [setRow_self w g cur t fz hg]
    rfl
  | v :: rest, i, cur, w, hg, hf, hl, h1 => by
    have hi : o + i < cur.size := by simp at hl; omega
    have hadd : (⟨g, o, none⟩ : Addr).add i = ⟨g, o + i, none⟩ := by unfold Addr.add;split<;>simp_all
    have hcell : w.cell? ⟨g, o + i, none⟩ = some cur[o + i] := by simp [World.cell?, hg, hi]
    have hfro : w.frozen? ⟨g, o + i, none⟩ = false := by
      simp only [World.frozen?, hg]
      rcases hf with hf | hf
      · by_cases h : fz.1 ≤ o + i
        · simp [h]; omega
        · simp [h]
      · have h : ¬ fz.1 ≤ o + i := by omega
        simp [h]
    have hst : (store ((⟨g, o, none⟩ : Addr).add i) v).run P w = .ok () (w.setRow g (cur.setIfInBounds (o + i) v)) := by
      rw [hadd, run_store P w _ v _ (h1 v (by simp)), hcell]
      simp [hfro, setCell_eq_setRow w g (o + i) cur t fz v hg]
    have ih := run_storeCells_fz (P := P) g o t fz rest (i + 1) (cur.setIfInBounds (o + i) v) (w.setRow g (cur.setIfInBounds (o + i) v)) (setRow_heap w g cur _ t _ hg) (by simpa using hf) (by simp at hl ⊢; omega) (fun x hx => h1 x (by simp [hx]))
    simp only [storeCells, Sem.run_bind, hst, Result.andThen_ok, ih, setRow_setRow]
    congr 3
    have e := list_seg_step cur.toList (o + i) v rest (by simp at hl ⊢; omega)
    simpa [Array.toList_setIfInBounds, Nat.add_assoc] using e
def OwnsB (w : World) (e : TypeId) (v : Value) (n : Nat) (xs : List Value) : Prop :=
  xs.length = n ∧ ((v = .slice none 0 0 ∧ n = 0) ∨
    ∃ g cap cur fz, v = .slice (some ⟨g, 0, none⟩) n cap ∧ w.heap[g]? = some (.cells cur e fz) ∧ n ≤ cap ∧ cap ≤ maxLen ∧ cur.size = cap ∧ cur.toList.take n = xs ∧ (fz.2 ≤ fz.1 ∨ cur.size ≤ fz.1))
def Res.srow (e : TypeId) (v : Value) (n : Nat) (xs : List Value) : Res where
  dom := v.ownBlock.toList
  sat := fun w => OwnsB w e v n xs
  loc := fun w w' hh hs => by
    refine ⟨hs.1, ?_⟩
    rcases hs.2 with hn | ⟨g, cap, cur, fz, rfl, hgg, rest⟩
    · exact .inl hn
    · exact .inr ⟨g, cap, cur, fz, rfl, by rw [hh g (by simp [Value.ownBlock])]; exact hgg, rest⟩
  lt := fun w hs b hb => by
    have hb : v.ownBlock = some b := by simpa using hb
    rcases hs.2 with ⟨rfl, _⟩ | ⟨g, cap, cur, fz, rfl, hgg, rest⟩
    · cases hb
    · simp only [Value.ownBlock, Option.some.injEq] at hb
      subst hb
      exact (Array.getElem?_eq_some_iff.1 hgg).1
structure Src (P : Program) (h : View) (L : List Res) (x : Value) (m : Nat) (news : List Value) : Prop where
  len : ∀ w, (Builtin.lenOf x).run P w = .ok m w
  cells : ∀ w, Hd h L w → (Builtin.firstCells 1 m x).run P w = .ok news.toArray w
  nl : news.length = m
section
variable {P : Program} {n : Nat} {K : Bs} {F : List (Nat × Value)} {h : View} {L : List Res} {Q : Exit → Act → World → Prop}
variable {dst : Option Nat} {ty : Nat} {pos : String} {af : Array Edge} {gd : Option (Nat × Bool)}
theorem Hd.heap {w w' : World} (hd : Hd h L w) (e : w'.heap = w.heap) : Hd h L w' := ⟨fun b o hb => by rw [e]; exact hd.view b o hb, fun r hr => r.loc w w' (fun b _ => by rw [e]) (hd.own r hr)⟩
theorem src_cells {ad : Addr} {m c : Nat} {news : List Value} (hc : Cells h L ad news) (hl : news.length = m) : Src P h L (.slice (some ad) m c) m news :=
  ⟨fun w => by simp [Builtin.lenOf], fun w hd => run_firstCells_some (P := P) w 1 m ad m c news (by simpa using hl) (fun j u hj => hc w hd j u hj), hl⟩
theorem run_appendB {w : World} {T U e : TypeId} {ty' : TypeId} {z : Value} {by' : Nat} {d : TypeDesc} (ht : P.underlying T = some (.slice e)) (hU : P.underlying U = some d) (hd : d = .slice e ∨ d = .string) (tb : TyB P e z 1 by') (hzs : z.cells.size = 1) {v x : Value} {m0 m : Nat} {xs news : List Value} (hown : OwnsB w e v m0 xs)
    (hs : Src P h L x m news) (hh : Hd h L w) (h1 : ∀ u ∈ news, u.oneCell' = true) (h63 : m0 + m ≤ maxLen) (hbytes : (m0 + m) * by' ≤ 140737488355328) :
    ∃ v' w', (Builtin.append_ #[T, U] ty' #[v, x]).run P w = .ok v' w' ∧ OwnsB w' e v' (m0 + m) (xs ++ news) ∧ w.grownBy w' v.ownBlock ∧ w.drawn ≤ w'.drawn ∧ (v'.ownBlock = v.ownBlock ∨ ∃ b, v'.ownBlock = some b ∧ w.heap.size ≤ b) := by
  obtain ⟨i, hi, hz, hsize, hby⟩ := tb.ex
  subst hby
  have hsmall : m0 + m ≤ 9223372036854775807 := by simp only [maxLen] at h63; omega
  have hlen : (xs ++ news).length = m0 + m := by rw [List.length_append, hown.1, hs.nl]
  have hl0 := hs.len w
  have hnl := hs.nl
  have hc0 := hs.cells w hh
  have hc1 := hs.cells w.drew (hh.heap rfl)
  have grown : ∀ (old : Nat), old < m0 + m → ∀ (row : Option Nat),
      OwnsB (w.drew.alloc (.cells (xs.toArray ++ news.toArray ++ Builtin.zeroCells z.cells (grownCap w (m0 + m) old e - (m0 + m))) e)) e
        (.slice (some ⟨w.heap.size, 0, none⟩) (m0 + m) (grownCap w (m0 + m) old e)) (m0 + m) (xs ++ news) ∧
      w.grownBy (w.drew.alloc (.cells (xs.toArray ++ news.toArray ++ Builtin.zeroCells z.cells (grownCap w (m0 + m) old e - (m0 + m))) e)) row := by
    intro old ho row
    have hge := grownCap_ge w (m0 + m) old e
    have hcm : grownCap w (m0 + m) old e ≤ maxLen := grownCap_le_maxLen w (m0 + m) old e h63
    refine ⟨⟨hlen, .inr ⟨w.heap.size, _, _, (0, 0), rfl, heap_alloc_new w.drew _, hge, hcm, ?_, ?_, .inl (Nat.le_refl _)⟩⟩, ⟨rfl, rfl, rfl, by simp, fun k hk _ => Go.RowKit.Below.heap_alloc w.drew _ k hk⟩⟩
    · simp only [Array.size_append, List.size_toArray, size_zeroCells, hzs, hown.1, hnl]
      omega
    · simp only [Array.toList_append, List.append_assoc]
      rw [← List.append_assoc, ← hlen]
      exact List.take_left
  rcases hown.2 with ⟨rfl, rfl⟩ | ⟨g, cap, cur, fz, rfl, hgg, hnc, hcm, hcs, htake, hfz⟩
  · have hx : xs = [] := List.eq_nil_of_length_eq_zero (by simpa using hown.1)
    subst hx
    by_cases hm : m = 0
    · subst hm
      have hn : news = [] := List.eq_nil_of_length_eq_zero hnl
      subst hn
      refine ⟨.slice none 0 0, w, ?_, ⟨rfl, .inl ⟨rfl, rfl⟩⟩, ⟨rfl, rfl, rfl, Nat.le_refl _, fun _ _ _ => rfl⟩, Nat.le_refl _, .inl rfl⟩
      rcases hd with rfl | rfl<;>simp [Builtin.append_, run_underlying ht, run_underlying hU, sizeOf, typeInfo, hi, hsize, hl0, hc0]
    · have hgr := grown 0 (by omega) (Value.ownBlock (.slice none 0 0))
      simp only [Nat.zero_add, List.nil_append, Array.empty_append] at hgr ⊢
      refine ⟨_, _, ?_, hgr.1, hgr.2, Nat.le_succ _, .inr ⟨_, rfl, Nat.le_refl _⟩⟩
      have h63' : ¬ (9223372036854775807 < (m : Int)) := by omega
      have h48' : ¬ (281474976710656 < Builtin.nextslicecap m 0 * i.bytes) := by
        rw [nextslicecap_zero (by omega)]
        simp only [Nat.zero_add] at hbytes
        omega
      have hf0 : (Builtin.firstCells 1 0 (.slice none 0 0)).run P w.drew = .ok #[] w.drew := by simp [Builtin.firstCells]
      rcases hd with rfl | rfl<;>(simp [Builtin.append_, run_underlying ht, run_underlying hU, sizeOf, typeInfo, zeroValue, hi, hz, hsize, hl0, hc1, hm, h63', h48', hf0, Question.forced, newRow, grownCap])
  · by_cases hroom : m0 + m ≤ cap
    · have hst := run_storeCells_fz (P := P) g m0 e fz news 0 cur w hgg hfz (by omega) h1
      simp only [Nat.add_zero] at hst
      refine ⟨.slice (some ⟨g, 0, none⟩) (m0 + m) cap, w.setRow g (cur.toList.take m0 ++ news ++ cur.toList.drop (m0 + news.length)).toArray, ?_, ⟨hlen, .inr ⟨g, cap, _, fz, rfl, setRow_heap w g cur _ e _ hgg, hroom, hcm, ?_, ?_, ?_⟩⟩, ⟨rfl, rfl, rfl, by simp, fun k _ hk => setRow_other w g k _ (fun e => hk (by simp [Value.ownBlock, e]))⟩, by simp, .inl rfl⟩
      · rcases hd with rfl | rfl<;>(simp [Builtin.append_, run_underlying ht, run_underlying hU, sizeOf, typeInfo, hi, hsize, hl0, hc0, hroom, Addr.add_lit, hst])
      · simp only [List.size_toArray, List.length_append, List.length_take, List.length_drop, Array.length_toList]
        omega
      · rw [htake, ← hlen]
        exact List.take_left
      · rcases hfz with hfz | hfz
        · exact .inl hfz
        · refine .inr ?_
          simp only [List.size_toArray, List.length_append, List.length_take, List.length_drop, Array.length_toList]
          omega
    · have holds : ∀ j u, xs[j]? = some u → w.drew.cell? ((⟨g, 0, none⟩ : Addr).add j) = some u := fun j u hj => by
        rw [Addr.add_off]
        have hb : w.drew.heap[g]? = some (.cells cur e fz) := hgg
        simp [World.cell?, hb]
        rw [← htake, List.getElem?_take] at hj
        split at hj
        · simpa using hj
        · cases hj
      have hfo := run_firstCells_some (P := P) w.drew 1 m0 ⟨g, 0, none⟩ m0 cap xs (by simpa using hown.1) holds
      have hgr := grown cap (by omega) (Value.ownBlock (.slice (some ⟨g, 0, none⟩) m0 cap))
      refine ⟨_, _, ?_, hgr.1, hgr.2, Nat.le_succ _, .inr ⟨_, rfl, Nat.le_refl _⟩⟩
      have h63' : ¬ (9223372036854775807 < ((m0 : Int) + (m : Int))) := by omega
      have hfit := growslice_fits (need := m0 + m) (old := cap) (by omega) hbytes
      have h48' : ¬ (281474976710656 < Builtin.nextslicecap (m0 + m) cap * i.bytes) := by omega
      rcases hd with rfl | rfl<;>(simp [Builtin.append_, run_underlying ht, run_underlying hU, sizeOf, typeInfo, zeroValue, hi, hz, hsize, hl0, hc1, hroom, h63', h48', Question.forced, hfo, newRow, grownCap];congr 2;apply Array.ext';simp [List.append_assoc])
theorem rx_append_b {g : Rg} {i : Nat} {r : List (Nat × Oper)} {T U e : TypeId} {x y : Operand} {z v sv : Value} {by' m0 m : Nat} {xs news : List Value} {d : TypeDesc} (k : Nat) [tu : TyU P T (.slice e)] [tU : TyU P U d] [tb : TyB P e z 1 by'] (hx : ev F x = some v) (hy : ev F y = some sv)
    (hk : L[k]? = some (Res.srow e v m0 xs)) (hs : Src P h L sv m news) (hdd : d = .slice e ∨ d = .string) (h1 : ∀ u ∈ news, u.oneCell' = true) (hzs : z.cells.size = 1) (h63 : m0 + m ≤ maxLen) (hbytes : (m0 + m) * by' ≤ 140737488355328)
    (hw : wantedF g.ops F ⟨dst, .call ⟨.builtin .append, #[x, y], #[T, U]⟩, ty, pos, af, gd⟩ = some true) (hd : okd n dst = true) (hlo : g.lo i = true) (o1 : Owe g i h L)
    (o2 : ∀ v', Owe g i h (L.set k (Res.srow e v' (m0 + m) (xs ++ news))))
    (hn : ∀ v', RX P n K g r (putF dst v' F) h (L.set k (Res.srow e v' (m0 + m) (xs ++ news))) Q) :
    RX P n K g ((i, ⟨dst, .call ⟨.builtin .append, #[x, y], #[T, U]⟩, ty, pos, af, gd⟩) :: r) F h L Q := by
  unfold RX at *
  intro a w f s
  have hown : OwnsB w e v m0 xs := s.hd.own _ (List.mem_of_getElem? hk)
  obtain ⟨v', w', hrun, how', hgr, hdr, hblk⟩ := run_appendB (P := P) (ty' := ty) tu.u tU.u hdd tb hzs hown hs s.hd h1 h63 hbytes
  have s' : St K h (L.set k (Res.srow e v' (m0 + m) (xs ++ news))) w' := by
    refine s.swap hk hgr.os hgr.tape hgr.output hdr hgr.size (fun j hj hjd => hgr.block j hj (fun hh => hjd ?_)) how' ?_ (fun b hb => ?_)
    · show j ∈ v.ownBlock.toList
      rw [← hh]; simp
    · show v'.ownBlock.toList.Nodup
      cases v'.ownBlock <;> simp
    · have hb : v'.ownBlock = some b := by simpa [Res.srow] using hb
      rcases hblk with hh | ⟨b', hh, hge⟩
      · refine .inl ?_
        show b ∈ v.ownBlock.toList
        rw [← hh, hb]; simp
      · rw [hb] at hh; cases hh; exact .inr hge
  refine .inr (.inr ⟨wantedF_ok f hw, hlo, o1.out s, ?_⟩)
  unfold Oper.wp
  have : (execOp a.eval ⟨dst, .call ⟨.builtin .append, #[x, y], #[T, U]⟩, ty, pos, af, gd⟩).run P w = .ok (.value v') w' := by
    simp [execOp, resolve, invoke, builtin, f.ev hx, f.ev hy, hrun]
  rw [this]
  exact ⟨(o2 v').out s', hn v' _ _ (f.put hd v') s'⟩
theorem St.srowPersist {e : TypeId} {v : Value} {m : Nat} {xs : List Value} {w : World} (s : St K h (Res.srow e v m xs :: L) w) (hA : K.A = []) : ∃ h', Le h h' ∧ Sc h' 1 v m xs ∧ St K h' L w := by
  have ho : OwnsB w e v m xs := s.hd.own _ (List.mem_cons_self ..)
  obtain ⟨q0, q1 | ⟨g, cap, cur, fz, rfl, q3, q4, q5, q6, q7, q8⟩⟩ := ho
  · obtain ⟨rfl, rfl⟩ := q1
    have hx : xs = [] := List.eq_nil_of_length_eq_zero (by omega)
    subst hx
    exact ⟨h, Le.refl h, Sc.nil h 1 none 0, s.tl⟩
  · have s1 : St K h (Res.blk g (.cells cur e fz) :: L) w := by
      refine ⟨s.os, s.tape, s.output, s.drawn, s.size, s.keep, ⟨s.hd.view, fun r hr => ?_⟩, ?_, ?_, s.grow, s.new, ?_⟩
      · rcases List.mem_cons.1 hr with rfl | hr
        · exact q3
        · exact s.hd.own r (List.mem_cons_of_mem _ hr)
      · have := s.nd
        simpa [doms_cons, Res.srow, Res.blk, Value.ownBlock] using this
      · intro b hb
        refine s.src b ?_
        simpa [doms_cons, Res.srow, Res.blk, Value.ownBlock] using hb
      · intro b hb
        refine s.dis b ?_
        simpa [doms_cons, Res.srow, Res.blk, Value.ownBlock] using hb
    have hnone : h g = none := s1.dis g (by rw [doms_cons]; exact List.mem_append_left _ (List.mem_singleton.2 rfl))
    refine ⟨_, Le.addV hnone, ⟨by omega, some ⟨g, 0, none⟩, cap, rfl, q4, .inr ⟨g, 0, cur, e, fz, rfl, addV_same, fun j u hj => ?_⟩⟩, s1.persist hA⟩
    rw [Nat.zero_add]
    rw [← q7, List.getElem?_take] at hj
    split at hj
    · simpa using hj
    · cases hj
theorem rx_persist_s {g : Rg} {prs : List (Nat × Oper)} {e : TypeId} {m : Nat} {v : Value} {xs : List Value} (hA : K.A = []) (hx : ∀ h', Le h h' → Sc h' 1 v m xs → RX P n K g prs F h' L Q) : RX P n K g prs F h (Res.srow e v m xs :: L) Q := by
  unfold RX at *
  intro a w f s
  obtain ⟨h', h1, h2, h3⟩ := s.srowPersist hA
  exact hx h' h1 h2 a w f h3
theorem cx_persist_s {c : Code} {e : TypeId} {m : Nat} {v : Value} {xs : List Value} (hA : K.A = []) (hx : ∀ h', Le h h' → Sc h' 1 v m xs → CX P n K c F h' L Q) : CX P n K c F h (Res.srow e v m xs :: L) Q := by
  unfold CX at *
  intro a w f s
  obtain ⟨h', h1, h2, h3⟩ := s.srowPersist hA
  exact hx h' h1 h2 a w f h3
theorem cx_srowsl {c : Code} {e : TypeId} {m : Nat} {v : Value} {xs : List Value} (k : Nat) (hk : L[k]? = some (Res.srow e v m xs)) (h2 : ∀ ad cap, v = .slice ad m cap → CX P n K c F h L Q) : CX P n K c F h L Q := by
  unfold CX at *
  intro a w f s
  have ho : OwnsB w e v m xs := s.hd.own _ (List.mem_of_getElem? hk)
  rcases ho.2 with ⟨q1, q2⟩ | ⟨g, cap, cur, fz, q1, _⟩
  · exact h2 none 0 (by rw [q1, q2]) a w f s
  · exact h2 _ cap q1 a w f s
theorem rx_bytes_s {g : Rg} {i : Nat} {r : List (Nat × Oper)} {S D e : Nat} {x : Operand} {str : ByteArray} {xs : List Value} [tS : TyU P S .string] [tD : TyU P D (.slice e)] [te : TyU P e (.int .u8)] (hx : ev F x = some (.string str)) (hxs : (str.data.map fun b => Value.int .u8 b.toNat).toList = xs) (hsz : str.size ≤ maxLen)
    (hw : wantedF g.ops F ⟨dst, .convert S D x, ty, pos, af, gd⟩ = some true) (hd : okd n dst = true) (hl : g.lo i = true) (o1 : Owe g i h L) (o2 : ∀ v, Owe g i h (Res.srow e v xs.length xs :: L))
    (hn : ∀ v, RX P n K g r (putF dst v F) h (Res.srow e v xs.length xs :: L) Q) : RX P n K g ((i, ⟨dst, .convert S D x, ty, pos, af, gd⟩) :: r) F h L Q := by
  unfold RX at *
  intro a w f s
  have hlen : xs.length = str.size := by rw [← hxs]; simp
  have hrun := run_bytes_of_string (P := P) w S D e str tS.u tD.u te.u
  obtain ⟨cap, hcap⟩ : ∃ cap, cap = grownCap w str.size 0 e := ⟨_, rfl⟩
  have hge : str.size ≤ cap := by rw [hcap]; exact grownCap_ge ..
  have hcm : cap ≤ maxLen := by rw [hcap]; exact grownCap_le_maxLen w str.size 0 e hsz
  rw [← hcap] at hrun
  have hbs : (bytesRow str cap).size = cap := by
    simp only [bytesRow, Array.size_append, Array.size_map, Array.size_replicate]
    have : str.data.size = str.size := rfl
    omega
  have s1 := s.drew.alloc (.cells (bytesRow str cap) e ((bytesRow str cap).size, (bytesRow str cap).size + 1))
  have he : (execOp a.eval ⟨dst, .convert S D x, ty, pos, af, gd⟩).run P w = .ok (.value (.slice (some ⟨w.heap.size, 0, none⟩) str.size cap)) (w.drew.alloc (.cells (bytesRow str cap) e ((bytesRow str cap).size, (bytesRow str cap).size + 1))) := by
    simp only [execOp, f.ev hx, Sem.run_bind, hrun]
    rfl
  have s2 : St K h (Res.srow e (.slice (some ⟨w.heap.size, 0, none⟩) str.size cap) xs.length xs :: L) (w.drew.alloc (.cells (bytesRow str cap) e ((bytesRow str cap).size, (bytesRow str cap).size + 1))) := by
    refine ⟨s1.os, s1.tape, s1.output, s1.drawn, s1.size, s1.keep, ⟨s1.hd.view, fun r hr => ?_⟩, ?_, ?_, s1.grow, s1.new, ?_⟩
    · rcases List.mem_cons.1 hr with rfl | hr
      · refine ⟨rfl, .inr ⟨w.heap.size, cap, _, _, by rw [hlen], heap_alloc_new w.drew _, by omega, hcm, hbs, ?_, .inr (Nat.le_refl _)⟩⟩
        rw [← hxs]
        simp only [bytesRow, Array.toList_append, List.length_map, Array.length_toList, Array.toList_map]
        rw [List.take_append_of_le_length (by simp)]
        exact List.take_of_length_le (by simp)
      · exact s1.hd.own r (List.mem_cons_of_mem _ hr)
    · have := s1.nd
      simpa [doms_cons, Res.srow, Res.blk, Value.ownBlock] using this
    · intro b hb
      refine s1.src b ?_
      simpa [doms_cons, Res.srow, Res.blk, Value.ownBlock] using hb
    · intro b hb
      refine s1.dis b ?_
      simpa [doms_cons, Res.srow, Res.blk, Value.ownBlock] using hb
  refine .inr (.inr ⟨wantedF_ok f hw, hl, o1.out s, ?_⟩)
  unfold Oper.wp
  rw [he]
  exact ⟨(o2 _).out s2, hn _ _ _ (f.put hd _) s2⟩
theorem src_str {str : ByteArray} {m : Nat} {news : List Value} (hm : str.size = m) (hn : (str.data.map fun b => Value.int .u8 b.toNat).toList = news) : Src P h L (.string str) m news := by
  subst hm
  refine ⟨fun w => by simp [Builtin.lenOf], fun w _ => ?_, by rw [← hn]; simp⟩
  subst hn
  have hx : (Array.map (fun b : UInt8 => Value.int IntKind.u8 (b.toNat : Int)) str.data).extract 0 str.size = Array.map (fun b : UInt8 => Value.int IntKind.u8 (b.toNat : Int)) str.data := by
    have hs : str.size = (Array.map (fun b : UInt8 => Value.int IntKind.u8 (b.toNat : Int)) str.data).size := by rw [Array.size_map]; rfl
    rw [hs, Array.extract_size]
  simp only [Builtin.firstCells, hx, Array.toArray_toList]
  simp [hx]
end
end Go.Ck
end

section
namespace Go.Ck
open Go
section
variable {P : Program} {n : Nat} {K : Bs} {F : List (Nat × Value)} {h : View} {L : List Res} {Q : Exit → Act → World → Prop}
variable {dst : Option Nat} {ty : Nat} {pos : String} {af : Array Edge} {gd : Option (Nat × Bool)}
theorem rx_mark {g : Rg} {i : Nat} {r : List (Nat × Oper)} {S e b m : Nat} {x : Operand} {cs : Array Value} (k : Nat) [tS : TyU P S (.slice e)] [te : TyU P e (.int .u8)] (hx : ev F x = some (.slice (some ⟨b, 0, none⟩) m m)) (hk : L[k]? = some (Res.blk b (.cells cs e (0, 0)))) (hm : cs.size = m) (h63 : m ≤ maxLen)
    (hw : wantedF g.ops F ⟨dst, .convert S S x, ty, pos, af, gd⟩ = some true) (hd : okd n dst = true) (hl : g.lo i = true) (o1 : Owe g i h L) (o2 : Owe g i h (L.set k (Res.srow e (.slice (some ⟨b, 0, none⟩) m m) m cs.toList)))
    (hn : RX P n K g r (putF dst (.slice (some ⟨b, 0, none⟩) m m) F) h (L.set k (Res.srow e (.slice (some ⟨b, 0, none⟩) m m) m cs.toList)) Q) : RX P n K g ((i, ⟨dst, .convert S S x, ty, pos, af, gd⟩) :: r) F h L Q := by
  unfold RX at *
  intro a w f s
  have hb : w.heap[b]? = some (.cells cs e (0, 0)) := s.hd.own _ (List.mem_of_getElem? hk)
  have he : (execOp a.eval ⟨dst, .convert S S x, ty, pos, af, gd⟩).run P w = .ok (.value (.slice (some ⟨b, 0, none⟩) m m)) (w.freeze ⟨b, cs.size, none⟩ 1) := by
    simp [execOp, f.ev hx, convert, run_underlying tS.u, run_underlying te.u, markStringish, World.shape?, hb]
  have s2 : St K h (L.set k (Res.srow e (.slice (some ⟨b, 0, none⟩) m m) m cs.toList)) (w.freeze ⟨b, cs.size, none⟩ 1) := by
    have hfz : (w.freeze ⟨b, cs.size, none⟩ 1).heap = w.heap.modify b fun o => match o with
      | .cells c elem (lo, hi) => .cells c elem (if lo == hi then (cs.size, cs.size + 1) else (min lo cs.size, max hi (cs.size + 1)))
      | o => o := by
      simp only [World.freeze, Nat.one_ne_zero, if_false]
      rfl
    have hlt := (Array.getElem?_eq_some_iff.1 hb).1
    refine s.swap hk rfl rfl rfl (Nat.le_refl _) (by rw [hfz, Array.size_modify]; exact Nat.le_refl _) (fun j hj hjd => ?_) ⟨by simpa using hm, .inr ⟨b, m, cs, (cs.size, cs.size + 1), rfl, ?_, Nat.le_refl _, h63, hm, by rw [← hm]; exact List.take_of_length_le (by simp), .inr (Nat.le_refl _)⟩⟩ (by simp [Res.srow, Value.ownBlock]) (fun c hc => .inl ?_)
    · rw [hfz, Array.getElem?_modify, if_neg]
      intro e
      exact hjd (by rw [← e]; exact List.mem_singleton.2 rfl)
    · rw [hfz, Array.getElem?_modify, if_pos rfl, hb]
      rfl
    · have : c = b := by simpa [Res.srow, Value.ownBlock] using hc
      rw [this]; exact List.mem_singleton.2 rfl
  refine .inr (.inr ⟨wantedF_ok f hw, hl, o1.out s, ?_⟩)
  unfold Oper.wp
  rw [he]
  exact ⟨o2.out s2, hn _ _ (f.put hd _) s2⟩
end
end Go.Ck
end

section
namespace Go.Proofs.YtgeepceieckooaaGreatDoor
open Go Go.Ck
set_option maxHeartbeats 4000000
theorem rx_arr_view {P : Program} {n : Nat} {K : Bs} {F : List (Nat × Value)} {h : View} {L : List Res} {Q : Exit → Act → World → Prop} {g : Rg} {prs : List (Nat × Oper)} {b m : Nat} {e : TypeId} {l : List Int} (hA : K.A = []) (hl : l.length = m) (hx : ∀ h', Le h h' → Bs8 h' (.slice (some ⟨b, 0, none⟩) m m) l → RX P n K g prs F h' L Q) :
    RX P n K g prs F h (Res.blk b (.cells (bcs l).toArray e (0, 0)) :: L) Q := by
  subst hl
  refine rx_bpersist hA fun hn => hx _ (fun z o hz => ?_) ?_
  · unfold addV
    by_cases hzb : z = b
    · subst hzb; rw [hn] at hz; cases hz
    · rw [if_neg hzb]; exact hz
  · refine ⟨by rw [bcs_len, Nat.mul_one], _, _, rfl, Nat.le_refl _, .inr ⟨b, 0, (bcs l).toArray, e, (0, 0), rfl, (by unfold addV; rw [if_pos rfl]), fun j u hj => ?_⟩⟩
    rw [Nat.zero_add, List.getElem?_toArray]
    exact hj
def useB : List Int := [98, 108, 105, 110, 100]
def blindR (key nm : List Int) : List Int := hmacF (expandF key useB) nm
theorem kBlind_sp (v : Value) (key nm : List Int) (hk : Bytes key) (hk32 : key.length = 32) (hn : Bytes nm) (hnl : 1 ≤ nm.length ∧ nm.length ≤ 64) (h : View) (hs : Bs8 h v nm) (hg : ShG h) (w : World) (s : St ⟨w, h, []⟩ h [] w) :
    Calls Tryz.prog 56 [.agg (bcs key).toArray, v].toArray w fun e w' => e = .returned (.tuple #[.agg (bcs (blindR key nm)).toArray, .int .i64 0]) ∧ St ⟨w, h, []⟩ h [] w' := by
  obtain ⟨_, ad, cap, rfl, hcap, _⟩ := id hs
  have hol : (bcs key).length = 32 := by rw [bcs_len, hk32]
  have hub : Bytes useB := by
    intro x hx
    simp only [useB, List.mem_cons, List.not_mem_nil, or_false] at hx
    omega
  refine calls_enter Tryz.func56 rfl Tryz.ntmps56 rfl s ?_
  repeat' (first|refine zw166 ?_|(refine ta_ ?_;intro _)|(refine zk0 ?_ ?_<;>intro ht)|fail)
  refine rx_perm (perm_at (k := 1) rfl) ?_
  refine rx_arr_view rfl hk32 fun h1 hle1 hm1 => ?_
  repeat' (first|refine zw167 ?_|(refine ta_ ?_;intro _)|(refine zk0 ?_ ?_<;>intro ht)|fail)
  refine rx_mark 0 rfl rfl rfl (by unfold maxLen; omega) rfl rfl rfl ybf ybf ?_
  refine rx_persist_s rfl fun h2 hle2 hu2 => ?_
  have hu2 : Bs8 h2 (.slice (some ⟨_, 0, none⟩) useB.length 5) useB := hu2
  repeat' (first|refine zw167 ?_|(refine ta_ ?_;intro _)|(refine zk0 ?_ ?_<;>intro ht)|fail)
  (refine yco (ycp Tryz.func86 rfl (by kernel_rfl) rfl) (expand_sp _ _ key useB hk ⟨by omega, by omega⟩ hub (by decide) h2 (by rw [hk32] at *; exact hm1.mono hle2) hu2 ((hg.mono hle1).mono hle2)) rfl rfl rfl ?_ ?_ ?_; (· (exact to_)); (·exact zc148); intro x px hle)
  obtain ⟨h3, vk⟩ := x
  have hle3 : Le h2 h3 := hle
  clear hle
  dsimp only at px ⊢
  have hkl := expandF_len key useB
  have hkb := expandF_by key useB
  unfold blindR
  generalize expandF key useB = kk at hkl hkb px ⊢
  obtain ⟨_, adk, capk, rfl, hcapk, _⟩ := id px
  have hle13 := (hle1.trans hle2).trans hle3
  repeat' (first|refine zw3 ?_|(refine ta_ ?_;intro _)|(refine zk0 ?_ ?_<;>intro ht)|fail)
  refine rx_rowOf 1 1 1 (Nat.le_refl _) (by unfold maxLen; omega) rfl ?_
  refine rx_persist rfl fun h4 hle4 hv4 => ?_
  have efl : flatB [(.slice ad nm.length cap, nm)] 1 = nm := by simp [flatB]
  have hsum := hmac_sp _ _ kk [(.slice ad nm.length cap, nm)] hkb ⟨by omega, by omega⟩ h4 (px.mono hle4) hv4 (fun p hp1 => by
    rw [List.mem_singleton.1 hp1]; exact (hs.mono hle13).mono hle4) (fun p hp1 => by rw [List.mem_singleton.1 hp1]; exact hn) (by show (flatB _ 1).length ≤ _; rw [efl]; omega) (by simp) ((hg.mono hle13).mono hle4)
  change ∀ w, _ → Calls _ _ _ w (fun e w' => e = .returned (.agg (bcs (hmacF kk (flatB [(.slice ad nm.length cap, nm)] 1))).toArray) ∧ _) at hsum
  rw [efl] at hsum
  (refine ycn (ycp Tryz.func87 rfl (by kernel_rfl) rfl) (hsum) rfl rfl rfl ?_ ?_; (· (exact to_)))
  have hol2 := hmacF_len kk nm
  generalize hmacF kk nm = out at hol2 ⊢
  have hol2 : (bcs out).length = 32 := by rw [bcs_len, hol2]
  repeat' (first|refine zw168 ?_|(refine ta_ ?_;intro _)|(refine zk0 ?_ ?_<;>intro ht)|fail)
  exact nx_ret2 rfl (rv_cells rfl (yaz 0 rfl) (by show (bcs out).toArray.toList.length = 32; simpa using hol2)) (rv_tmp rfl) (fun w' s' => ⟨rfl, s'.nil.base⟩)
end Go.Proofs.YtgeepceieckooaaGreatDoor
end

section
namespace Go.Proofs.YtgeepceieckooaaGreatDoor
open Go Go.Ck
set_option maxHeartbeats 4000000
theorem rx_bview {P : Program} {n : Nat} {K : Bs} {F : List (Nat × Value)} {h : View} {L : List Res} {Q : Exit → Act → World → Prop} {g : Rg} {prs : List (Nat × Oper)} {b : Nat} {e : TypeId} {cs : Array Value} (k : Nat) (hA : K.A = []) (hk : L[k]? = some (Res.blk b (.cells cs e (0, 0)))) (hx : ∀ h', Le h h' → h' b = some (.cells cs e (0, 0)) → RX P n K g prs F h' (L.eraseIdx k) Q) :
    RX P n K g prs F h L Q := by
  refine rx_perm (perm_at hk) ?_
  refine rx_bpersist hA fun hn => hx _ (fun z o hz => ?_) ?_
  · unfold addV
    by_cases hzb : z = b
    · subst hzb; rw [hn] at hz; cases hz
    · rw [if_neg hzb]; exact hz
  · unfold addV; rw [if_pos rfl]
def lo64 (l : List Int) : W64 := BitVec.ofInt 64 (valL l)
theorem lo64_nat {l : List Int} (hb : Bytes l) (h8 : l.length = 8) : ((lo64 l).toNat : Int) = valL l := by
  have := valL_bd hb 8 (by omega)
  rw [List.take_of_length_le (by omega)] at this
  have e8 : (256 : Int) ^ 8 = 18446744073709551616 := by decide
  unfold lo64
  rw [BitVec.toNat_ofInt]
  omega
theorem Low64_sp (v : Value) (l : List Int) (hb : Bytes l) (h8 : l.length = 8) (h : View) (hv : Bs8 h v l) (w : World) (s : St ⟨w, h, []⟩ h [] w) :
    Calls Tryz.prog 119 [v].toArray w fun e w' => e = .returned (.tuple #[v64 (lo64 l), .bool true]) ∧ St ⟨w, h, []⟩ h [] w' := by
  have H := low_sp v l hb (by omega) h hv
  rw [← lo64_nat hb h8] at H
  obtain ⟨_, ad, cap, rfl, hcap, _⟩ := id hv
  refine calls_enter Tryz.func119 rfl Tryz.ntmps119 rfl s ?_
  repeat' (first|refine zw3 ?_|(refine ta_ ?_;intro _)|(refine zk0 ?_ ?_<;>intro ht)|fail)
  (refine ycn (ycp Tryz.func138 rfl (by kernel_rfl) rfl) (H) rfl rfl rfl ?_ ?_; (· (exact to_)))
  repeat' (first|refine zw3 ?_|(refine ta_ ?_;intro _)|(refine zk0 ?_ ?_<;>intro ht)|fail)
  exact nx_ret2 rfl (rv_tmp rfl) (rv_tmp rfl) (fun w' s' => ⟨rfl, s'⟩)
def wideP (b : List Int) : List Int := b ++ 1 :: List.replicate (16 - b.length) 0
theorem wideP_len {b : List Int} (h : b.length ≤ 16) : (wideP b).length = 17 := by simp [wideP]; omega
theorem wideP_by {b : List Int} (hb : Bytes b) : Bytes (wideP b) := cbytes_app hb (fun x hx => by
  rcases List.mem_cons.1 hx with rfl | hx
  · omega
  · exact zeros_by _ x hx)
def partF (b : List Int) : List W64 := loadF (lo64 ((wideP b).take 8)) (lo64 (((wideP b).drop 8).take 8)) (BitVec.ofInt 64 ((wideP b).getD 16 0))
theorem part_sp (v : Value) (b : List Int) (hb : Bytes b) (hl : 1 ≤ b.length ∧ b.length ≤ 16) (h : View) (hv : Bs8 h v b) (w : World) (s : St ⟨w, h, []⟩ h [] w) :
    Calls Tryz.prog 122 [v].toArray w fun e w' => e = .returned (.agg (up64 (partF b)).toArray) ∧ St ⟨w, h, []⟩ h [] w' := by
  have hwl := wideP_len hl.2
  have hwb := wideP_by hb
  obtain ⟨_, ad, cap, rfl, hcap, _⟩ := id hv
  obtain ⟨bb, ob, rfl⟩ := hv.ad (by omega) (by omega)
  have hsp : spl (bcs (List.replicate 17 0)) 0 (bcs b) = bcs (b ++ List.replicate (17 - b.length) 0) := by
    unfold spl
    rw [List.take_zero, List.nil_append, bcs_app, bcs_len, Nat.zero_add]
    congr 1
    unfold bcs
    rw [List.map_replicate, List.map_replicate, List.drop_replicate]
  have hs2 : spl (bcs (b ++ List.replicate (17 - b.length) 0)) b.length [.int .u8 1] = bcs (wideP b) := by
    have e1 : List.replicate (17 - b.length) (0 : Int) = 0 :: List.replicate (16 - b.length) 0 := by rw [show 17 - b.length = (16 - b.length) + 1 by omega]; rfl
    unfold spl wideP
    rw [e1, bcs_app, bcs_app]
    have eL := bcs_len b
    rw [List.take_append_of_le_length (by omega), List.take_of_length_le (by omega), List.drop_append, List.drop_of_length_le (by simp; omega)]
    show bcs b ++ [Value.int .u8 1] ++ ([] ++ (bcs (0 :: List.replicate (16 - b.length) 0)).drop (b.length + 1 - (bcs b).length)) = _
    rw [eL, show b.length + 1 - b.length = 1 by omega]
    simp [bcs]
  have hs3 : spl (bcs (b ++ List.replicate (17 - b.length) 0)) (0 + (b.length : Int).toNat * 1) [.int .u8 1] = bcs (wideP b) := by
    rw [show 0 + (b.length : Int).toNat * 1 = b.length by omega]; exact hs2
  have hsl : (b ++ List.replicate (17 - b.length) (0 : Int)).length = 17 := by simp; omega
  refine calls_enter Tryz.func122 rfl Tryz.ntmps122 rfl s ?_
  repeat' (first|refine zw169 ?_|(refine ta_ ?_;intro _)|(refine zk0 ?_ ?_<;>intro ht)|fail)
  refine rx_copy (news := bcs b) (cs' := bcs (b ++ List.replicate (17 - b.length) 0)) 0 rfl rfl rfl hv.cells (by rw [bcs_len]; omega) (by show 0 + (bcs b).length ≤ 17; rw [bcs_len]; omega) (bcs_one _) hsp rfl rfl rfl ybf ybf ?_
  repeat' (first|refine zw170 ?_|(refine ta_ ?_;intro _)|(refine zk0 ?_ ?_<;>intro ht)|fail)
  unfold partF
  have t8 : (((wideP b).drop 8).take 8).length = 8 := by simp; omega
  have t0 : ((wideP b).take 8).length = 8 := by simp; omega
  generalize wideP b = wd at hwl hwb t8 t0 hs2 hs3 ⊢
  rename_i bo bw
  refine rx_bview 0 rfl rfl fun h2 hle2 hK => ?_
  have hK : h2 bw = some (.cells (bcs wd).toArray 196 (0, 0)) := hK
  have c16 : ∀ L, CellAt h2 L bw 16 (.int .u8 (wd.getD 16 0)) := fun L => by
    have c : Cells h2 L ⟨bw, 0, none⟩ (bcs wd) := cells_view hK
    have := c.cell (j := 16) (u := .int .u8 (wd.getD 16 0)) (by
      unfold bcs
      rw [List.getElem?_map, List.getD_eq_getElem?_getD, List.getElem?_eq_getElem (by omega)]
      rfl)
    exact this
  have d8 := hwb (wd.getD 16 0) (by rw [List.getD_eq_getElem?_getD, List.getElem?_eq_getElem (by omega)]; exact List.getElem_mem _)
  have H1 := Low64_sp _ _ (bytes_take hwb 8) t0 h2 (bs_blk (o := 0) (m := 8) (c := 17) hK (i := 0) (j := 8) (by omega) (by omega) rfl rfl (by omega))
  have H2 := Low64_sp _ _ (bytes_take (bytes_drop hwb 8) 8) t8 h2 (bs_blk (o := 8) (m := 8) (c := 9) hK (i := 8) (j := 16) (by omega) (by omega) rfl rfl (by omega))
  repeat' (first|refine zw171 ?_|(refine ta_ ?_;intro _)|(refine zk0 ?_ ?_<;>intro ht)|fail)
  (refine ycn (ycp Tryz.func119 rfl (by kernel_rfl) rfl) (H1) rfl rfl rfl ?_ ?_; (· (exact to_)))
  repeat' (first|refine zw171 ?_|(refine ta_ ?_;intro _)|(refine zk0 ?_ ?_<;>intro ht)|fail)
  (refine ycn (ycp Tryz.func119 rfl (by kernel_rfl) rfl) (H2) rfl rfl rfl ?_ ?_; (· (exact to_)))
  repeat' (first|refine zw171 ?_|(refine ta_ ?_;intro _)|(refine zk0 ?_ ?_<;>intro ht)|fail)
  (refine ycn (ycp Tryz.func120 rfl (by kernel_rfl) rfl) (load_sp (lo64 (wd.take 8)) (lo64 ((wd.drop 8).take 8)) (BitVec.ofInt 64 (wd.getD 16 0)) h2) rfl rfl rfl ?_ ?_; (· (exact to_)))
  have ll : (loadF (lo64 (wd.take 8)) (lo64 ((wd.drop 8).take 8)) (BitVec.ofInt 64 (wd.getD 16 0))).length = 5 := rfl
  generalize loadF (lo64 (wd.take 8)) (lo64 ((wd.drop 8).take 8)) (BitVec.ofInt 64 (wd.getD 16 0)) = mm at ll ⊢
  repeat' (first|refine zw172 ?_|(refine ta_ ?_;intro _)|(refine zk0 ?_ ?_<;>intro ht)|fail)
  exact nx_ret1 rfl (rv_cells rfl (yaz 0 rfl) (by rw [← ll]; exact up64_len mm)) (fun w' s' => ⟨rfl, s'.nil.base⟩)
end Go.Proofs.YtgeepceieckooaaGreatDoor
end

section
namespace Go.Proofs.YtgeepceieckooaaGreatDoor
open Go Go.Ck
set_option maxHeartbeats 4000000
theorem bs_pre {h : View} {ad : Option Addr} {cap : Nat} {l : List Int} (s : Bs8 h (.slice ad l.length cap) l) {j : Nat} (hj : j ≤ l.length) : Bs8 h (.slice ad j cap) (l.take j) := by
  obtain ⟨h1, ad', cap', h2, h3, h4⟩ := s
  cases h2
  have hl : (l.take j).length = j := by simp; omega
  unfold Bs8
  rw [hl]
  refine ⟨by rw [bcs_len, hl, Nat.mul_one], ad, cap, rfl, by omega, ?_⟩
  rcases h4 with h4 | ⟨b, o, cs, e, fz, e1, e2, e3⟩
  · left
    have : l = [] := by cases l with | nil => rfl | cons a t => simp [bcs] at h4
    subst this
    simp [bcs]
  · right
    refine ⟨b, o, cs, e, fz, e1, e2, fun k u hk => e3 k u ?_⟩
    unfold bcs at hk ⊢
    rw [List.map_take, List.getElem?_take] at hk
    split at hk
    · exact hk
    · cases hk
def tagR (key : List Int) : List W64 := loadF (lo64 (key.take 8) &&& 1152921487695413247#64) (lo64 ((key.drop 8).take 8) &&& 1152921487695413244#64) 0#64
def tagH (r : List W64) (b : List Int) : Nat → List W64
  | 0 => [0, 0, 0, 0, 0]
  | k + 1 => timesF (plusF (tagH r b k) (partF ((b.drop (16 * k)).take 16))) r
theorem tagH_len (r : List W64) (b : List Int) : ∀ k, (tagH r b k).length = 5
  | 0 => rfl
  | k + 1 => timesF_len _ _
def tagE (s0 s1 : W64) (y : List W64) : List Int :=
  let sum := wlo y + s0
  let hi := if sum.toNat < (wlo y).toNat then whi y + 1 else whi y
  putLow 8 (sum.toNat : Int) ++ putLow 8 ((hi + s1).toNat : Int)
def tagF (key b : List Int) : List Int := tagE (lo64 ((key.drop 16).take 8)) (lo64 ((key.drop 24).take 8)) (leastF (tagH (tagR key) b ((b.length + 15) / 16)))
theorem tagE_len (s0 s1 : W64) (y : List W64) : (tagE s0 s1 y).length = 16 := by simp [tagE, putLow_len]
theorem tagF_len (key b : List Int) : (tagF key b).length = 16 := tagE_len _ _ _
theorem pLow_by (m : Nat) (x : Int) : Bytes (putLow m x) := fun y hy => putLow_bytes' m x y (List.mem_reverse.2 hy)
theorem tagE_by (s0 s1 : W64) (y : List W64) : Bytes (tagE s0 s1 y) := cbytes_app (pLow_by _ _) (pLow_by _ _)
theorem tagF_by (key b : List Int) : Bytes (tagF key b) := tagE_by _ _ _
theorem Tag_sp (v : Value) (key b : List Int) (hk : Bytes key) (hk32 : key.length = 32) (hb : Bytes b) (hl : b.length ≤ 900000) (h : View) (hv : Bs8 h v b) (w : World) (s : St ⟨w, h, []⟩ h [] w) :
    Calls Tryz.prog 107 [.agg (bcs key).toArray, v].toArray w fun e w' => e = .returned (.agg (bcs (tagF key b)).toArray) ∧ St ⟨w, h, []⟩ h [] w' := by
  obtain ⟨_, ad, cap, rfl, hcap, _⟩ := id hv
  have hol : (bcs key).length = 32 := by rw [bcs_len, hk32]
  have t0 : (key.take 8).length = 8 := by simp; omega
  have t8 : ((key.drop 8).take 8).length = 8 := by simp; omega
  have t16 : ((key.drop 16).take 8).length = 8 := by simp; omega
  have t24 : ((key.drop 24).take 8).length = 8 := by simp; omega
  refine calls_enter Tryz.func107 rfl Tryz.ntmps107 rfl s ?_
  repeat' (first|refine zw166 ?_|(refine ta_ ?_;intro _)|(refine zk0 ?_ ?_<;>intro ht)|fail)
  rename_i bk bo
  refine rx_bview 1 rfl rfl fun h2 hle2 hK => ?_
  have hK : h2 bk = some (.cells (bcs key).toArray 33 (0, 0)) := hK
  have H0 := Low64_sp _ _ (bytes_take hk 8) t0 h2 (bs_blk (o := 0) (m := 8) (c := 32) hK (i := 0) (j := 8) (by omega) (by omega) rfl rfl (by omega))
  have H8 := Low64_sp _ _ (bytes_take (bytes_drop hk 8) 8) t8 h2 (bs_blk (o := 0 + 8 * 1) (m := 16 - 8) (c := 32 - 8) hK (i := 8) (j := 16) (by omega) (by omega) rfl rfl (by omega))
  have H16 := Low64_sp _ _ (bytes_take (bytes_drop hk 16) 8) t16 h2 (bs_blk (o := 0 + 16 * 1) (m := 24 - 16) (c := 32 - 16) hK (i := 16) (j := 24) (by omega) (by omega) rfl rfl (by omega))
  have H24 := Low64_sp _ _ (bytes_take (bytes_drop hk 24) 8) t24 h2 (bs_blk (o := 0 + 24 * 1) (m := 32 - 24) (c := 32 - 24) hK (i := 24) (j := 32) (by omega) (by omega) rfl rfl (by omega))
  have R1 := load_sp (lo64 (key.take 8) &&& 1152921487695413247#64) (lo64 ((key.drop 8).take 8) &&& 1152921487695413244#64) 0#64 h2
  have eR : tagR key = loadF (lo64 (key.take 8) &&& 1152921487695413247#64) (lo64 ((key.drop 8).take 8) &&& 1152921487695413244#64) 0#64 := rfl
  unfold tagF
  rw [← eR] at R1
  have lr : (tagR key).length = 5 := rfl
  generalize tagR key = r at R1 lr ⊢
  clear eR
  generalize lo64 (key.take 8) = k0 at H0 R1
  generalize lo64 ((key.drop 8).take 8) = k1 at H8 R1
  generalize lo64 ((key.drop 16).take 8) = s0 at H16 ⊢
  generalize lo64 ((key.drop 24).take 8) = s1 at H24 ⊢
  repeat' (first|refine zw173 ?_|(refine ta_ ?_;intro _)|(refine zk0 ?_ ?_<;>intro ht)|fail)
  (refine ycn (ycp Tryz.func119 rfl (by kernel_rfl) rfl) (H0) rfl rfl rfl ?_ ?_; (· (exact to_)))
  repeat' (first|refine zw173 ?_|(refine ta_ ?_;intro _)|(refine zk0 ?_ ?_<;>intro ht)|fail)
  (refine ycn (ycp Tryz.func119 rfl (by kernel_rfl) rfl) (H8) rfl rfl rfl ?_ ?_; (· (exact to_)))
  repeat' (first|refine zw174 ?_|(refine ta_ ?_;intro _)|(refine zk0 ?_ ?_<;>intro ht)|fail)
  (refine ycn (ycp Tryz.func120 rfl (by kernel_rfl) rfl) (R1) rfl rfl rfl ?_ ?_; (· (exact to_)))
  repeat' (first|refine zw175 ?_|(refine ta_ ?_;intro _)|(refine zk0 ?_ ?_<;>intro ht)|fail)
  rename_i br bh
  have hv2 := hv.mono hle2
  obtain ⟨m, hm⟩ : ∃ m, m = (b.length + 15) / 16 := ⟨_, rfl⟩
  rw [← hm]
  refine cx_loop (X := Nat × Value) (fun y => [(1, y.2), (2, .pointer (some ⟨bk, 0, none⟩)), (4, .pointer (some ⟨bo, 0, none⟩)), (9, .pointer (some ⟨br, 0, none⟩)), (10, .pointer (some ⟨bh, 0, none⟩))]) (fun _ => h2)
    (fun y => [Res.blk bh (.cells (up64 (tagH r b y.1)).toArray 172 (0, 0)), Res.blk br (.cells (up64 r).toArray 172 (0, 0)), Res.blk bo (.cells (bcs (List.replicate 16 0)).toArray 146 (0, 0))]) (fun y => y.1 ≤ m ∧ Bs8 h2 y.2 (b.drop (16 * y.1))) (fun y => m - y.1) (0, .slice ad b.length cap) ⟨Nat.zero_le _, hv2⟩ ts_ (fun _ s => s) ?_
  rintro ⟨k, vb⟩ ⟨hkm, hvb⟩
  dsimp only at hkm hvb ⊢
  have hdl : (b.drop (16 * k)).length = b.length - 16 * k := by simp
  have hhl := tagH_len r b k
  by_cases hklt : k < m
  · have ek : tagH r b (k + 1) = timesF (plusF (tagH r b k) (partF ((b.drop (16 * k)).take 16))) r := rfl
    have ed : b.drop (16 * (k + 1)) = (b.drop (16 * k)).drop (min (b.drop (16 * k)).length 16) := by
      rw [List.drop_drop]
      by_cases h16 : 16 ≤ (b.drop (16 * k)).length
      · rw [Nat.min_eq_right h16]; rfl
      · rw [List.drop_of_length_le (by omega), List.drop_of_length_le (by omega)]
    have hdb : Bytes (b.drop (16 * k)) := bytes_drop hb _
    generalize b.drop (16 * k) = c at hdl hdb hvb ek ed ⊢
    generalize tagH r b k = H at hhl ek ⊢
    obtain ⟨_, ac, capc, rfl, hcapc, _⟩ := id hvb
    obtain ⟨q, hq⟩ : ∃ q, q = min c.length 16 := ⟨_, rfl⟩
    have hmin : (if (16 : Int) < (c.length : Int) then (16 : Int) else (c.length : Int)) = (q : Int) := by split<;>omega
    have V1 := bs_pre hvb (j := q) (by omega)
    have V2 := bs_mid hvb (i := q) (j := c.length) (by omega) (Nat.le_refl _)
    rw [List.take_of_length_le (by simp)] at V2
    rw [← hq] at ed
    have eq16 : c.take 16 = c.take q := by
      by_cases h16 : 16 ≤ c.length
      · rw [show q = 16 by omega]
      · rw [List.take_of_length_le (by omega), List.take_of_length_le (by omega)]
    have ql : (c.take q).length = q := by simp; omega
    rw [eq16] at ek
    have P1 := part_sp _ (c.take q) (bytes_take hdb q) (by rw [ql]; omega) h2 V1
    have pl : (partF (c.take q)).length = 5 := rfl
    have P2 := plus_sp H (partF (c.take q)) hhl pl h2
    have pl2 : (plusF H (partF (c.take q))).length = 5 := by rw [plusF_len, hhl]
    have P3 := times_sp (plusF H (partF (c.take q))) r pl2 lr h2
    have pl3 : (timesF (plusF H (partF (c.take q))) r).length = 5 := timesF_len _ _
    rw [← ek] at P3 pl3
    generalize hH' : tagH r b (k + 1) = H' at P3 pl3
    generalize partF (c.take q) = pt at P1 P2 P3 pl
    generalize plusF H pt = sm at P2 P3 pl2
    repeat' (first|refine zw176 ?_|(refine ta_ ?_;intro _)|(refine zk0 ?_ ?_<;>intro ht)|fail)
    refine cx_region_draw' rfl (by kernel_rfl) ?_
    repeat' (first|refine zw177 ?_|(refine ycf ?_;(first|(refine zg0 ?_ ?_<;>intro ht)|(refine tb_ ?_ ?_ ?_;(·(exact to_));(·intro _;(exact to_));intro _)))|fail)
    (refine ycn (ycp Tryz.func122 rfl (by kernel_rfl) rfl) (P1) rfl rfl rfl ?_ ?_; (· (exact to_)))
    repeat' (first|refine zw177 ?_|(refine ycf ?_;(first|(refine zg0 ?_ ?_<;>intro ht)|(refine tb_ ?_ ?_ ?_;(·(exact to_));(·intro _;(exact to_));intro _)))|fail)
    (refine ycn (ycp Tryz.func121 rfl (by kernel_rfl) rfl) (P2) rfl rfl rfl ?_ ?_; (· (exact to_)))
    repeat' (first|refine zw177 ?_|(refine ycf ?_;(first|(refine zg0 ?_ ?_<;>intro ht)|(refine tb_ ?_ ?_ ?_;(·(exact to_));(·intro _;(exact to_));intro _)))|fail)
    (refine ycn (ycp Tryz.func123 rfl (by kernel_rfl) rfl) (P3) rfl rfl rfl ?_ ?_; (· (exact to_)))
    have hcs : (up64 H).toArray.size = 5 := by rw [List.size_toArray, up64_len, hhl]
    have hcl : (up64 H).toArray.toList.length = 5 := by rw [Array.length_toList, hcs]
    refine ybg 0 rfl rfl rfl (w_sz8 pl3) (w_fit8 pl3 hcs) (w_one8 H') (ybh (w_all8 pl3 hcl)) rfl rfl (.inl fun _ s => s) (.inr (by kernel_rfl)) ?_
    repeat' (first|refine zw177 ?_|(refine ycf ?_;(first|(refine zg0 ?_ ?_<;>intro ht)|(refine tb_ ?_ ?_ ?_;(·(exact to_));(·intro _;(exact to_));intro _)))|fail)
    repeat' (first|refine zw178 ?_|(refine ta_ ?_;intro _)|(refine zk0 ?_ ?_<;>intro ht)|fail)
    refine nx_round (k + 1, _) ⟨by show k + 1 ≤ m; omega, by show Bs8 h2 _ (b.drop (16 * (k + 1))); rw [ed]; exact V2⟩ (by show m - (k + 1) < m - k; omega) ts_ (fun _ s => by dsimp only; rw [hH']; exact s)
  · have ekm : k = m := by omega
    subst ekm
    have L1 := least_sp (tagH r b k) hhl h2
    have ll := leastF_len (tagH r b k)
    have W1 := words_sp (leastF (tagH r b k)) (by omega) h2
    obtain ⟨_, ac, capc, rfl, hcapc, _⟩ := id hvb
    have eT : tagE s0 s1 (leastF (tagH r b k)) = putLow 8 ((wlo (leastF (tagH r b k)) + s0).toNat : Int) ++ putLow 8 (((if (wlo (leastF (tagH r b k)) + s0).toNat < (wlo (leastF (tagH r b k))).toNat then whi (leastF (tagH r b k)) + 1 else whi (leastF (tagH r b k))) + s1).toNat : Int) := rfl
    rw [eT]
    clear eT
    have ly : (leastF (tagH r b k)).length = 5 := by omega
    generalize leastF (tagH r b k) = y at L1 W1 ly ⊢
    generalize wlo y = lo at W1 ⊢
    generalize whi y = hi at W1 ⊢
    repeat' (first|refine zw179 ?_|(refine ta_ ?_;intro _)|(refine zk0 ?_ ?_<;>intro ht)|fail)
    (refine ycn (ycp Tryz.func124 rfl (by kernel_rfl) rfl) (L1) rfl rfl rfl ?_ ?_; (· (exact to_)))
    repeat' (first|refine zw179 ?_|(refine ta_ ?_;intro _)|(refine zk0 ?_ ?_<;>intro ht)|fail)
    (refine ycn (ycp Tryz.func125 rfl (by kernel_rfl) rfl) (W1) rfl rfl rfl ?_ ?_; (· (exact to_)))
    repeat' (first|refine zw180 ?_|(refine ta_ ?_;intro _)|(refine zk0 ?_ ?_<;>intro ht)|fail)
    (refine ycn (ycp Tryz.func119 rfl (by kernel_rfl) rfl) (H16) rfl rfl rfl ?_ ?_; (· (exact to_)))
    repeat' (first|refine zw181 ?_|(refine ta_ ?_;intro _)|(refine zk0 ?_ ?_<;>intro ht)|fail)
    (refine ycn (ycp Tryz.func119 rfl (by kernel_rfl) rfl) (H24) rfl rfl rfl ?_ ?_; (· (exact to_)))
    repeat' (first|refine zw35 ?_|(refine ta_ ?_;intro _)|(refine zk0 ?_ ?_<;>intro ht)|fail)
    · rw [if_pos (by omega)]
      repeat' (first|refine zw182 ?_|(refine ta_ ?_;intro _)|(refine zk0 ?_ ?_<;>intro ht)|fail)
      generalize hi + 1 = hz
      (refine yco (ycp Tryz.func102 rfl (by kernel_rfl) rfl) (PutLow_sp ((lo + s0).toNat : Int) 8 ⟨by omega, by have := (lo + s0).isLt; omega⟩ (by omega) h2) rfl rfl rfl ?_ ?_ ?_; (· (exact to_)); (·exact zc148); intro x px hle)
      have p8 := putLow_len 8 ((lo + s0).toNat : Int)
      have q8 := putLow_len 8 ((hz + s1).toNat : Int)
      refine rx_rowform 0 rfl (fun _ h1 _ => (by omega)) ?_
      rintro g1 cap1 rfl
      clear px hle
      repeat' (first|refine zw35 ?_|(refine ta_ ?_;intro _)|(refine zk0 ?_ ?_<;>intro ht)|fail)
      (refine yco (ycp Tryz.func102 rfl (by kernel_rfl) rfl) (PutLow_sp ((hz + s1).toNat : Int) 8 ⟨by omega, by have := (hz + s1).isLt; omega⟩ (by omega) h2) rfl rfl rfl ?_ ?_ ?_; (· (exact to_)); (·exact zc148); intro x px hle)
      refine rx_rowform 0 rfl (fun _ h1 _ => (by omega)) ?_
      rintro g2 cap2 rfl
      refine rx_append (sz := 1) 1 rfl rfl rfl (row_cells 0 rfl) (by rw [bcs_len, Nat.mul_one]) (bcs_one _) rfl (by omega) (by unfold maxLen; omega) (by omega) rfl rfl rfl ybf (fun _ => ybf) ?_
      intro v5 _
      rw [← bcs_app]
      have hol2 : (bcs (putLow 8 ((lo + s0).toNat : Int) ++ putLow 8 ((hz + s1).toNat : Int))).length = 16 := by rw [bcs_len, List.length_append, p8, q8]
      generalize putLow 8 ((lo + s0).toNat : Int) ++ putLow 8 ((hz + s1).toNat : Int) = out at hol2 ⊢
      rw [p8, q8]
      repeat' (first|refine zw183 ?_|(refine ta_ ?_;intro _)|(refine zk0 ?_ ?_<;>intro ht)|fail)
      refine rx_picks [1, 3] ?_
      refine rx_rowform 0 rfl (fun _ h1 _ => (by omega)) ?_
      rintro g3 cap3 rfl
      repeat' (first|refine zw184 ?_|(refine ta_ ?_;intro _)|(refine zk0 ?_ ?_<;>intro ht)|fail)
      exact nx_ret1 rfl (rv_cells rfl (yaz 1 rfl) (by show (bcs out).toArray.toList.length = 16; simpa using hol2)) (fun w' s' => ⟨rfl, s'.nil.base⟩)
    · rw [if_neg (by omega)]
      generalize hi = hz
      (refine yco (ycp Tryz.func102 rfl (by kernel_rfl) rfl) (PutLow_sp ((lo + s0).toNat : Int) 8 ⟨by omega, by have := (lo + s0).isLt; omega⟩ (by omega) h2) rfl rfl rfl ?_ ?_ ?_; (· (exact to_)); (·exact zc148); intro x px hle)
      have p8 := putLow_len 8 ((lo + s0).toNat : Int)
      have q8 := putLow_len 8 ((hz + s1).toNat : Int)
      refine rx_rowform 0 rfl (fun _ h1 _ => (by omega)) ?_
      rintro g1 cap1 rfl
      clear px hle
      repeat' (first|refine zw185 ?_|(refine ta_ ?_;intro _)|(refine zk0 ?_ ?_<;>intro ht)|fail)
      (refine yco (ycp Tryz.func102 rfl (by kernel_rfl) rfl) (PutLow_sp ((hz + s1).toNat : Int) 8 ⟨by omega, by have := (hz + s1).isLt; omega⟩ (by omega) h2) rfl rfl rfl ?_ ?_ ?_; (· (exact to_)); (·exact zc148); intro x px hle)
      refine rx_rowform 0 rfl (fun _ h1 _ => (by omega)) ?_
      rintro g2 cap2 rfl
      refine rx_append (sz := 1) 1 rfl rfl rfl (row_cells 0 rfl) (by rw [bcs_len, Nat.mul_one]) (bcs_one _) rfl (by omega) (by unfold maxLen; omega) (by omega) rfl rfl rfl ybf (fun _ => ybf) ?_
      intro v5 _
      rw [← bcs_app]
      have hol2 : (bcs (putLow 8 ((lo + s0).toNat : Int) ++ putLow 8 ((hz + s1).toNat : Int))).length = 16 := by rw [bcs_len, List.length_append, p8, q8]
      generalize putLow 8 ((lo + s0).toNat : Int) ++ putLow 8 ((hz + s1).toNat : Int) = out at hol2 ⊢
      rw [p8, q8]
      repeat' (first|refine zw186 ?_|(refine ta_ ?_;intro _)|(refine zk0 ?_ ?_<;>intro ht)|fail)
      refine rx_picks [1, 3] ?_
      refine rx_rowform 0 rfl (fun _ h1 _ => (by omega)) ?_
      rintro g3 cap3 rfl
      repeat' (first|refine zw184 ?_|(refine ta_ ?_;intro _)|(refine zk0 ?_ ?_<;>intro ht)|fail)
      exact nx_ret1 rfl (rv_cells rfl (yaz 1 rfl) (by show (bcs out).toArray.toList.length = 16; simpa using hol2)) (fun w' s' => ⟨rfl, s'.nil.base⟩)
end Go.Proofs.YtgeepceieckooaaGreatDoor
end

section
namespace Go.Proofs.YtgeepceieckooaaGreatDoor
open Go Go.Ck
set_option maxHeartbeats 400000
def padQ (n : Nat) : Nat := (16 - n % 16) % 16
def padP (b : List Int) : List Int := b ++ List.replicate (padQ b.length) 0
theorem padQ_lt (n : Nat) : padQ n < 16 := Nat.mod_lt _ (by omega)
theorem padP_len (b : List Int) : (padP b).length = b.length + padQ b.length := by simp [padP]
theorem padP_by {b : List Int} (hb : Bytes b) : Bytes (padP b) := cbytes_app hb (zeros_by _)
theorem apadded_sp (v : Value) (b : List Int) (hl : b.length ≤ 400000) (h : View) (hv : Bs8 h v b) (w : World) (s : St ⟨w, h, []⟩ h [] w) :
    Calls Tryz.prog 106 [v].toArray w fun e w' => ∃ v, e = .returned v ∧ St ⟨w, h, []⟩ h [rowB v (padP b)] w' ∧ True := by
  obtain ⟨_, ad, cap, rfl, hcap, _⟩ := id hv
  refine calls_enter Tryz.func106 rfl Tryz.ntmps106 rfl s ?_
  repeat' (first|refine zw3 ?_|(refine ta_ ?_;intro _)|(refine zk0 ?_ ?_<;>intro ht)|fail)
  refine yba ma_buildSlice0 rfl rfl rfl ybf (fun _ => ybf) ?_
  intro b0
  refine rx_rowOf 1 0 0 (by omega) (by unfold maxLen; omega) rfl ?_
  repeat' (first|refine zw3 ?_|(refine ta_ ?_;intro _)|(refine zk0 ?_ ?_<;>intro ht)|fail)
  refine rx_append_sc (sz := 1) 0 rfl rfl rfl hv (bcs_one b) rfl (by omega) (by unfold maxLen; omega) (by omega) rfl rfl rfl ybf (fun _ => ybf) ?_
  intro v1 _
  repeat' (first|refine zw3 ?_|(refine ta_ ?_;intro _)|(refine zk0 ?_ ?_<;>intro ht)|fail)
  refine cx_loop (X := Nat × Value) (fun y => [(3, y.2)]) (fun _ => h) (fun y => [rowB y.2 (b ++ List.replicate y.1 0)]) (fun y => y.1 ≤ padQ b.length) (fun y => padQ b.length - y.1) (0, v1) (Nat.zero_le _) ts_ (fun _ s => ?_) ?_
  · dsimp only
    unfold rowB
    simpa using s
  rintro ⟨k, v⟩ hk
  replace hk : k ≤ padQ b.length := hk
  dsimp only
  have hpz := padQ_lt b.length
  have hpm : (b.length + padQ b.length) % 16 = 0 := by unfold padQ; omega
  have hln : (b ++ List.replicate k (0 : Int)).length = b.length + k := by simp
  have hrem : (((b ++ List.replicate k (0 : Int)).length : Nat) : Int).tmod 16 = (((b.length + k) % 16 : Nat) : Int) := by rw [hln]; rfl
  refine cx_rowsl 0 rfl ?_
  rintro ad1 cap1 rfl
  by_cases hkz : k < padQ b.length
  · have hne : (b.length + k) % 16 ≠ 0 := by unfold padQ at hkz; omega
    repeat' (first|refine zw118 ?_|(refine ta_ ?_;intro _)|(refine zk0 ?_ ?_<;>intro ht)|fail)
    refine rx_append (sz := 1) 1 rfl rfl rfl (yaz 0 rfl) rfl (bcs_one [0]) rfl (by omega) (by unfold maxLen; omega) (by omega) rfl rfl rfl ybf (fun _ => ybf) ?_
    intro v2 _
    repeat' (first|refine tw_ ?_|(refine ta_ ?_;intro _)|(refine zk0 ?_ ?_<;>intro ht)|fail)
    refine nx_round (k + 1, v2) (by show k + 1 ≤ _; omega) (by show padQ b.length - (k + 1) < padQ b.length - k; omega) ts_ (fun _ s => ?_)
    dsimp only
    rw [List.replicate_succ', ← List.append_assoc]
    unfold rowB
    rw [List.length_append, bcs_app]
    exact s.tl
  · have ek : k = padQ b.length := by omega
    subst ek
    rw [hpm] at hrem
    repeat' (first|refine zw118 ?_|(refine ta_ ?_;intro _)|(refine zk0 ?_ ?_<;>intro ht)|fail)
    exact nx_ret1 rfl (rv_tmp rfl) (fun w' s' => ⟨_, rfl, s', trivial⟩)
end Go.Proofs.YtgeepceieckooaaGreatDoor
end

section
namespace Go.Proofs.YtgeepceieckooaaGreatDoor
open Go Go.Ck
set_option maxHeartbeats 4000000
def aeadM (wth hid : List Int) : List Int := (padP wth ++ padP hid ++ putLow 8 (wth.length : Int)) ++ putLow 8 (hid.length : Int)
def aeadT (key nonce wth hid : List Int) : List Int := tagF ((blockF key 0 nonce).take 32) (aeadM wth hid)
theorem aeadM_by {a b : List Int} (ha : Bytes a) (hb : Bytes b) : Bytes (aeadM a b) := cbytes_app (cbytes_app (cbytes_app (padP_by ha) (padP_by hb)) (pLow_by _ _)) (pLow_by _ _)
theorem aeadM_len (a b : List Int) : (aeadM a b).length = a.length + padQ a.length + (b.length + padQ b.length) + 16 := by simp [aeadM, padP_len, putLow_len]; omega
theorem aeadT_len (key nonce wth hid : List Int) : (aeadT key nonce wth hid).length = 16 := tagF_len _ _
theorem aeadT_by (key nonce wth hid : List Int) : Bytes (aeadT key nonce wth hid) := tagF_by _ _
theorem atag_sp (va vb : Value) (key nonce a b : List Int) (hk : Bytes key) (hn : Bytes nonce) (hk32 : key.length = 32) (hn12 : nonce.length = 12) (ya : Bytes a) (yb : Bytes b) (la : a.length ≤ 400000) (lb : b.length ≤ 400000) (h : View) (ha : Bs8 h va a) (hb : Bs8 h vb b) (w : World) (s : St ⟨w, h, []⟩ h [] w) :
    Calls Tryz.prog 92 [.agg (bcs key).toArray, .agg (bcs nonce).toArray, va, vb].toArray w fun e w' => e = .returned (.agg (bcs (aeadT key nonce a b)).toArray) ∧ St ⟨w, h, []⟩ h [] w' := by
  obtain ⟨_, ada, capa, rfl, hcapa, _⟩ := id ha
  obtain ⟨_, adb, capb, rfl, hcapb, _⟩ := id hb
  have k1 : (bcs key).length = 32 := by rw [bcs_len, hk32]
  have k2 : (bcs nonce).length = 12 := by rw [bcs_len, hn12]
  have B1 := Block_sp key 0 nonce hk hn hk32 hn12 h
  have bl := blockF_len key 0 nonce
  have bb : Bytes (blockF key 0 nonce) := outF_by _ 16
  have pz1 := padQ_lt a.length
  have pz2 := padQ_lt b.length
  have pa := padP_len a
  have pb := padP_len b
  have p8 := putLow_len 8 (a.length : Int)
  have q8 := putLow_len 8 (b.length : Int)
  have hml := aeadM_len a b
  have hmb := aeadM_by ya yb
  unfold aeadT
  generalize blockF key 0 nonce = kb at B1 bl bb ⊢
  have hol : (bcs kb).length = 64 := by rw [bcs_len, bl]
  have wa : IntKind.u64.wrap (a.length : Int) = (a.length : Int) := wrap_u64 (by omega) (by omega)
  have wb : IntKind.u64.wrap (b.length : Int) = (b.length : Int) := wrap_u64 (by omega) (by omega)
  refine calls_enter Tryz.func92 rfl Tryz.ntmps92 rfl s ?_
  repeat' (first|refine zw70 ?_|(refine ta_ ?_;intro _)|(refine zk0 ?_ ?_<;>intro ht)|fail)
  (refine ycn (ycp Tryz.func104 rfl (by kernel_rfl) rfl) (B1) rfl rfl rfl ?_ ?_; (· (exact to_)))
  repeat' (first|refine zw187 ?_|(refine ta_ ?_;intro _)|(refine zk0 ?_ ?_<;>intro ht)|fail)
  rename_i bk bn bo b9
  (refine yco (ycp Tryz.func106 rfl (by kernel_rfl) rfl) (apadded_sp _ a la h ha) rfl rfl rfl ?_ ?_ ?_; (· (exact to_)); (·exact zc148); intro x px hle)
  refine rx_rowsl 0 rfl ?_
  rintro ad1 cap1 rfl
  clear px hle
  repeat' (first|refine zw183 ?_|(refine ta_ ?_;intro _)|(refine zk0 ?_ ?_<;>intro ht)|fail)
  (refine yco (ycp Tryz.func106 rfl (by kernel_rfl) rfl) (apadded_sp _ b lb h hb) rfl rfl rfl ?_ ?_ ?_; (· (exact to_)); (·exact zc148); intro x px hle)
  refine rx_rowsl 0 rfl ?_
  rintro ad2 cap2 rfl
  clear px hle
  refine rx_persist rfl fun h1 hle1 hv1 => ?_
  have hv1 : Bs8 h1 (.slice ad2 (padP b).length cap2) (padP b) := hv1
  refine rx_append_sc (sz := 1) 0 rfl rfl rfl hv1 (bcs_one _) rfl (by omega) (by unfold maxLen; omega) (by omega) rfl rfl rfl ybf (fun _ => ybf) ?_
  intro v1 _
  rw [← bcs_app]
  repeat' (first|refine zw188 ?_|(refine ta_ ?_;intro _)|(refine zk0 ?_ ?_<;>intro ht)|fail)
  (refine yco (ycp Tryz.func102 rfl (by kernel_rfl) rfl) (PutLow_sp (a.length : Int) 8 ⟨by omega, by omega⟩ (by omega) h1) rfl rfl rfl ?_ ?_ ?_; (· (exact to_)); (·exact zc148); intro x px hle)
  refine rx_rowform 0 rfl (fun _ h1 _ => (by omega)) ?_
  rintro g1 cap1 rfl
  clear px hle
  refine rx_append (sz := 1) 1 rfl rfl rfl (row_cells 0 rfl) (by rw [bcs_len, Nat.mul_one]) (bcs_one _) rfl (by omega) (by unfold maxLen; omega) (by omega) rfl rfl rfl ybf (fun _ => ybf) ?_
  intro v2 _
  rw [← bcs_app]
  repeat' (first|refine zw189 ?_|(refine ta_ ?_;intro _)|(refine zk0 ?_ ?_<;>intro ht)|fail)
  (refine yco (ycp Tryz.func102 rfl (by kernel_rfl) rfl) (PutLow_sp (b.length : Int) 8 ⟨by omega, by omega⟩ (by omega) h1) rfl rfl rfl ?_ ?_ ?_; (· (exact to_)); (·exact zc148); intro x px hle)
  refine rx_rowform 0 rfl (fun _ h1 _ => (by omega)) ?_
  rintro g2 cap2 rfl
  clear px hle
  refine rx_append (sz := 1) 2 rfl rfl rfl (row_cells 0 rfl) (by rw [bcs_len, Nat.mul_one]) (bcs_one _) rfl (by omega) (by unfold maxLen; omega) (by omega) rfl rfl rfl ybf (fun _ => ybf) ?_
  intro v3 _
  rw [← bcs_app]
  have eM : padP a ++ padP b ++ putLow 8 (a.length : Int) ++ putLow 8 (b.length : Int) = aeadM a b := rfl
  rw [eM]
  refine rx_picks [2, 2, 2] ?_
  refine rx_persist rfl fun h2 hle2 hv3 => ?_
  have hv3 : Sc h2 1 v3 ((padP a).length + (padP b).length + (putLow 8 (a.length : Int)).length + (putLow 8 (b.length : Int)).length) (bcs (aeadM a b)) := hv3
  rw [show (padP a).length + (padP b).length + (putLow 8 (a.length : Int)).length + (putLow 8 (b.length : Int)).length = (aeadM a b).length by omega] at hv3
  have hv3 : Bs8 h2 v3 (aeadM a b) := hv3
  refine rx_bview 0 rfl rfl fun h3 hle3 hK => ?_
  have hK : h3 b9 = some (.cells (bcs kb).toArray 158 (0, 0)) := hK
  clear eM
  generalize aeadM a b = m at hml hmb hv3 ⊢
  have T1 := Tag_sp v3 (kb.take 32) m (bytes_take bb 32) (by simp; omega) hmb (by omega) h3 (hv3.mono hle3)
  have tl := tagF_len (kb.take 32) m
  generalize tagF (kb.take 32) m = out at T1 tl ⊢
  obtain ⟨_, ad3, cap3, rfl, hcap3, _⟩ := id hv3
  have hol3 : (bcs (kb.take 32)).length = 32 := by rw [bcs_len]; simp; omega
  have hot : (bcs out).length = 16 := by rw [bcs_len, tl]
  have ck : ∀ L, Cells h3 L ⟨b9, 0, none⟩ (bcs (kb.take 32)) := fun L => by
    have c : Cells h3 L ⟨b9, 0, none⟩ (bcs kb) := cells_view hK
    have := c.take 32
    rwa [show (bcs kb).take 32 = bcs (kb.take 32) by unfold bcs; rw [List.map_take]] at this
  repeat' (first|refine zw190 ?_|(refine ta_ ?_;intro _)|(refine zk0 ?_ ?_<;>intro ht)|fail)
  (refine ycn (ycp Tryz.func107 rfl (by kernel_rfl) rfl) (T1) rfl rfl rfl ?_ ?_; (· (exact to_)))
  repeat' (first|refine zw191 ?_|(refine ta_ ?_;intro _)|(refine zk0 ?_ ?_<;>intro ht)|fail)
  exact nx_ret1 rfl (rv_cells rfl (yaz 0 rfl) (by show (bcs out).toArray.toList.length = 16; simpa using hot)) (fun w' s' => ⟨rfl, s'.nil.base⟩)
def aeadS (key nonce wth b : List Int) : List Int := streamF key 1 nonce b ++ aeadT key nonce wth (streamF key 1 nonce b)
theorem aeadS_len (key nonce wth b : List Int) : (aeadS key nonce wth b).length = b.length + 16 := by rw [aeadS, List.length_append, streamF_len, aeadT_len]
theorem aeadS_by (key nonce wth b : List Int) : Bytes (aeadS key nonce wth b) := cbytes_app (strmF_by _ _ _ _ _) (aeadT_by _ _ _ _)
theorem aSeal_sp (va vb : Value) (key nonce a b : List Int) (hk : Bytes key) (hn : Bytes nonce) (hk32 : key.length = 32) (hn12 : nonce.length = 12) (ya : Bytes a) (yb : Bytes b) (la : a.length ≤ 400000) (lb : b.length ≤ 400000) (h : View) (ha : Bs8 h va a) (hb : Bs8 h vb b) (w : World) (s : St ⟨w, h, []⟩ h [] w) :
    Calls Tryz.prog 63 [.agg (bcs key).toArray, .agg (bcs nonce).toArray, va, vb].toArray w fun e w' => ∃ v, e = .returned v ∧ St ⟨w, h, []⟩ h [rowB v (aeadS key nonce a b)] w' ∧ True := by
  obtain ⟨_, ada, capa, rfl, hcapa, _⟩ := id ha
  obtain ⟨_, adb, capb, rfl, hcapb, _⟩ := id hb
  have k1 : (bcs key).length = 32 := by rw [bcs_len, hk32]
  have k2 : (bcs nonce).length = 12 := by rw [bcs_len, hn12]
  have S1 := Stream_sp key 1 nonce _ b hk hn hk32 hn12 (by omega) yb h hb
  have sl := streamF_len key 1 nonce b
  have sb : Bytes (streamF key 1 nonce b) := strmF_by _ _ _ _ _
  unfold aeadS
  generalize streamF key 1 nonce b = hd at S1 sl sb ⊢
  refine calls_enter Tryz.func63 rfl Tryz.ntmps63 rfl s ?_
  repeat' (first|refine zw192 ?_|(refine ta_ ?_;intro _)|(refine zk0 ?_ ?_<;>intro ht)|fail)
  (refine yco (ycp Tryz.func89 rfl (by kernel_rfl) rfl) (S1) rfl rfl rfl ?_ ?_ ?_; (· (exact to_)); (·exact zc148); intro x px hle)
  refine rx_rowsl 0 rfl ?_
  rintro ad1 cap1 rfl
  clear px hle
  repeat' (first|refine zw70 ?_|(refine ta_ ?_;intro _)|(refine zk0 ?_ ?_<;>intro ht)|fail)
  refine rx_call_lend 0 (ycp Tryz.func92 rfl (by kernel_rfl) rfl) rfl (fun h' hle' hsc w s => atag_sp _ (.slice ad1 hd.length cap1) key nonce a hd hk hn hk32 hn12 ya sb la (by omega) h' (ha.mono hle') hsc w s) rfl rfl rfl ybf ?_
  have tl := aeadT_len key nonce a hd
  generalize aeadT key nonce a hd = t at tl ⊢
  have hot : (bcs t).length = 16 := by rw [bcs_len, tl]
  repeat' (first|refine zw193 ?_|(refine ta_ ?_;intro _)|(refine zk0 ?_ ?_<;>intro ht)|fail)
  refine rx_append (sz := 1) 1 rfl rfl rfl (yaz 0 rfl) (by show (bcs t).length = 16 * 1; exact hot) (bcs_one _) rfl (by omega) (by unfold maxLen; omega) (by omega) rfl rfl rfl ybf (fun _ => ybf) ?_
  intro v3 _
  repeat' (first|refine zw169 ?_|(refine ta_ ?_;intro _)|(refine zk0 ?_ ?_<;>intro ht)|fail)
  refine nx_ret1 rfl (rv_tmp rfl) (fun w' s' => ⟨v3, rfl, ?_, trivial⟩)
  unfold rowB
  rw [List.length_append, tl, bcs_app]
  exact s'.picks [1]
end Go.Proofs.YtgeepceieckooaaGreatDoor
end

section
namespace Go.Ck
open Go
section
variable {P : Program} {n : Nat} {K : Bs} {F : List (Nat × Value)} {h : View} {L : List Res} {Q : Exit → Act → World → Prop}
variable {dst : Option Nat} {ty : Nat} {pos : String} {af : Array Edge} {gd : Option (Nat × Bool)}
theorem rx_append_full {g : Rg} {i : Nat} {r : List (Nat × Oper)} {T e : Nat} {x y : Operand} {z : Value} {sz by' m0 m c gb go : Nat} {ad : Addr} {xs news : List Value} [tu : TyU P T (.slice e)] [tb : TyB P e z sz by'] (hx : ev F x = some (.slice (some ⟨gb, go, none⟩) m0 m0)) (hy : ev F y = some (.slice (some ad) m c))
    (hold : Sc h sz (.slice (some ⟨gb, go, none⟩) m0 m0) m0 xs) (hnews : Cells h L ad news) (hl : news.length = m * sz) (hm : 0 < m) (hzs : z.cells.size = sz) (hsz : 0 < sz) (h63 : m0 + m ≤ maxLen) (hbytes : (m0 + m) * by' ≤ 140737488355328)
    (hw : wantedF g.ops F ⟨dst, .call ⟨.builtin .append, #[x, y], #[T, T]⟩, ty, pos, af, gd⟩ = some true) (hd : okd n dst = true) (hlo : g.lo i = true) (o1 : Owe g i h L)
    (o2 : ∀ v', Owe g i h (Res.row e sz v' (m0 + m) (xs ++ news) :: L))
    (hn : ∀ v', RX P n K g r (putF dst v' F) h (Res.row e sz v' (m0 + m) (xs ++ news) :: L) Q) :
    RX P n K g ((i, ⟨dst, .call ⟨.builtin .append, #[x, y], #[T, T]⟩, ty, pos, af, gd⟩) :: r) F h L Q := by
  unfold RX at *
  intro a w f s
  obtain ⟨ii, hi, hz, hsize, hby⟩ := tb.ex
  subst hsize
  subst hby
  have hlen : (xs ++ news).length = (m0 + m) * ii.size := by rw [List.length_append, hold.1, hl, Nat.add_mul]
  have hsmall : m0 + m ≤ 9223372036854775807 := by simp only [maxLen] at h63; omega
  have hr := run_append_grow (P := P) w T ty e ii z tu.u hi hz ⟨gb, go, none⟩ m0 m0 xs hold.1 (fun j u hj => hold.cells w s.hd j u hj) ad m c news hl (hnews w s.hd) (by omega) (by omega) (growslice_fits (by omega) hbytes)
  have hge := grownCap_ge w (m0 + m) m0 e
  have hcm := grownCap_le_maxLen w (m0 + m) m0 e h63
  generalize grownCap w (m0 + m) m0 e = cap at hr hge hcm
  have s1 := s.drew.alloc (.cells (xs.toArray ++ news.toArray ++ Builtin.zeroCells z.cells (cap - (m0 + m))) e)
  have s2 := s1.rowOf (k := ii.size) (m := m0 + m) (cap := cap) hge hcm (by
    simp only [Array.size_append, List.size_toArray, size_zeroCells, hzs, hold.1, hl, ← Nat.add_mul]
    congr 1
    omega)
  have ht : ((xs.toArray ++ news.toArray ++ Builtin.zeroCells z.cells (cap - (m0 + m))).toList.take ((m0 + m) * ii.size)) = xs ++ news := by
    simp only [Array.toList_append, List.append_assoc]
    rw [← List.append_assoc, ← hlen]
    exact List.take_left
  rw [ht] at s2
  refine .inr (.inr ⟨wantedF_ok f hw, hlo, o1.out s, ?_⟩)
  unfold Oper.wp
  have : (execOp a.eval ⟨dst, .call ⟨.builtin .append, #[x, y], #[T, T]⟩, ty, pos, af, gd⟩).run P w = .ok (.value (.slice (some ⟨w.heap.size, 0, none⟩) (m0 + m) cap)) (w.drew.alloc (.cells (xs.toArray ++ news.toArray ++ Builtin.zeroCells z.cells (cap - (m0 + m))) e)) := by
    simp [execOp, resolve, invoke, builtin, f.ev hx, f.ev hy, hr]
  rw [this]
  exact ⟨(o2 _).out s2, hn _ _ _ (f.put hd _) s2⟩
end
end Go.Ck
end

section
namespace Go.Proofs.YtgeepceieckooaaGreatDoor
open Go Go.Ck
set_option maxHeartbeats 4000000
def useS : List Int := [115, 101, 97, 108]
def sealK (key : List Int) (ep : Int) : List Int := expandF key (useS ++ (putLow 8 ep).reverse)
theorem sealK_len (key : List Int) (ep : Int) : (sealK key ep).length = 32 := expandF_len _ _
theorem sealK_by (key : List Int) (ep : Int) : Bytes (sealK key ep) := expandF_by _ _
theorem kSeal_sp (key : List Int) (ep : Int) (hk : Bytes key) (hk32 : key.length = 32) (he : 1 ≤ ep ∧ ep ≤ 1048576) (h : View) (hg : ShG h) (w : World) (s : St ⟨w, h, []⟩ h [] w) :
    Calls Tryz.prog 91 [.agg (bcs key).toArray, .int .i64 ep].toArray w fun e w' => e = .returned (.tuple #[.agg (bcs (sealK key ep)).toArray, .int .i64 0]) ∧ St ⟨w, h, []⟩ h [] w' := by
  have hol : (bcs key).length = 32 := by rw [bcs_len, hk32]
  have hub : Bytes useS := by
    intro x hx
    simp only [useS, List.mem_cons, List.not_mem_nil, or_false] at hx
    omega
  have we : IntKind.u64.wrap ep = ep := wrap_u64 (by omega) (by omega)
  refine calls_enter Tryz.func91 rfl Tryz.ntmps91 rfl s ?_
  repeat' (first|refine zw194 ?_|(refine ta_ ?_;intro _)|(refine zk0 ?_ ?_<;>intro ht)|fail)
  refine rx_mark 0 rfl rfl rfl (by unfold maxLen; omega) rfl rfl rfl ybf ybf ?_
  refine rx_persist_s rfl fun h1 hle1 hu1 => ?_
  have hu1 : Sc h1 1 (.slice (some ⟨_, 0, none⟩) 4 4) 4 (bcs useS) := hu1
  repeat' (first|refine zw195 ?_|(refine ta_ ?_;intro _)|(refine zk0 ?_ ?_<;>intro ht)|fail)
  (refine yco (ycp Tryz.func88 rfl (by kernel_rfl) rfl) (PutHigh_sp ep 8 ⟨by omega, by omega⟩ (by omega) (by omega) h1) rfl rfl rfl ?_ ?_ ?_; (· (exact to_)); (·exact zc148); intro x px hle)
  have p8 := putLow_len 8 ep
  have pb := putLow_bytes' 8 ep
  have pl : (putLow 8 ep).reverse.length = 8 := by rw [List.length_reverse, p8]
  unfold sealK
  have hul : (useS ++ (putLow 8 ep).reverse).length = 12 := by rw [List.length_append, pl]; rfl
  have hyl : Bytes (useS ++ (putLow 8 ep).reverse) := cbytes_app hub pb
  refine rx_rowform 0 rfl (fun _ h1 _ => (by omega)) ?_
  rintro g8 cap8 rfl
  refine rx_append_full (sz := 1) rfl rfl hu1 (row_cells 0 rfl) (by rw [bcs_len, Nat.mul_one]) (by omega) rfl (by omega) (by unfold maxLen; rw [pl]; omega) (by rw [pl]; omega) rfl rfl rfl ybf (fun _ => ybf) ?_
  intro v1
  rw [← bcs_app, pl]
  refine rx_persist rfl fun h2 hle2 hv2 => ?_
  have hv2 : Sc h2 1 v1 12 (bcs (useS ++ (putLow 8 ep).reverse)) := hv2
  generalize useS ++ (putLow 8 ep).reverse = us at hul hyl hv2 ⊢
  have hv2 : Bs8 h2 v1 us := by unfold Bs8; rw [hul]; exact hv2
  obtain ⟨_, adu, capu, rfl, hcapu, _⟩ := id hv2
  clear px hle
  repeat' (first|refine tw_ ?_|(refine ta_ ?_;intro _)|(refine zk0 ?_ ?_<;>intro ht)|fail)
  refine rx_perm (perm_at (k := 2) rfl) ?_
  refine rx_arr_view rfl hk32 fun h3 hle3 hm3 => ?_
  repeat' (first|refine zw167 ?_|(refine ta_ ?_;intro _)|(refine zk0 ?_ ?_<;>intro ht)|fail)
  (refine yco (ycp Tryz.func86 rfl (by kernel_rfl) rfl) (expand_sp _ _ key us hk ⟨by omega, by omega⟩ hyl (by omega) h3 (by rw [hk32] at *; exact hm3) (hv2.mono hle3) (((hg.mono hle1).mono hle2).mono hle3)) rfl rfl rfl ?_ ?_ ?_; (· (exact to_)); (·exact zc148); intro x px hle)
  obtain ⟨h4, vk⟩ := x
  clear hle
  dsimp only at px ⊢
  have hkl := expandF_len key us
  generalize expandF key us = kk at hkl px ⊢
  obtain ⟨_, adk, capk, rfl, hcapk, _⟩ := id px
  obtain ⟨bk, ok, rfl⟩ := px.ad (by omega) (by omega)
  have hol2 : (bcs kk).length = 32 := by rw [bcs_len, hkl]
  repeat' (first|refine zw196 ?_|(refine ta_ ?_;intro _)|(refine zk0 ?_ ?_<;>intro ht)|fail)
  exact nx_ret2 rfl (rv_cells rfl (yaz 1 rfl) (by show (bcs kk).toArray.toList.length = 32; simpa using hol2)) (rv_tmp rfl) (fun w' s' => ⟨rfl, s'.nil.base⟩)
theorem vkeys_sp (bv : Nat) (idl : Bool) (key : List Int) (a b c : Nat) (ep cl ct : Int) (hk : Bytes key) (hk32 : key.length = 32) (hok : sealOk ep cl ct) (h : View) (hv : Vb h bv idl key a b c) (hg : ShG h) (w : World) (s : St ⟨w, h, []⟩ h [] w) :
    Calls Tryz.prog 62 [.pointer (some ⟨bv, 0, none⟩), .int .i64 ep, .int .i64 cl, .int .i64 ct].toArray w fun e w' => e = .returned (.tuple #[.agg (bcs (sealK key ep)).toArray, .agg (bcs (nonceF cl ct)).toArray, .int .i64 0]) ∧ St ⟨w, h, []⟩ h [] w' := by
  have N1 := Nonce_sp cl ct h
  rw [if_pos hok.1] at N1
  have hnl := nonceF_len cl ct
  have hskl := sealK_len key ep
  have K1 := kSeal_sp key ep hk hk32 ⟨hok.2.1, hok.2.2⟩ h hg
  generalize nonceF cl ct = nn at N1 hnl ⊢
  generalize sealK key ep = kk at K1 hskl ⊢
  have hol : (bcs kk).length = 32 := by rw [bcs_len, hskl]
  have hon : (bcs nn).length = 12 := by rw [bcs_len, hnl]
  refine calls_enter Tryz.func62 rfl Tryz.ntmps62 rfl s ?_
  repeat' (first|refine zw197 ?_|(refine ta_ ?_;intro _)|(refine zk0 ?_ ?_<;>intro ht)|fail)
  (refine ycn (ycp Tryz.func91 rfl (by kernel_rfl) rfl) (K1) rfl rfl rfl ?_ ?_; (· (exact to_)))
  repeat' (first|refine zw198 ?_|(refine ta_ ?_;intro _)|(refine zk0 ?_ ?_<;>intro ht)|fail)
  (refine ycn (ycp Tryz.func90 rfl (by kernel_rfl) rfl) (N1) rfl rfl rfl ?_ ?_; (· (exact to_)))
  repeat' (first|refine zw199 ?_|(refine ta_ ?_;intro _)|(refine zk0 ?_ ?_<;>intro ht)|fail)
  rename_i b8 b9 b11 b13
  refine cx_region_draw [Res.blk b13 (.cells (bcs nn).toArray 117 (0, 0)), Res.blk b11 (.cells (bcs kk).toArray 33 (0, 0))] rfl (by kernel_rfl) ?_
  repeat' (first|refine zw200 ?_|(refine ycf ?_;(first|(refine zg0 ?_ ?_<;>intro ht)|(refine tb_ ?_ ?_ ?_;(·exact zc72);(·exact zc155);intro _)))|fail)
  repeat' (first|refine zw201 ?_|(refine ta_ ?_;intro _)|(refine zk0 ?_ ?_<;>intro ht)|fail)
  exact nx_ret3 rfl (rv_cells rfl (yaz 3 rfl) (by show (bcs kk).toArray.toList.length = 32; simpa using hol)) (rv_cells rfl (yaz 2 rfl) (by show (bcs nn).toArray.toList.length = 12; simpa using hon)) (rv_tmp rfl) (fun w' s' => ⟨rfl, s'.nil⟩)
end Go.Proofs.YtgeepceieckooaaGreatDoor
end
