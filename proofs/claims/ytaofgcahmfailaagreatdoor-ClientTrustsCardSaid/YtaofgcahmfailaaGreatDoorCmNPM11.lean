/-
  Part 11 of a proof: PoD ShE HmA HmB HmC CkStr CkMark KyA PoE PoF AeA AeB KyB VrA CiA CiB EvA EvE.
  Conditions: each theorem states its own.
-/
import Derived.Laws.IdiomStrings
import Derived.Test.YtaofgcahmfailaaGreatDoorCmNPM10
set_option maxRecDepth 100000
set_option linter.unusedVariables false
set_option linter.unusedSimpArgs false
section
namespace Go.Proofs.YtaofgcahmfailaaGreatDoor
open Go Go.Ck
set_option maxHeartbeats 4000000
def lstep (y : List W64) (i : Nat) : List W64 :=
  let s1 := y.set (i + 1) (y.getD (i + 1) 0 + (y.getD i 0 >>> 26))
  s1.set i (s1.getD i 0 &&& m26)
def lpass (y : List W64) : Nat → List W64
  | 0 => y
  | k + 1 => lstep (lpass y k) k
def five : List W64 := [5, 0, 0, 0, 0]
def leastF (x : List W64) : List W64 :=
  let x2 := carryF (carryF x)
  let y := lpass (plusF x2 five) 4
  if y.getD 4 0 >>> 26 = 0#64 then x2 else y.set 4 (y.getD 4 0 &&& m26)
def wlo (x : List W64) : W64 := (x.getD 0 0 ||| (x.getD 1 0 <<< 26)) ||| (x.getD 2 0 <<< 52)
def whi (x : List W64) : W64 := ((x.getD 2 0 >>> 12) ||| (x.getD 3 0 <<< 14)) ||| (x.getD 4 0 <<< 40)
end Go.Proofs.YtaofgcahmfailaaGreatDoor
end

section
namespace Go.Proofs.YtaofgcahmfailaaGreatDoor
open Go Go.Ck
set_option maxHeartbeats 4000000
def padZ (n : Nat) : Nat := (119 - n % 64) % 64
def padF (b : List Int) : List Int := b ++ [128] ++ List.replicate (padZ b.length) 0 ++ num8 (8 * b.length)
def blocksF (p : List Int) : Nat → List W32
  | 0 => shH
  | k + 1 => mixF (blocksF p k) ((p.drop (64 * k)).take 64)
def shaF (b : List Int) : List Int := (blocksF (padF b) ((padF b).length / 64)).flatMap fun x => num4 x.toNat
theorem blocksF_len (p : List Int) : ∀ k, (blocksF p k).length = 8
  | 0 => rfl
  | k + 1 => mixF_len _ (blocksF_len p k)
end Go.Proofs.YtaofgcahmfailaaGreatDoor
end

section
namespace Go.Proofs.YtaofgcahmfailaaGreatDoor
open Go Go.Ck
set_option maxHeartbeats 4000000
def hpadF (key : List Int) (c : Int) : List Int := mixB (key ++ List.replicate (64 - key.length) 0) (List.replicate 64 c)
end Go.Proofs.YtaofgcahmfailaaGreatDoor
end

section
namespace Go.Proofs.YtaofgcahmfailaaGreatDoor
open Go Go.Ck
set_option maxHeartbeats 4000000
def hmacF (key m : List Int) : List Int := shaF (hpadF key 92 ++ shaF (hpadF key 54 ++ m))
theorem shaF_len (b : List Int) : (shaF b).length = 32 := by
  unfold shaF
  have h := blocksF_len (padF b) ((padF b).length / 64)
  generalize blocksF (padF b) ((padF b).length / 64) = l at h
  have : ∀ l : List W32, (l.flatMap fun x => num4 x.toNat).length = l.length * 4 := by
    intro l
    induction l with
    | nil => rfl
    | cons x l ih => rw [List.flatMap_cons, List.length_append, num4_len, ih, List.length_cons]; omega
  rw [this, h]
theorem shaF_by (b : List Int) : Bytes (shaF b) := fun x hx => by
  unfold shaF at hx
  obtain ⟨y, _, hx⟩ := List.mem_flatMap.1 hx
  exact putLow_bytes' 4 _ x hx
theorem hmacF_len (key m : List Int) : (hmacF key m).length = 32 := shaF_len _
theorem hmacF_by (key m : List Int) : Bytes (hmacF key m) := shaF_by _
end Go.Proofs.YtaofgcahmfailaaGreatDoor
end

section
namespace Go.Proofs.YtaofgcahmfailaaGreatDoor
open Go Go.Ck
set_option maxHeartbeats 4000000
def expandF (key use : List Int) : List Int := hmacF key (use ++ [1])
end Go.Proofs.YtaofgcahmfailaaGreatDoor
end

section
namespace Go.Ck
open Go
set_option maxHeartbeats 4000000
theorem run_storeCells_fz {P : Program} (g o : Nat) (t : TypeId) (fz : Nat × Nat) : ∀ (vs : List Value) (i : Nat) (cur : Array Value) (w : World), w.heap[g]? = some (.cells cur t fz) → (fz.2 ≤ fz.1 ∨ cur.size ≤ fz.1) → o + i + vs.length ≤ cur.size → (∀ v ∈ vs, v.oneCell' = true) →
    (storeCells ⟨g, o, none⟩ vs i).run P w = .ok () (w.setRow g (cur.toList.take (o + i) ++ vs ++ cur.toList.drop (o + i + vs.length)).toArray)
  | [], i, cur, w, hg, _, _, _ => by
    simp only [storeCells, List.append_nil, List.length_nil, Nat.add_zero, List.take_append_drop, Array.toArray_toList]
    rw [setRow_self w g cur t fz hg]
    rfl
  | v :: rest, i, cur, w, hg, hf, hl, h1 => by
    have hi : o + i < cur.size := by simp at hl; omega
    have hadd : (⟨g, o, none⟩ : Addr).add i = ⟨g, o + i, none⟩ := by unfold Addr.add;split<;>simp_all
    have hcell : w.cell? ⟨g, o + i, none⟩ = some cur[o + i] := by simp [World.cell?, hg, hi]
    have hfro : w.frozen? ⟨g, o + i, none⟩ = false := by
      simp only [World.frozen?, hg]
      rcases hf with hf | hf
      · by_cases h : fz.1 ≤ o + i
        · simp [h]; omega
        · simp [h]
      · have h : ¬ fz.1 ≤ o + i := by omega
        simp [h]
    have hst : (store ((⟨g, o, none⟩ : Addr).add i) v).run P w = .ok () (w.setRow g (cur.setIfInBounds (o + i) v)) := by
      rw [hadd, run_store P w _ v _ (h1 v (by simp)), hcell]
      simp [hfro, setCell_eq_setRow w g (o + i) cur t fz v hg]
    have ih := run_storeCells_fz (P := P) g o t fz rest (i + 1) (cur.setIfInBounds (o + i) v) (w.setRow g (cur.setIfInBounds (o + i) v)) (setRow_heap w g cur _ t _ hg) (by simpa using hf) (by simp at hl ⊢; omega) (fun x hx => h1 x (by simp [hx]))
    simp only [storeCells, Sem.run_bind, hst, Result.andThen_ok, ih, setRow_setRow]
    congr 3
    have e := list_seg_step cur.toList (o + i) v rest (by simp at hl ⊢; omega)
    simpa [Array.toList_setIfInBounds, Nat.add_assoc] using e
def OwnsB (w : World) (e : TypeId) (v : Value) (n : Nat) (xs : List Value) : Prop :=
  xs.length = n ∧ ((v = .slice none 0 0 ∧ n = 0) ∨
    ∃ g cap cur fz, v = .slice (some ⟨g, 0, none⟩) n cap ∧ w.heap[g]? = some (.cells cur e fz) ∧ n ≤ cap ∧ cap ≤ maxLen ∧ cur.size = cap ∧ cur.toList.take n = xs ∧ (fz.2 ≤ fz.1 ∨ cur.size ≤ fz.1))
def Res.srow (e : TypeId) (v : Value) (n : Nat) (xs : List Value) : Res where
  dom := v.ownBlock.toList
  sat := fun w => OwnsB w e v n xs
  loc := fun w w' hh hs => by
    refine ⟨hs.1, ?_⟩
    rcases hs.2 with hn | ⟨g, cap, cur, fz, rfl, hgg, rest⟩
    · exact .inl hn
    · exact .inr ⟨g, cap, cur, fz, rfl, by rw [hh g (by simp [Value.ownBlock])]; exact hgg, rest⟩
  lt := fun w hs b hb => by
    have hb : v.ownBlock = some b := by simpa using hb
    rcases hs.2 with ⟨rfl, _⟩ | ⟨g, cap, cur, fz, rfl, hgg, rest⟩
    · cases hb
    · simp only [Value.ownBlock, Option.some.injEq] at hb
      subst hb
      exact (Array.getElem?_eq_some_iff.1 hgg).1
structure Src (P : Program) (h : View) (L : List Res) (x : Value) (m : Nat) (news : List Value) : Prop where
  len : ∀ w, (Builtin.lenOf x).run P w = .ok m w
  cells : ∀ w, Hd h L w → (Builtin.firstCells 1 m x).run P w = .ok news.toArray w
  nl : news.length = m
section
variable {P : Program} {n : Nat} {K : Bs} {F : List (Nat × Value)} {h : View} {L : List Res} {Q : Exit → Act → World → Prop}
variable {dst : Option Nat} {ty : Nat} {pos : String} {af : Array Edge} {gd : Option (Nat × Bool)}
theorem Hd.heap {w w' : World} (hd : Hd h L w) (e : w'.heap = w.heap) : Hd h L w' := ⟨fun b o hb => by rw [e]; exact hd.view b o hb, fun r hr => r.loc w w' (fun b _ => by rw [e]) (hd.own r hr)⟩
theorem St.srowPersist {e : TypeId} {v : Value} {m : Nat} {xs : List Value} {w : World} (s : St K h (Res.srow e v m xs :: L) w) (hA : K.A = []) : ∃ h', Le h h' ∧ Sc h' 1 v m xs ∧ St K h' L w := by
  have ho : OwnsB w e v m xs := s.hd.own _ (List.mem_cons_self ..)
  obtain ⟨q0, q1 | ⟨g, cap, cur, fz, rfl, q3, q4, q5, q6, q7, q8⟩⟩ := ho
  · obtain ⟨rfl, rfl⟩ := q1
    have hx : xs = [] := List.eq_nil_of_length_eq_zero (by omega)
    subst hx
    exact ⟨h, Le.refl h, Sc.nil h 1 none 0, s.tl⟩
  · have s1 : St K h (Res.blk g (.cells cur e fz) :: L) w := by
      refine ⟨s.os, s.tape, s.output, s.drawn, s.size, s.keep, ⟨s.hd.view, fun r hr => ?_⟩, ?_, ?_, s.grow, s.new, ?_⟩
      · rcases List.mem_cons.1 hr with rfl | hr
        · exact q3
        · exact s.hd.own r (List.mem_cons_of_mem _ hr)
      · have := s.nd
        simpa [doms_cons, Res.srow, Res.blk, Value.ownBlock] using this
      · intro b hb
        refine s.src b ?_
        simpa [doms_cons, Res.srow, Res.blk, Value.ownBlock] using hb
      · intro b hb
        refine s.dis b ?_
        simpa [doms_cons, Res.srow, Res.blk, Value.ownBlock] using hb
    have hnone : h g = none := s1.dis g (by rw [doms_cons]; exact List.mem_append_left _ (List.mem_singleton.2 rfl))
    refine ⟨_, Le.addV hnone, ⟨by omega, some ⟨g, 0, none⟩, cap, rfl, q4, .inr ⟨g, 0, cur, e, fz, rfl, addV_same, fun j u hj => ?_⟩⟩, s1.persist hA⟩
    rw [Nat.zero_add]
    rw [← q7, List.getElem?_take] at hj
    split at hj
    · simpa using hj
    · cases hj
theorem rx_persist_s {g : Rg} {prs : List (Nat × Oper)} {e : TypeId} {m : Nat} {v : Value} {xs : List Value} (hA : K.A = []) (hx : ∀ h', Le h h' → Sc h' 1 v m xs → RX P n K g prs F h' L Q) : RX P n K g prs F h (Res.srow e v m xs :: L) Q := by
  unfold RX at *
  intro a w f s
  obtain ⟨h', h1, h2, h3⟩ := s.srowPersist hA
  exact hx h' h1 h2 a w f h3
theorem rx_bytes_s {g : Rg} {i : Nat} {r : List (Nat × Oper)} {S D e : Nat} {x : Operand} {str : ByteArray} {xs : List Value} [tS : TyU P S .string] [tD : TyU P D (.slice e)] [te : TyU P e (.int .u8)] (hx : ev F x = some (.string str)) (hxs : (str.data.map fun b => Value.int .u8 b.toNat).toList = xs) (hsz : str.size ≤ maxLen)
    (hw : wantedF g.ops F ⟨dst, .convert S D x, ty, pos, af, gd⟩ = some true) (hd : okd n dst = true) (hl : g.lo i = true) (o1 : Owe g i h L) (o2 : ∀ v, Owe g i h (Res.srow e v xs.length xs :: L))
    (hn : ∀ v, RX P n K g r (putF dst v F) h (Res.srow e v xs.length xs :: L) Q) : RX P n K g ((i, ⟨dst, .convert S D x, ty, pos, af, gd⟩) :: r) F h L Q := by
  unfold RX at *
  intro a w f s
  have hlen : xs.length = str.size := by rw [← hxs]; simp
  have hrun := run_bytes_of_string (P := P) w S D e str tS.u tD.u te.u
  obtain ⟨cap, hcap⟩ : ∃ cap, cap = grownCap w str.size 0 e := ⟨_, rfl⟩
  have hge : str.size ≤ cap := by rw [hcap]; exact grownCap_ge ..
  have hcm : cap ≤ maxLen := by rw [hcap]; exact grownCap_le_maxLen w str.size 0 e hsz
  rw [← hcap] at hrun
  have hbs : (bytesRow str cap).size = cap := by
    simp only [bytesRow, Array.size_append, Array.size_map, Array.size_replicate]
    have : str.data.size = str.size := rfl
    omega
  have s1 := s.drew.alloc (.cells (bytesRow str cap) e ((bytesRow str cap).size, (bytesRow str cap).size + 1))
  have he : (execOp a.eval ⟨dst, .convert S D x, ty, pos, af, gd⟩).run P w = .ok (.value (.slice (some ⟨w.heap.size, 0, none⟩) str.size cap)) (w.drew.alloc (.cells (bytesRow str cap) e ((bytesRow str cap).size, (bytesRow str cap).size + 1))) := by
    simp only [execOp, f.ev hx, Sem.run_bind, hrun]
    rfl
  have s2 : St K h (Res.srow e (.slice (some ⟨w.heap.size, 0, none⟩) str.size cap) xs.length xs :: L) (w.drew.alloc (.cells (bytesRow str cap) e ((bytesRow str cap).size, (bytesRow str cap).size + 1))) := by
    refine ⟨s1.os, s1.tape, s1.output, s1.drawn, s1.size, s1.keep, ⟨s1.hd.view, fun r hr => ?_⟩, ?_, ?_, s1.grow, s1.new, ?_⟩
    · rcases List.mem_cons.1 hr with rfl | hr
      · refine ⟨rfl, .inr ⟨w.heap.size, cap, _, _, by rw [hlen], heap_alloc_new w.drew _, by omega, hcm, hbs, ?_, .inr (Nat.le_refl _)⟩⟩
        rw [← hxs]
        simp only [bytesRow, Array.toList_append, List.length_map, Array.length_toList, Array.toList_map]
        rw [List.take_append_of_le_length (by simp)]
        exact List.take_of_length_le (by simp)
      · exact s1.hd.own r (List.mem_cons_of_mem _ hr)
    · have := s1.nd
      simpa [doms_cons, Res.srow, Res.blk, Value.ownBlock] using this
    · intro b hb
      refine s1.src b ?_
      simpa [doms_cons, Res.srow, Res.blk, Value.ownBlock] using hb
    · intro b hb
      refine s1.dis b ?_
      simpa [doms_cons, Res.srow, Res.blk, Value.ownBlock] using hb
  refine .inr (.inr ⟨wantedF_ok f hw, hl, o1.out s, ?_⟩)
  unfold Oper.wp
  rw [he]
  exact ⟨(o2 _).out s2, hn _ _ _ (f.put hd _) s2⟩
end
end Go.Ck
end

section
namespace Go.Ck
open Go
section
variable {P : Program} {n : Nat} {K : Bs} {F : List (Nat × Value)} {h : View} {L : List Res} {Q : Exit → Act → World → Prop}
variable {dst : Option Nat} {ty : Nat} {pos : String} {af : Array Edge} {gd : Option (Nat × Bool)}
theorem rx_mark {g : Rg} {i : Nat} {r : List (Nat × Oper)} {S e b m : Nat} {x : Operand} {cs : Array Value} (k : Nat) [tS : TyU P S (.slice e)] [te : TyU P e (.int .u8)] (hx : ev F x = some (.slice (some ⟨b, 0, none⟩) m m)) (hk : L[k]? = some (Res.blk b (.cells cs e (0, 0)))) (hm : cs.size = m) (h63 : m ≤ maxLen)
    (hw : wantedF g.ops F ⟨dst, .convert S S x, ty, pos, af, gd⟩ = some true) (hd : okd n dst = true) (hl : g.lo i = true) (o1 : Owe g i h L) (o2 : Owe g i h (L.set k (Res.srow e (.slice (some ⟨b, 0, none⟩) m m) m cs.toList)))
    (hn : RX P n K g r (putF dst (.slice (some ⟨b, 0, none⟩) m m) F) h (L.set k (Res.srow e (.slice (some ⟨b, 0, none⟩) m m) m cs.toList)) Q) : RX P n K g ((i, ⟨dst, .convert S S x, ty, pos, af, gd⟩) :: r) F h L Q := by
  unfold RX at *
  intro a w f s
  have hb : w.heap[b]? = some (.cells cs e (0, 0)) := s.hd.own _ (List.mem_of_getElem? hk)
  have he : (execOp a.eval ⟨dst, .convert S S x, ty, pos, af, gd⟩).run P w = .ok (.value (.slice (some ⟨b, 0, none⟩) m m)) (w.freeze ⟨b, cs.size, none⟩ 1) := by
    simp [execOp, f.ev hx, convert, run_underlying tS.u, run_underlying te.u, markStringish, World.shape?, hb]
  have s2 : St K h (L.set k (Res.srow e (.slice (some ⟨b, 0, none⟩) m m) m cs.toList)) (w.freeze ⟨b, cs.size, none⟩ 1) := by
    have hfz : (w.freeze ⟨b, cs.size, none⟩ 1).heap = w.heap.modify b fun o => match o with
      | .cells c elem (lo, hi) => .cells c elem (if lo == hi then (cs.size, cs.size + 1) else (min lo cs.size, max hi (cs.size + 1)))
      | o => o := by
      simp only [World.freeze, Nat.one_ne_zero, if_false]
      rfl
    have hlt := (Array.getElem?_eq_some_iff.1 hb).1
    refine s.swap hk rfl rfl rfl (Nat.le_refl _) (by rw [hfz, Array.size_modify]; exact Nat.le_refl _) (fun j hj hjd => ?_) ⟨by simpa using hm, .inr ⟨b, m, cs, (cs.size, cs.size + 1), rfl, ?_, Nat.le_refl _, h63, hm, by rw [← hm]; exact List.take_of_length_le (by simp), .inr (Nat.le_refl _)⟩⟩ (by simp [Res.srow, Value.ownBlock]) (fun c hc => .inl ?_)
    · rw [hfz, Array.getElem?_modify, if_neg]
      intro e
      exact hjd (by rw [← e]; exact List.mem_singleton.2 rfl)
    · rw [hfz, Array.getElem?_modify, if_pos rfl, hb]
      rfl
    · have : c = b := by simpa [Res.srow, Value.ownBlock] using hc
      rw [this]; exact List.mem_singleton.2 rfl
  refine .inr (.inr ⟨wantedF_ok f hw, hl, o1.out s, ?_⟩)
  unfold Oper.wp
  rw [he]
  exact ⟨o2.out s2, hn _ _ (f.put hd _) s2⟩
end
end Go.Ck
end

section
namespace Go.Proofs.YtaofgcahmfailaaGreatDoor
open Go Go.Ck
set_option maxHeartbeats 4000000
def useB : List Int := [98, 108, 105, 110, 100]
def blindR (key nm : List Int) : List Int := hmacF (expandF key useB) nm
end Go.Proofs.YtaofgcahmfailaaGreatDoor
end

section
namespace Go.Proofs.YtaofgcahmfailaaGreatDoor
open Go Go.Ck
set_option maxHeartbeats 4000000
def lo64 (l : List Int) : W64 := BitVec.ofInt 64 (valL l)
def wideP (b : List Int) : List Int := b ++ 1 :: List.replicate (16 - b.length) 0
def partF (b : List Int) : List W64 := loadF (lo64 ((wideP b).take 8)) (lo64 (((wideP b).drop 8).take 8)) (BitVec.ofInt 64 ((wideP b).getD 16 0))
end Go.Proofs.YtaofgcahmfailaaGreatDoor
end

section
namespace Go.Proofs.YtaofgcahmfailaaGreatDoor
open Go Go.Ck
set_option maxHeartbeats 4000000
theorem bs_pre {h : View} {ad : Option Addr} {cap : Nat} {l : List Int} (s : Bs8 h (.slice ad l.length cap) l) {j : Nat} (hj : j ≤ l.length) : Bs8 h (.slice ad j cap) (l.take j) := by
  obtain ⟨h1, ad', cap', h2, h3, h4⟩ := s
  cases h2
  have hl : (l.take j).length = j := by simp; omega
  unfold Bs8
  rw [hl]
  refine ⟨by rw [bcs_len, hl, Nat.mul_one], ad, cap, rfl, by omega, ?_⟩
  rcases h4 with h4 | ⟨b, o, cs, e, fz, e1, e2, e3⟩
  · left
    have : l = [] := by cases l with | nil => rfl | cons a t => simp [bcs] at h4
    subst this
    simp [bcs]
  · right
    refine ⟨b, o, cs, e, fz, e1, e2, fun k u hk => e3 k u ?_⟩
    unfold bcs at hk ⊢
    rw [List.map_take, List.getElem?_take] at hk
    split at hk
    · exact hk
    · cases hk
def tagR (key : List Int) : List W64 := loadF (lo64 (key.take 8) &&& 1152921487695413247#64) (lo64 ((key.drop 8).take 8) &&& 1152921487695413244#64) 0#64
def tagH (r : List W64) (b : List Int) : Nat → List W64
  | 0 => [0, 0, 0, 0, 0]
  | k + 1 => timesF (plusF (tagH r b k) (partF ((b.drop (16 * k)).take 16))) r
def tagE (s0 s1 : W64) (y : List W64) : List Int :=
  let sum := wlo y + s0
  let hi := if sum.toNat < (wlo y).toNat then whi y + 1 else whi y
  putLow 8 (sum.toNat : Int) ++ putLow 8 ((hi + s1).toNat : Int)
def tagF (key b : List Int) : List Int := tagE (lo64 ((key.drop 16).take 8)) (lo64 ((key.drop 24).take 8)) (leastF (tagH (tagR key) b ((b.length + 15) / 16)))
theorem tagE_len (s0 s1 : W64) (y : List W64) : (tagE s0 s1 y).length = 16 := by simp [tagE, putLow_len]
theorem tagF_len (key b : List Int) : (tagF key b).length = 16 := tagE_len _ _ _
theorem pLow_by (m : Nat) (x : Int) : Bytes (putLow m x) := fun y hy => putLow_bytes' m x y (List.mem_reverse.2 hy)
theorem tagE_by (s0 s1 : W64) (y : List W64) : Bytes (tagE s0 s1 y) := cbytes_app (pLow_by _ _) (pLow_by _ _)
theorem tagF_by (key b : List Int) : Bytes (tagF key b) := tagE_by _ _ _
end Go.Proofs.YtaofgcahmfailaaGreatDoor
end

section
namespace Go.Proofs.YtaofgcahmfailaaGreatDoor
open Go Go.Ck
set_option maxHeartbeats 400000
def padQ (n : Nat) : Nat := (16 - n % 16) % 16
def padP (b : List Int) : List Int := b ++ List.replicate (padQ b.length) 0
end Go.Proofs.YtaofgcahmfailaaGreatDoor
end

section
namespace Go.Proofs.YtaofgcahmfailaaGreatDoor
open Go Go.Ck
set_option maxHeartbeats 4000000
def aeadM (wth hid : List Int) : List Int := (padP wth ++ padP hid ++ putLow 8 (wth.length : Int)) ++ putLow 8 (hid.length : Int)
def aeadT (key nonce wth hid : List Int) : List Int := tagF ((blockF key 0 nonce).take 32) (aeadM wth hid)
theorem aeadT_len (key nonce wth hid : List Int) : (aeadT key nonce wth hid).length = 16 := tagF_len _ _
theorem aeadT_by (key nonce wth hid : List Int) : Bytes (aeadT key nonce wth hid) := tagF_by _ _
def aeadS (key nonce wth b : List Int) : List Int := streamF key 1 nonce b ++ aeadT key nonce wth (streamF key 1 nonce b)
theorem aeadS_len (key nonce wth b : List Int) : (aeadS key nonce wth b).length = b.length + 16 := by rw [aeadS, List.length_append, streamF_len, aeadT_len]
theorem aeadS_by (key nonce wth b : List Int) : Bytes (aeadS key nonce wth b) := cbytes_app (strmF_by _ _ _ _ _) (aeadT_by _ _ _ _)
end Go.Proofs.YtaofgcahmfailaaGreatDoor
end

section
namespace Go.Proofs.YtaofgcahmfailaaGreatDoor
open Go Go.Ck
set_option maxHeartbeats 4000000
def useS : List Int := [115, 101, 97, 108]
def sealK (key : List Int) (ep : Int) : List Int := expandF key (useS ++ (putLow 8 ep).reverse)
end Go.Proofs.YtaofgcahmfailaaGreatDoor
end

section
namespace Go.Ck
open Go
theorem calls_frame {P : Program} {f : FuncId} {args : Array Value} {X : Type} {v : X → Value} {hh : X → View} {LL : X → List Res} {p : X → Prop} {Li Lr L : List Res} {h : View} {w : World} (hp : L.Perm (Li ++ Lr))
    (H : ∀ w, St ⟨w, h, doms Li⟩ h Li w → Calls P f args w fun e w' => ∃ x, e = .returned (v x) ∧ St ⟨w, h, doms Li⟩ (hh x) (LL x) w' ∧ p x) (s : St ⟨w, h, doms L⟩ h L w) :
    Calls P f args w fun e w' => ∃ x, e = .returned (v x) ∧ St ⟨w, h, doms L⟩ (hh x) (LL x ++ Lr) w' ∧ p x := by
  have s1 : St ⟨w, h, doms L⟩ h (Li ++ Lr) w := s.perm hp
  refine (H w (St.enter (Li := Li) (Lr := Lr) s1)).mono fun e w' he => ?_
  obtain ⟨x, rfl, st, px⟩ := he
  exact ⟨x, rfl, St.leave (Li := Li) (Lr := Lr) s1 st, px⟩
end Go.Ck
namespace Go.Proofs.YtaofgcahmfailaaGreatDoor
open Go Go.Ck
set_option maxHeartbeats 4000000
theorem blindR_len (key nm : List Int) : (blindR key nm).length = 32 := hmacF_len _ _
theorem blindR_by (key nm : List Int) : Bytes (blindR key nm) := hmacF_by _ _
def sealR (key : List Int) (ep c n : Int) (wi b : List Int) : List Int := aeadS (sealK key ep) (nonceF c n) wi b
theorem sealR_len (key : List Int) (ep c n : Int) (wi b : List Int) : (sealR key ep c n wi b).length = b.length + 16 := aeadS_len _ _ _ _
def nameX (idl : Bool) (key : List Int) (N : List (List Int)) (nm : List Int) : List Int := if idl then blindF key N nm else blindR key nm
def addX (idl : Bool) (N : List (List Int)) (nm : List Int) : List (List Int) := if idl then addN N nm else N
def sealX (idl : Bool) (key : List Int) (U : List UseK) (ep c n : Int) (wi b : List Int) : List Int := if idl then sealF key U b else sealR key ep c n wi b
def tabX (idl : Bool) (T : Tab) (x : SeaK × Value × List Int) : Tab := if idl then T ++ [x] else T
theorem nameX_len (idl : Bool) (key : List Int) (N : List (List Int)) (nm : List Int) : (nameX idl key N nm).length = 32 := by
  cases idl
  · exact blindR_len _ _
  · exact drawF_len _ _ _ _ (by omega)
theorem nameX_by (idl : Bool) (key : List Int) (N : List (List Int)) (nm : List Int) : Bytes (nameX idl key N nm) := by
  cases idl
  · exact blindR_by _ _
  · exact drawF_by _ _ _ _
theorem sealX_len (idl : Bool) (key : List Int) (U : List UseK) (ep c n : Int) (wi b : List Int) : (sealX idl key U ep c n wi b).length = b.length + 16 := by
  cases idl
  · exact sealR_len _ _ _ _ _ _
  · exact drawF_len _ _ _ _ (by omega)
end Go.Proofs.YtaofgcahmfailaaGreatDoor
end

section
namespace Go.Ck
open Go
theorem cx_region_drawW {P : Program} {n : Nat} {K : Bs} {F : List (Nat × Value)} {h : View} {L : List Res} {Q : Exit → Act → World → Prop} {id : Nat} {ops : Array Oper} (LS : List Res) (lou : List Nat) (hm : P.follows .mixedOrders = true) (hB : lexOkAt ops (masks ops) (fun i => lou.contains i) (barOf ops) = true)
    (hx : RX P n K ⟨ops, Hd h LS, fun i => lou.contains i, barOf ops⟩ (enumFrom 0 ops.toList) F h L Q) : CX P n K (.region id ops true) F h L Q := by
  unfold CX
  unfold RX at hx
  exact fun a w f s => wp_region_lexL hm hB (hx a w.drew ⟨f.size, f.dfs, f.get⟩ s.drew)
end Go.Ck
namespace Go.Proofs.YtaofgcahmfailaaGreatDoor
open Go Go.Ck
set_option maxHeartbeats 4000000
def clc (id : Int) (bv : Nat) (ep ct : Int) (bm : Nat) : List Value := [.int .i64 id, .pointer (some ⟨bv, 0, none⟩), .int .i64 ep, .int .i64 ct, .map (some bm)]
abbrev clR (b : Nat) (id : Int) (bv : Nat) (ep ct : Int) (bm : Nat) : Res := Res.blk b (.cells (clc id bv ep ct bm).toArray 84 (0, 0))
abbrev cmR (bm : Nat) (K : List (ByteArray × Value)) : Res := Res.mp Value.string bm K
theorem CNew_sp (id : Int) (hid : 1 ≤ id ∧ id ≤ 16) (bv : Nat) (h : View) (w : World) (s : St ⟨w, h, []⟩ h [] w) :
    Calls Tryz.prog 7 [.int .i64 id, .pointer (some ⟨bv, 0, none⟩)].toArray w fun e w' => ∃ x : Nat × Nat, e = .returned (.tuple #[.pointer (some ⟨x.1, 0, none⟩), .int .i64 0]) ∧
      St ⟨w, h, []⟩ h [clR x.1 id bv 1 0 x.2, cmR x.2 []] w' ∧ True := by
  refine calls_enter Tryz.func7 rfl Tryz.ntmps7 rfl s ?_
  repeat' (first|(refine ycf ?_;apply ybk;(·first|(first|exact tk_|(apply qv_eql_pnil<;>rfl)));(·rfl);(·rfl))|refine t1_ ?_|(refine ta_ ?_;intro _)|((fail_if_success (refine ybi rfl ?_));refine ybj rfl ?_ ?_<;>(intro ht;rw [ht];first|replace ht := oet_ ht|replace ht := oef_ ht|skip))|(refine ych ?_;first|(refine ybw rfl ?_ ?_<;>intro ht)|(refine ybx rfl ?_ ?_<;>intro ht)))
  refine yba ma_makeMap rfl rfl rfl ybf (fun _ => ybf) ?_
  intro bm
  repeat' (first|(refine ycf ?_;apply ybk;(·first|(first|exact tk_|(apply qv_eql_pnil<;>rfl)));(·rfl);(·rfl))|refine t1_ ?_|(refine ta_ ?_;intro _)|((fail_if_success (refine ybi rfl ?_));refine ybj rfl ?_ ?_<;>(intro ht;rw [ht];first|replace ht := oet_ ht|replace ht := oef_ ht|skip))|(refine ych ?_;first|(refine ybw rfl ?_ ?_<;>intro ht)|(refine ybx rfl ?_ ?_<;>intro ht)))
  rename_i b
  refine nx_ret2 rfl (rv_tmp rfl) (rv_tmp rfl) (fun w' s' => ⟨(b, bm), rfl, s'.mpOf Value.string (k := 1) rfl, trivial⟩)
theorem Sealed_sp (b : Nat) (id : Int) (bv : Nat) (ep ct : Int) (bm : Nat) (h : View) (w : World) (s : St ⟨w, h, doms [clR b id bv ep ct bm]⟩ h [clR b id bv ep ct bm] w) :
    Calls Tryz.prog 10 [.pointer (some ⟨b, 0, none⟩)].toArray w fun e w' => ∃ _ : Unit, e = .returned (.int .i64 ct) ∧ St ⟨w, h, doms [clR b id bv ep ct bm]⟩ h [clR b id bv ep ct bm] w' ∧ True := by
  refine calls_enter Tryz.func10 rfl Tryz.ntmps10 rfl s ?_
  repeat' (first|(refine ycf ?_;apply ybk;(·first|(first|exact tk_|(apply qv_eql_pnil<;>rfl)));(·rfl);(·rfl))|refine t1_ ?_|(refine ta_ ?_;intro _)|((fail_if_success (refine ybi rfl ?_));refine ybj rfl ?_ ?_<;>(intro ht;rw [ht];first|replace ht := oet_ ht|replace ht := oef_ ht|skip))|(refine ych ?_;first|(refine ybw rfl ?_ ?_<;>intro ht)|(refine ybx rfl ?_ ?_<;>intro ht)))
  exact nx_ret1 rfl (rv_tmp rfl) (fun w' s' => ⟨(), rfl, s', trivial⟩)
end Go.Proofs.YtaofgcahmfailaaGreatDoor
end

section
namespace Go.Proofs.YtaofgcahmfailaaGreatDoor
open Go Go.Ck
set_option maxHeartbeats 4000000
def numK (K : List (ByteArray × Value)) (nm : List Int) (n : Int) : Prop := (mget K (bstr nm)).getD (.int .i64 0) = .int .i64 n
def hasX (u : List Int) (l : List Dt) (d : Dt) : Bool := decide (checkC u l = 0) && rightB d && hasC u l d
def headE (u : List Int) (l : List Dt) (d : Dt) : Int := if checkC u l = 0 then (if hasX u l d = true then 11 else 0) else checkC u l
def zHdr : Hdr := ⟨0, 0, 0, 0, []⟩
theorem tmm_ {p : Prop} (h : p := by (first|exact List.mem_of_getElem? (i := 0) rfl | exact List.mem_of_getElem? (i := 1) rfl | exact List.mem_of_getElem? (i := 2) rfl | exact List.mem_of_getElem? (i := 3) rfl | exact List.mem_of_getElem? (i := 4) rfl | exact List.mem_of_getElem? (i := 5) rfl | exact List.mem_of_getElem? (i := 6) rfl | exact List.mem_of_getElem? (i := 7) rfl | exact List.mem_of_getElem? (i := 8) rfl | exact List.mem_of_getElem? (i := 9) rfl)) : p := h
theorem hd_two {h : View} {L : List Res} {A B : Res} (ha : A ∈ L) (hb : B ∈ L) : ∀ w, Hd h L w → Hd h [A, B] w := fun w s => Hd.sub s (Le.refl _) (fun r hr => by
  rcases List.mem_cons.1 hr with rfl | hr
  · exact ha
  · rw [List.mem_singleton.1 hr]; exact hb)
theorem head_sp (b : Nat) (id : Int) (bv : Nat) (ep ct : Int) (bm : Nat) (K : List (ByteArray × Value)) (nm : List Int) (n : Int) (u : List Int) (l : List Dt) (vn cv : Value) (hid : 1 ≤ id ∧ id ≤ 16) (hn0 : 0 ≤ n ∧ n < 1000000) (hct : 0 ≤ ct ∧ ct < 1000000) (hK : numK K nm n) (hl : l.length ≤ 4611686018427387904)
    (h : View) (hsn : Bs8 h vn nm) (hc : Cx h cv u l) (w : World) (s : St ⟨w, h, doms [clR b id bv ep ct bm, cmR bm K]⟩ h [clR b id bv ep ct bm, cmR bm K] w) :
    Calls Tryz.prog 24 [.pointer (some ⟨b, 0, none⟩), vn, cv].toArray w fun e w' => ∃ y : View × Value, e = .returned (.tuple #[.agg (if headE u l (id, n + 1) = 0 then hdc ⟨ep, ct + 1, id, n + 1, encW u l⟩ y.2 else hdc zHdr (.slice none 0 0)).toArray, .int .i64 (headE u l (id, n + 1))]) ∧
      St ⟨w, h, doms [clR b id bv ep ct bm, cmR bm K]⟩ y.1 [clR b id bv ep ct bm, cmR bm K] w' ∧ (headE u l (id, n + 1) = 0 → Bs8 y.1 y.2 (encW u l)) := by
  have hc' := hc
  obtain ⟨hu, mv, rfl, hs⟩ := hc
  refine calls_enter Tryz.func24 rfl Tryz.ntmps24 rfl s ?_
  repeat' (first|refine tw_ ?_|(refine ta_ ?_;intro _)|((fail_if_success (refine ybi rfl ?_));refine ybj rfl ?_ ?_<;>(intro ht;rw [ht];first|replace ht := oet_ ht|replace ht := oef_ ht|skip))|(refine ych ?_;first|(refine ybw rfl ?_ ?_<;>intro ht)|(refine ybx rfl ?_ ?_<;>intro ht)))
  refine cx_region_drawY [13, 14] rfl (by kernel_rfl) ?_
  repeat' (refine ycf ?_;(first|(first|(apply ybm;(·(first|(first|exact tk_|(refine qv_str_bs rfl hsn)|(refine qv_lookup 3 string_kl rfl rfl rfl hK))|(apply yae;(·rfl);(·(first|exact yay 2 rfl rfl)))|exact tq_));(·rfl);(·rfl);(·(exact th_)))|refine ybl rfl rfl ?_|((fail_if_success (refine ybi rfl ?_));refine ybj rfl ?_ ?_<;>(intro ht;rw [ht];first|replace ht := oet_ ht|replace ht := oef_ ht|skip))|(refine tb_ ?_ ?_ ?_;(·(exact to_));(·intro _;(exact to_));intro _)|(first|(refine tqs_ ?_ ?_ ?_;(·(exact to_));(·(exact to_))))|(apply ybn;(·(first|(first|exact tk_|(refine qv_str_bs rfl hsn)|(refine qv_lookup 3 string_kl rfl rfl rfl hK))|(apply yae;(·rfl);(·(first|exact yay 2 rfl rfl)))|exact tq_));(·rfl);(·rfl);(·rfl);(·(exact to_))))|refine ycg ?_))
  repeat' (first|(refine ycf ?_;apply ybk;(·first|(first|exact tk_|(apply yad;(·rfl);(·exact yaz 2 rfl);(·exact ycj hu)))|(apply yae;(·rfl);(·(first|exact yay 2 rfl rfl))));(·rfl);(·rfl))|refine t1_ ?_|(refine ta_ ?_;intro _)|((fail_if_success (refine ybi rfl ?_));refine ybj rfl ?_ ?_<;>(intro ht;rw [ht];first|replace ht := oet_ ht|replace ht := oef_ ht|skip))|(refine ych ?_;first|(refine ybw rfl ?_ ?_<;>intro ht)|(refine ybx rfl ?_ ?_<;>intro ht)))
  (refine yco (ycp Tryz.func32 rfl (by kernel_rfl) rfl) (Write_sp _ u l h hc' hl) rfl rfl rfl ?_ ?_ ?_; (· (exact to_)); (· intro _ _ hle; (exact to_)); intro x px hle)
  obtain ⟨h1, vp⟩ := x
  dsimp only at px hle ⊢
  have hle1 : Le h h1 := hle
  clear hle
  rename_i bx bh bd
  have hc1 := hc'.mono hle1
  have e0 : headE u l (id, n + 1) = if checkC u l = 0 then (if hasX u l (id, n + 1) = true then 11 else 0) else checkC u l := rfl
  by_cases hk0 : checkC u l = 0
  · rw [if_pos hk0] at e0 px
    have H1 := Has_sp _ u l (id, n + 1) h1 hc1 hl
    have ehx : (decide (checkC u l = 0) && rightB (id, n + 1) && hasC u l (id, n + 1)) = hasX u l (id, n + 1) := rfl
    rw [ehx] at H1
    rw [hk0]
    obtain ⟨_, adp, capp, rfl, hcapp, _⟩ := (show Bs8 h1 vp (encW u l) from px)
    generalize hasX u l (id, n + 1) = hx at H1 e0
    cases hx with
    | true =>
      rw [if_pos rfl] at e0
      rw [e0]
      repeat' (first|(refine ycf ?_;apply ybk;(·first|(first|exact tk_|(apply yad;(·rfl);(·exact yaz 2 rfl);(·exact ycj hu))|(apply yad;(·rfl);(·exact yaz 0 rfl);(·rfl)))|(apply yae;(·rfl);(·(first|exact yay 3 rfl rfl))));(·rfl);(·rfl))|refine t1_ ?_|(refine ta_ ?_;intro _)|((fail_if_success (refine ybi rfl ?_));refine ybj rfl ?_ ?_<;>(intro ht;rw [ht];first|replace ht := oet_ ht|replace ht := oef_ ht|skip))|(refine ych ?_;first|(refine ybw rfl ?_ ?_<;>intro ht)|(refine ybx rfl ?_ ?_<;>intro ht)))
      (refine ycn (ycp Tryz.func33 rfl (by kernel_rfl) rfl) (H1) rfl rfl rfl ?_ ?_; (· (exact to_)))
      repeat' (first|(refine ycf ?_;apply ybk;(·first|(first|exact tk_|(apply yad;(·rfl);(·exact yaz 2 rfl);(·exact ycj hu))|(apply yad;(·rfl);(·exact yaz 0 rfl);(·rfl)))|(apply yae;(·rfl);(·(first|exact yay 3 rfl rfl))));(·rfl);(·rfl))|refine t1_ ?_|(refine ta_ ?_;intro _)|((fail_if_success (refine ybi rfl ?_));refine ybj rfl ?_ ?_<;>(intro ht;rw [ht];first|replace ht := oet_ ht|replace ht := oef_ ht|skip))|(refine ych ?_;first|(refine ybw rfl ?_ ?_<;>intro ht)|(refine ybx rfl ?_ ?_<;>intro ht)))
      exact nx_ret2 rfl (rv_cells rfl (yaz 1 rfl) rfl) (rv_tmp rfl) (fun w' s' => ⟨(h1, .slice none 0 0), rfl, s'.picks [3, 3], fun e => absurd e (by decide)⟩)
    | false =>
      rw [if_neg (by simp)] at e0
      rw [e0]
      repeat' (first|(refine ycf ?_;apply ybk;(·first|(first|exact tk_|(apply yad;(·rfl);(·exact yaz 2 rfl);(·exact ycj hu))|(apply yad;(·rfl);(·exact yaz 0 rfl);(·rfl)))|(apply yae;(·rfl);(·(first|exact yay 3 rfl rfl))));(·rfl);(·rfl))|refine t1_ ?_|(refine ta_ ?_;intro _)|((fail_if_success (refine ybi rfl ?_));refine ybj rfl ?_ ?_<;>(intro ht;rw [ht];first|replace ht := oet_ ht|replace ht := oef_ ht|skip))|(refine ych ?_;first|(refine ybw rfl ?_ ?_<;>intro ht)|(refine ybx rfl ?_ ?_<;>intro ht)))
      (refine ycn (ycp Tryz.func33 rfl (by kernel_rfl) rfl) (H1) rfl rfl rfl ?_ ?_; (· (exact to_)))
      repeat' (first|(refine ycf ?_;apply ybk;(·first|(first|exact tk_|(apply yad;(·rfl);(·exact yaz 2 rfl);(·exact ycj hu))|(apply yad;(·rfl);(·exact yaz 0 rfl);(·rfl)))|(apply yae;(·rfl);(·(first|exact yay 3 rfl rfl))));(·rfl);(·rfl))|refine t1_ ?_|(refine ta_ ?_;intro _)|((fail_if_success (refine ybi rfl ?_));refine ybj rfl ?_ ?_<;>(intro ht;rw [ht];first|replace ht := oet_ ht|replace ht := oef_ ht|skip))|(refine ych ?_;first|(refine ybw rfl ?_ ?_<;>intro ht)|(refine ybx rfl ?_ ?_<;>intro ht)))
      refine cx_perm (L' := [Res.blk bd (.cells (dcs (id, n + 1)).toArray 45 (0, 0)), Res.blk bh (.cells (hdc zHdr (.slice none 0 0)).toArray 86 (0, 0)), Res.blk bx (.cells (cxc u mv).toArray 42 (0, 0)), clR b id bv ep ct bm, cmR bm K]) (.refl _) ?_
      refine cx_region_drawW [Res.blk bd (.cells (dcs (id, n + 1)).toArray 45 (0, 0)), clR b id bv ep ct bm] [12] rfl (by kernel_rfl) ?_
      repeat' (refine ycf ?_;(first|(first|(apply ybm;(·(first|(first|exact tk_|(apply yad;(·rfl);(·exact yaz 0 rfl);(·rfl)))|(apply yae;(·rfl);(·(first|exact yay 1 rfl rfl)))|exact tq_));(·rfl);(·rfl);(·(exact hd_two tmm_ tmm_)))|refine ybl rfl rfl ?_|((fail_if_success (refine ybi rfl ?_));refine ybj rfl ?_ ?_<;>(intro ht;rw [ht];first|replace ht := oet_ ht|replace ht := oef_ ht|skip))|(refine tb_ ?_ ?_ ?_;(·(first|exact ybf|(refine .inl ?_;(exact hd_two tmm_ tmm_))|exact to_));(·intro _;(first|exact ybf|(refine .inl ?_;(exact hd_two tmm_ tmm_))|exact to_));intro _)|(first|(refine tqs_ ?_ ?_ ?_;(·(first|exact ybf|(refine .inl ?_;(exact hd_two tmm_ tmm_))|exact to_));(·(first|exact ybf|(refine .inl ?_;(exact hd_two tmm_ tmm_))|exact to_))))|(apply ybn;(·(first|(first|exact tk_|(apply yad;(·rfl);(·exact yaz 0 rfl);(·rfl)))|(apply yae;(·rfl);(·(first|exact yay 1 rfl rfl)))|exact tq_));(·rfl);(·rfl);(·rfl);(·(first|exact ybf|(refine .inl ?_;(exact hd_two tmm_ tmm_))|exact to_))))|refine ycg ?_))
      repeat' (first|(refine ycf ?_;apply ybk;(·first|(first|exact tk_|(apply yad;(·rfl);(·exact yaz 0 rfl);(·rfl)))|(apply yae;(·rfl);(·(first|exact yay 1 rfl rfl))));(·rfl);(·rfl))|refine t1_ ?_|(refine ta_ ?_;intro _)|((fail_if_success (refine ybi rfl ?_));refine ybj rfl ?_ ?_<;>(intro ht;rw [ht];first|replace ht := oet_ ht|replace ht := oef_ ht|skip))|(refine ych ?_;first|(refine ybw rfl ?_ ?_<;>intro ht)|(refine ybx rfl ?_ ?_<;>intro ht)))
      exact nx_ret2 rfl (rv_cells (vs := hdc ⟨ep, ct + 1, id, n + 1, encW u l⟩ (.slice adp (encW u l).length capp)) rfl (yaz 1 rfl) rfl) (rv_tmp rfl) (fun w' s' => ⟨(h1, .slice adp (encW u l).length capp), rfl, s'.picks [3, 3], fun _ => px⟩)
  · rw [if_neg hk0] at e0
    rw [e0]
    repeat' (first|(refine ycf ?_;apply ybk;(·first|(exact tk_)|(apply yae;(·rfl);(·(first|exact yay 1 rfl rfl))));(·rfl);(·rfl))|refine t1_ ?_|(refine ta_ ?_;intro _)|((fail_if_success (refine ybi rfl ?_));refine ybj rfl ?_ ?_<;>(intro ht;rw [ht];first|replace ht := oet_ ht|replace ht := oef_ ht|skip))|(refine ych ?_;first|(refine ybw rfl ?_ ?_<;>intro ht)|(refine ybx rfl ?_ ?_<;>intro ht)))
    refine nx_ret2 rfl (rv_cells rfl (yaz 1 rfl) rfl) (rv_tmp rfl) (fun w' s' => ⟨(h1, .slice none 0 0), ?_, s'.picks [3, 3], fun e => absurd e hk0⟩)
    rw [if_neg hk0]
    rfl
end Go.Proofs.YtaofgcahmfailaaGreatDoor
end

section
namespace Go.Proofs.YtaofgcahmfailaaGreatDoor
open Go Go.Ck
set_option maxHeartbeats 4000000
def fixC (s : RS) (n : Nat) : List Int × RS := if s.2 ≠ 0 then ([], s) else if s.1.length < n then ([], (s.1, 3)) else (s.1.take n, (s.1.drop n, 0))
theorem RsOk.fix {s : RS} (h : RsOk s) (n : Nat) : RsOk (fixC s n).2 ∧ Bytes (fixC s n).1 ∧ (fixC s n).1.length ≤ n := by
  unfold fixC
  split
  · exact ⟨h, (fun x hx => (by cases hx)), by simp⟩
  · split
    · exact ⟨⟨h.1, h.2⟩, (fun x hx => (by cases hx)), by simp⟩
    · refine ⟨⟨bytes_drop h.1 n, ?_⟩, bytes_take h.1 n, by simp; omega⟩
      have := h.2
      show (s.1.drop n).length ≤ 140737488355328
      rw [List.length_drop]
      omega
theorem InFixed_sp (bi : Nat) (v : Value) (l : List Int) (e : Int) (n : Nat) (hb : Bytes l) (hn : n ≤ 1000000) (hl : l.length ≤ 140737488355328) (h : View) (hv : Bs8 h v l) (w : World) (s : St ⟨w, h, doms [inR bi v e]⟩ h [inR bi v e] w) :
    Calls Tryz.prog 63 [.pointer (some ⟨bi, 0, none⟩), .int .i64 n].toArray w fun en w' => ∃ x : View × Value × Value, en = .returned x.2.1 ∧ St ⟨w, h, doms [inR bi v e]⟩ x.1 [inR bi x.2.2 (fixC (l, e) n).2.2] w' ∧ (Bs8 x.1 x.2.1 (fixC (l, e) n).1 ∧ Bs8 x.1 x.2.2 (fixC (l, e) n).2.1) := by
  refine calls_enter Tryz.func63 rfl Tryz.ntmps63 rfl s ?_
  unfold fixC
  dsimp only
  by_cases he : e = 0
  · subst he
    rw [if_neg (by simp)]
    have hdead := dead_sp bi v 0 h
    rw [show decide ((0 : Int) ≠ 0) = false by decide] at hdead
    repeat' (first|(refine ycf ?_;apply ybk;(·first|(exact tk_));(·rfl);(·rfl))|refine t1_ ?_|(refine ta_ ?_;intro _)|((fail_if_success (refine ybi rfl ?_));refine ybj rfl ?_ ?_<;>(intro ht;rw [ht];first|replace ht := oet_ ht|replace ht := oef_ ht|skip))|(refine ych ?_;first|(refine ybw rfl ?_ ?_<;>intro ht)|(refine ybx rfl ?_ ?_<;>intro ht)))
    (refine rx_call_m (ycp Tryz.func79 rfl (by kernel_rfl) rfl) (perm_at (k := 0) rfl) (hdead) rfl rfl rfl ?_ ?_ ?_; (· (exact to_)); (· intro _ _ hle; (exact to_)); intro x px hle)
    obtain ⟨_, ad, cap, rfl, hcap, _⟩ := id hv
    by_cases hN : l.length < n
    · rw [if_pos hN]
      repeat' (first|(refine ycf ?_;apply ybk;(·first|(first|exact tk_|(apply qv_nilCheck;rfl)));(·rfl);(·rfl))|refine t1_ ?_|(refine ta_ ?_;intro _)|((fail_if_success (refine ybi rfl ?_));refine ybj rfl ?_ ?_<;>(intro ht;rw [ht];first|replace ht := oet_ ht|replace ht := oef_ ht|skip))|(refine ych ?_;first|(refine ybw rfl ?_ ?_<;>intro ht)|(refine ybx rfl ?_ ?_<;>intro ht)))
      exact nx_ret1 rfl (rv_tmp rfl) (fun w' s' => ⟨(h, .slice none 0 0, .slice ad l.length cap), rfl, s', Sc.nil h 1 none 0, hv⟩)
    · rw [if_neg hN]
      repeat' (first|(refine ycf ?_;apply ybk;(·first|(first|exact tk_|(apply qv_nilCheck;rfl)));(·rfl);(·rfl))|refine t1_ ?_|(refine ta_ ?_;intro _)|((fail_if_success (refine ybi rfl ?_));refine ybj rfl ?_ ?_<;>(intro ht;rw [ht];first|replace ht := oet_ ht|replace ht := oef_ ht|skip))|(refine ych ?_;first|(refine ybw rfl ?_ ?_<;>intro ht)|(refine ybx rfl ?_ ?_<;>intro ht)))
      (refine rx_call_m (ycp Tryz.func80 rfl (by kernel_rfl) rfl) (perm_at (k := 0) rfl) (skipr_sp bi _ l 0 n (by omega) hl h hv) rfl rfl rfl ?_ ?_ ?_; (· (exact to_)); (· intro _ _ hle; (exact to_)); intro x px hle)
      repeat' (first|(refine ycf ?_;apply ybk;(·first|(first|exact tk_|(apply qv_nilCheck;rfl)));(·rfl);(·rfl))|refine t1_ ?_|(refine ta_ ?_;intro _)|((fail_if_success (refine ybi rfl ?_));refine ybj rfl ?_ ?_<;>(intro ht;rw [ht];first|replace ht := oet_ ht|replace ht := oef_ ht|skip))|(refine ych ?_;first|(refine ybw rfl ?_ ?_<;>intro ht)|(refine ybx rfl ?_ ?_<;>intro ht)))
      exact nx_ret1 rfl (rv_tmp rfl) (fun w' s' => ⟨x, rfl, s', px⟩)
  · rw [if_pos he]
    have hdead := dead_sp bi v e h
    rw [decide_eq_true he] at hdead
    repeat' (first|(refine ycf ?_;apply ybk;(·first|(exact tk_));(·rfl);(·rfl))|refine t1_ ?_|(refine ta_ ?_;intro _)|((fail_if_success (refine ybi rfl ?_));refine ybj rfl ?_ ?_<;>(intro ht;rw [ht];first|replace ht := oet_ ht|replace ht := oef_ ht|skip))|(refine ych ?_;first|(refine ybw rfl ?_ ?_<;>intro ht)|(refine ybx rfl ?_ ?_<;>intro ht)))
    (refine rx_call_m (ycp Tryz.func79 rfl (by kernel_rfl) rfl) (perm_at (k := 0) rfl) (hdead) rfl rfl rfl ?_ ?_ ?_; (· (exact to_)); (· intro _ _ hle; (exact to_)); intro x px hle)
    repeat' (first|(refine ycf ?_;apply ybk;(·first|(exact tk_));(·rfl);(·rfl))|refine t1_ ?_|(refine ta_ ?_;intro _)|((fail_if_success (refine ybi rfl ?_));refine ybj rfl ?_ ?_<;>(intro ht;rw [ht];first|replace ht := oet_ ht|replace ht := oef_ ht|skip))|(refine ych ?_;first|(refine ybw rfl ?_ ?_<;>intro ht)|(refine ybx rfl ?_ ?_<;>intro ht)))
    exact nx_ret1 rfl (rv_tmp rfl) (fun w' s' => ⟨(h, .slice none 0 0, v), rfl, s', Sc.nil h 1 none 0, hv⟩)
end Go.Proofs.YtaofgcahmfailaaGreatDoor
end

section
namespace Go.Proofs.YtaofgcahmfailaaGreatDoor
open Go Go.Ck
set_option maxHeartbeats 4000000
theorem byC_tookV {s : RS} (hb : Bytes s.1) {most : Int} (h : (byC s most).2.2 = 0) : s.2 = 0 ∧ num4 (byC s most).1.length ++ (byC s most).1 ++ (byC s most).2.1 = s.1 := by
  unfold byC at h ⊢
  by_cases h0 : s.2 ≠ 0
  · rw [if_pos h0] at h; exact absurd h h0
  · rw [if_neg h0] at h ⊢
    refine ⟨Decidable.not_not.1 h0, ?_⟩
    by_cases h1 : (lookC s.1 4 most).2 = 0
    · rw [if_neg (by simpa using h1)] at h ⊢
      have hl := lookC_len h1
      have e : (lookC s.1 4 most).1 = valB (s.1.take 4) := by
        unfold lookC at h1 ⊢
        split
        · rename_i h2; rw [if_pos h2] at h1; cases h1
        · rename_i h2
          rw [if_neg h2] at h1
          split
          · rename_i h3; rw [if_pos h3] at h1; cases h1
          · rfl
      by_cases h2 : s.1.length - 4 < (lookC s.1 4 most).1.toNat
      · rw [if_pos h2] at h; cases h
      · rw [if_neg h2]
        have hp := putLow_val (l := s.1.take 4) (fun x hx => hb x (List.mem_of_mem_take hx))
        rw [List.length_take, Nat.min_eq_left hl, ← e] at hp
        have hn : 0 ≤ (lookC s.1 4 most).1 := by rw [e]; exact (valB_bd hb 4 hl).1
        have hlen : (((s.1.drop 4).take (lookC s.1 4 most).1.toNat).length : Int) = (lookC s.1 4 most).1 := by
          rw [List.length_take, List.length_drop]; omega
        dsimp only
        rw [hlen]
        unfold num4
        rw [hp, List.append_assoc, List.take_append_drop, List.take_append_drop]
    · rw [if_pos h1] at h
      exact absurd h h1
def rdK (l : List Int) : List Int × RS := fixC (l, 0) 32
def rdN (s : RS) : Nat → List Int × RS
  | 0 => ([], s)
  | k + 1 => ((rdN s k).1 ++ [(numC (rdN s k).2 8 4611686018427387904).1], (numC (rdN s k).2 8 4611686018427387904).2)
def rdH (l : List Int) : List Int × RS := rdN (rdK l).2 4
def rdP (l : List Int) : List Int × RS := byC (rdH l).2 4096
def rdZ (l : List Int) : List Int × RS := byC (rdP l).2 8192
def hdOf (hv p : List Int) : Hdr := ⟨hv.getD 0 0, hv.getD 1 0, hv.getD 2 0, hv.getD 3 0, p⟩
def rdQ (l : List Int) : Hdr := hdOf (rdH l).1 (rdP l).1
def rdOk (l : List Int) : Prop := endC (rdZ l).2 = 0 ∧ (rdQ l).ok ∧ 16 ≤ (rdZ l).1.length ∧ (rdZ l).1.length ≤ 8192
instance (l : List Int) : Decidable (rdOk l) := by unfold rdOk; exact inferInstance
theorem rdN_ok {s : RS} (h : RsOk s) : ∀ k, RsOk (rdN s k).2 ∧ (rdN s k).1.length = k
  | 0 => ⟨h, rfl⟩
  | k + 1 => by
    obtain ⟨h1, h2⟩ := rdN_ok h k
    exact ⟨h1.num 8 _, by simp [rdN, h2]⟩
theorem rd_oks {l : List Int} (hb : Bytes l) (hl : l.length ≤ 140737488355328) : RsOk (rdK l).2 ∧ RsOk (rdH l).2 ∧ RsOk (rdP l).2 ∧ RsOk (rdZ l).2 := by
  have h0 : RsOk ((l, 0) : RS) := ⟨hb, Nat.le_trans hl (by decide)⟩
  have h1 : RsOk (rdK l).2 := (h0.fix 32).1
  have h2 : RsOk (rdH l).2 := (rdN_ok h1 4).1
  have h3 : RsOk (rdP l).2 := (h2.by (by omega)).1
  exact ⟨h1, h2, h3, (h3.by (by omega)).1⟩
theorem fix_took {s : RS} {n : Nat} (h : (fixC s n).2.2 = 0) : s.2 = 0 ∧ (fixC s n).1 ++ (fixC s n).2.1 = s.1 ∧ (fixC s n).1.length = n := by
  unfold fixC at h ⊢
  by_cases h0 : s.2 ≠ 0
  · rw [if_pos h0] at h; exact absurd h h0
  · rw [if_neg h0] at h ⊢
    by_cases h1 : s.1.length < n
    · rw [if_pos h1] at h; cases h
    · rw [if_neg h1]
      exact ⟨Decidable.not_not.1 h0, List.take_append_drop .., by simp; omega⟩
theorem rdN_took {s : RS} (hs : RsOk s) : ∀ k, (rdN s k).2.2 = 0 → s.2 = 0 ∧ (rdN s k).1.flatMap num8 ++ (rdN s k).2.1 = s.1
  | 0, h => ⟨h, by simp [rdN]⟩
  | k + 1, h => by
    have hk := (rdN_ok hs k).1
    obtain ⟨h1, h2⟩ := numC_took (s := (rdN s k).2) hk.b h
    obtain ⟨h3, h4⟩ := rdN_took hs k h1
    refine ⟨h3, ?_⟩
    have e : (rdN s (k + 1)).1.flatMap num8 ++ (rdN s (k + 1)).2.1 = (rdN s k).1.flatMap num8 ++ (num8 (numC (rdN s k).2 8 4611686018427387904).1 ++ (numC (rdN s k).2 8 4611686018427387904).2.1) := by
      simp [rdN, List.flatMap_append]
    rw [e]
    have h2 : num8 (numC (rdN s k).2 8 4611686018427387904).1 ++ (numC (rdN s k).2 8 4611686018427387904).2.1 = (rdN s k).2.1 := h2
    rw [h2, h4]
def encE (ek : List Int) (q : Hdr) (se : List Int) : List Int := boundF ek q ++ num4 se.length ++ se
theorem list4 (l : List Int) (h : l.length = 4) : ∃ a b c d, l = [a, b, c, d] := by
  match l, h with
  | [a, b, c, d], _ => exact ⟨a, b, c, d, rfl⟩
theorem rd13_took {l : List Int} (hb : Bytes l) (hl : l.length ≤ 140737488355328) (h : endC (rdZ l).2 = 0) : (rdK l).1.length = 32 ∧ encE (rdK l).1 (rdQ l) (rdZ l).1 = l := by
  obtain ⟨o1, o2, o3, o4⟩ := rd_oks hb hl
  have hz : (rdZ l).2.2 = 0 := by
    unfold endC at h
    split at h
    · cases h
    · exact h
  have hr : (rdZ l).2.1 = [] := by
    unfold endC at h
    split at h
    · cases h
    · rename_i hn
      exact List.eq_nil_of_length_eq_zero (by omega)
  obtain ⟨p1, p2⟩ := byC_tookV (s := (rdP l).2) o3.b hz
  obtain ⟨q1, q2⟩ := byC_tookV (s := (rdH l).2) o2.b p1
  obtain ⟨r1, r2⟩ := rdN_took o1 4 q1
  obtain ⟨k1, k2, k3⟩ := fix_took (s := (l, 0)) r1
  refine ⟨k3, ?_⟩
  have hN := (rdN_ok o1 4).2
  obtain ⟨a, b, c, d, he⟩ := list4 (rdH l).1 hN
  have p2 : num4 (rdZ l).1.length ++ (rdZ l).1 ++ (rdZ l).2.1 = (rdP l).2.1 := p2
  have q2 : num4 (rdP l).1.length ++ (rdP l).1 ++ (rdP l).2.1 = (rdH l).2.1 := q2
  have r2 : (rdH l).1.flatMap num8 ++ (rdH l).2.1 = (rdK l).2.1 := r2
  have k2 : (rdK l).1 ++ (rdK l).2.1 = l := k2
  rw [hr, List.append_nil] at p2
  unfold encE boundF rdQ hdOf
  rw [he] at r2 ⊢
  conv => rhs; rw [← k2, ← r2, ← q2, ← p2]
  simp
theorem rdOk_key {l : List Int} (hb : Bytes l) (hl : l.length ≤ 140737488355328) (h : rdOk l) : (rdK l).1.length = 32 := (rd13_took hb hl h.1).1
end Go.Proofs.YtaofgcahmfailaaGreatDoor
end
