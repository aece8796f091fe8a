/-
  EnvelopeOpens: what is opened is what the document says
  Conditions: none.
-/
import Derived.Deep.Slices
import Derived.Carry
import Derived.DataReads
import GoSem.ClaimJoined
import Derived.DataShut
import Derived.RowKit
import Derived.Test.YtgeepceieckooaaGreatDoorRows
import Derived.WalkKit
import Derived.ProofKit
import Derived.OpenShut
import Derived.LaidMore
import Derived.Stop.Joined
import Derived.SevenTiedAt
import Derived.Test.YtgeepceieckooaaGreatDoorCards
import Derived.Test.YtgeepceieckooaaGreatDoorTie
import Derived.Test.YtgeepceieckooaaGreatDoorRdVPM17
set_option maxRecDepth 100000
set_option linter.unusedVariables false
set_option linter.unusedSimpArgs false
section
namespace Go.Ck
open Go
set_option maxHeartbeats 1000000
section
variable {P : Program} {ops : Array Oper} {S : World → Prop} {bar : Nat → Bool}
def floatOkL (ops : Array Oper) (lo : Nat → Bool) (ord : List Nat) (fl : Nat → Bool) : Bool :=
  lexOkR ops (masks ops) (lo) (barOf ops) (rkOf ord) (fun j i => lo j && fl i) && flOk ops (lo) (barOf ops) fl (rkOf ord) &&
  ((List.range ops.size).all fun i => ord.contains i) && ord.length == ops.size && (ord.all fun i => decide (i < ops.size)) && decide (ord.Pairwise fun i j => rkOf ord i < rkOf ord j)
theorem wp_region_floatL {lo : Nat → Bool} {id : Nat} {Q : Exit → Act → World → Prop} {a : Act} {w : World} (ord : List Nat) (fl : Nat → Bool) (hm : P.follows .mixedOrders = true) (hB : floatOkL ops lo ord fl = true)
    (h : wpG P ops S (lo) (barOf ops) fl (Q .normal) (pickL ops.toList ord).length (pickL ops.toList ord) a w.drew) : (Code.region id ops true).wp P Q a w := by
  simp only [floatOkL, Bool.and_eq_true] at hB
  obtain ⟨⟨⟨⟨⟨b1, b2⟩, b3⟩, b4⟩, b5⟩, b6⟩ := hB
  have b4 : ord.length = ops.size := by simpa using b4
  have b6 := oet_ b6
  refine wp_region_any hm (float_any (rk := rkOf ord) b1 (fun i o y oy hi hy hli hfy hlj => ?_) _ (pickL ops.toList ord) _ a _ ?_ ⟨?_, ?_, ?_, ?_, ?_⟩ h)
  · have hil := (Array.getElem?_eq_some_iff.1 hi).1
    have hyl := (Array.getElem?_eq_some_iff.1 hy).1
    have h1 := List.all_eq_true.1 b2 y (List.mem_range.2 hyl)
    simp only [hfy, Bool.not_true, Bool.false_or, Bool.and_eq_true] at h1
    have h2 := List.all_eq_true.1 h1.2 i (List.mem_range.2 hil)
    obtain ⟨j, hj1, hj2, hj3⟩ := hlj
    have hnot : ((List.range ops.size).all fun j => !lo j || !decide (rkOf ord j < rkOf ord i)) = false := by
      rw [List.all_eq_false]
      exact ⟨j, List.mem_range.2 hj1, by simp [hj2, hj3]⟩
    simp only [hli, hnot, Bool.false_or, hi, hy, Bool.and_eq_true] at h2
    have hsel := lexOkR_sel b1
    exact ⟨h2.2, by rw [hli]; rfl, by simpa using h2.1, by simpa using h1.1.1, fun cs b => Region.noSelect_spec hsel i o cs b hi, fun cs b => Region.noSelect_spec hsel y oy cs b hy⟩
  · rw [pickL_length]; omega
  · intro p hp
    obtain ⟨h1, h2⟩ := pickL_mem.1 hp
    have hlt : p.1 < ops.size := by simpa using List.all_eq_true.1 b5 _ h1
    have := nthO_ok ops.toList p.1 (by simpa using hlt)
    rw [h2]; simpa using this
  · exact pickL_pair b6
  · intro i hi
    simp only [Array.getD_eq_getD_getElem?, Array.getElem?_replicate, hi, if_true, Option.getD_some, true_iff]
    have := List.all_eq_true.1 b3 i (List.mem_range.2 hi)
    exact ⟨nthO ops.toList i, (pickL_mem (p := (i, nthO ops.toList i))).2 ⟨by simpa using this, rfl⟩⟩
  · intro i o ho hl
    simp only [Array.getD_eq_getD_getElem?, Array.getElem?_replicate] at hl
    split at hl <;> simp at hl
  · simp
end
section
variable {P : Program} {n : Nat} {K : Bs} {F : List (Nat × Value)} {h h' : View} {L : List Res} {Q : Exit → Act → World → Prop}
theorem cx_region_floatV {id : Nat} {ops : Array Oper} (LS : List Res) (lou : List Nat) (pre : List Nat) (fy : List (Nat × Nat × (Nat → Value) × Obj)) (post : List Nat) (hm : P.follows .mixedOrders = true) (hB : floatOkL ops (fun i => lou.contains i) (pre ++ (fy.map (·.1) ++ post)) (flY (mkY ops fy)) = true)
    (hx : ∀ D ys, Fl (mkY ops fy) D ys → GX P n K ⟨ops, Hd h LS, fun i => lou.contains i, barOf ops⟩ (mkY ops fy) (pickL ops.toList pre ++ (prY ys ++ pickL ops.toList post)) (F ++ FDy D) h (L ++ LDy D) Q) : CX P n K (.region id ops true) F h L Q := by
  unfold CX
  intro a w f s
  have h1 := hx [] (mkY ops fy) (List.Perm.refl _)
  have e1 : F ++ FDy [] = F := List.append_nil _
  have e2 : L ++ LDy [] = L := List.append_nil _
  rw [e1, e2] at h1
  refine wp_region_floatL (S := Hd h LS) (pre ++ (fy.map (·.1) ++ post)) (flY (mkY ops fy)) hm hB ?_
  have he : pickL ops.toList (pre ++ (fy.map (·.1) ++ post)) = pickL ops.toList pre ++ (prY (mkY ops fy) ++ pickL ops.toList post) := by
    rw [pickL_append, pickL_append]
    congr 2
    clear hx h1 hB
    induction fy with
    | nil => rfl
    | cons x fy ih => simp only [List.map_cons, pickL, mkY, prY] at ih ⊢; rw [ih]
  rw [he]
  exact h1 a w.drew ⟨f.size, f.dfs, f.get⟩ s.drew
end
end Go.Ck
end

section
namespace Go.Proofs.YtgeepceieckooaaGreatDoor
open Go Go.Ck
set_option maxHeartbeats 4000000
theorem cx_fr {P : Program} {n : Nat} {K : Bs} {F F' : List (Nat × Value)} {h : View} {L L' : List Res} {Q : Exit → Act → World → Prop} {c : Code} (hF : Sub F' F) (hS : ∀ w, St K h L w → St K h L' w) (hx : CX P n K c F' h L' Q) : CX P n K c F h L Q := by
  unfold CX at *
  exact fun a w f s => hx a w (f.sub hF) (hS w s)
theorem EO_B (w0 : World) (h0 : View) (idl : Bool) (key : List Int) (bv bn bu bt bw b5 : Nat) (vn vN vL : Value) (N : List (List Int)) (T : Tab) (D : List Sd) (nm k2 s2 : List Int) (q2 : Hdr)
    (hk : Bytes key) (hk32 : key.length = 32) (hN : Names N) (hNl : N.length < 900000) (hDl : D.length < 900000) (hD : ∀ x ∈ D, x.by' ∧ x.b.length ≤ 900000) (hTD : TabOf idl T D) (hTl : ∀ x ∈ T, x.2.2.length ≤ 900000 ∧ Bytes x.2.2)
    (hn : Bytes nm) (yk : Bytes k2) (kl1 : k2.length ≤ 1000000) (yp : Bytes q2.past) (pl : q2.past.length ≤ 900000) (ys : Bytes s2) (sl : s2.length ≤ 900000)
    (h : View) (hT : TbOk h T) (hv : Vb h bv idl key bn bu bt) (hsn : Bs8 h vn nm) (hg : ShG h) :
    CX Tryz.prog 151 ⟨w0, h0, []⟩ (cDrop 10 (cGet Tryz.f3.body)) [(5, .pointer (some ⟨b5, 0, none⟩)), (7, .pointer (some ⟨bv, 0, none⟩)), (8, .pointer (some ⟨bw, 0, none⟩)), (9, vn)] h
      [Res.blk b5 (.cells (renv k2 q2 s2).toArray 28 (0, 0)), dvB bw idl key vN vL, rowN vN N, rowSd vL D, nmR bn N, tbR bt T]
      (bodyPost Tryz.prog Tryz.f3 (fun e w' => ∃ h' : View, e = .returned (.bool true) ∧ St ⟨w0, h0, []⟩ h' [] w')) := by
  refine cx_seq_box ?_
  by_cases kl : k2.length = 32
  · skip
    repeat' (first|refine zw416 ?_|(refine ta_ ?_;intro _)|(refine zk0 ?_ ?_<;>intro ht)|fail)
    refine nx_box ?_
    exact cx_fr ts_ (fun _ s => s) (EO_C w0 h0 idl key bv bn bu bt bw b5 vn vN vL N T D nm k2 s2 q2 hk hk32 hN hNl hDl hD hTD hTl hn yk kl yp pl ys sl h hT hv hsn hg)
  · repeat' (first|refine zw416 ?_|(refine ta_ ?_;intro _)|(refine zk0 ?_ ?_<;>intro ht)|fail)
    (refine yco (ycp Tryz.func11 rfl (by kernel_rfl) rfl) (sealsE_sp h) rfl rfl rfl ?_ ?_ ?_; (· (exact to_)); (·exact zc153); intro x px hle)
    repeat' (first|refine zw3 ?_|(refine ta_ ?_;intro _)|(refine zk0 ?_ ?_<;>intro ht)|fail)
    exact nx_ret1 rfl (rv_tmp rfl) (fun w' s' => ⟨x, rfl, s'.nil⟩)
theorem oneE {α : Type} {y : α} {D : List (α × Nat)} (h : D.map (·.1) = [y]) : ∃ b, D = [(y, b)] := by
  cases D with
  | nil => cases h
  | cons x r =>
    cases r with
    | nil =>
      simp only [List.map_cons, List.map_nil, List.cons.injEq, and_true] at h
      exact ⟨x.2, by rw [← h]⟩
    | cons y r => simp at h
theorem EO_no (w0 : World) (h0 : View) (Q : Exit → Act → World → Prop) (R1 R2 R3 R4 R5 R6 : Res) (bv bw b4 b5 b10 b11 : Nat) (vn va vv vp pv : Value) (a : AskD) (nm : List Int) (q : Hdr) (h : View)
    (hno : ¬ ((1 ≤ nm.length ∧ nm.length ≤ 64) ∧ q.ok)) (hsn : Bs8 h vn nm) (hsp : Bs8 h pv q.past) (yv : Bytes a.val) (hvl : a.val.length ≤ 9223372036854775807) (hsv : Bs8 h vv a.val)
    (hA : ∀ b12, CX Tryz.prog 151 ⟨w0, h0, []⟩ (cDrop 6 (cGet Tryz.f3.body)) [(5, .pointer (some ⟨b5, 0, none⟩)), (7, .pointer (some ⟨bv, 0, none⟩)), (8, .pointer (some ⟨bw, 0, none⟩)), (9, vn), (12, .pointer (some ⟨b12, 0, none⟩))] h [R1, R2, R3, R4, R5, R6, Res.blk b12 (.cells (renv [] zHdr []).toArray 28 (0, 0))] Q) :
    CX Tryz.prog 151 ⟨w0, h0, []⟩ (cDrop 4 (cGet Tryz.f3.body)) [(4, .pointer (some ⟨b4, 0, none⟩)), (5, .pointer (some ⟨b5, 0, none⟩)), (7, .pointer (some ⟨bv, 0, none⟩)), (8, .pointer (some ⟨bw, 0, none⟩)), (9, vn), (10, .pointer (some ⟨b10, 0, none⟩)), (11, .pointer (some ⟨b11, 0, none⟩))] h
      [Res.blk b4 (.cells (askc a va vp vv).toArray 26 (0, 0)), Res.blk b10 (.cells (hdc q pv).toArray 36 (0, 0)), Res.blk b11 (.cells (renv [] q []).toArray 28 (0, 0)), R1, R2, R3, R4, R5, R6] Q := by
  obtain ⟨j, hj⟩ : ∃ j, j = min a.val.length 300 := ⟨_, rfl⟩
  have hj1 := minE hj
  obtain ⟨_, adv, capv, rfl, _, _⟩ := id hsv
  have hst : Bs8 h (.slice adv j capv) (a.val.take j) := by
    have htl : (a.val.take j).length = j := by rw [List.length_take]; omega
    have := sc_take hsv (j := j) (by omega)
    unfold Bs8
    rw [htl]
    simpa [bcs, List.map_take] using this
  have E1 := ESeal_no bv nm vn (.slice adv j capv) pv q a.del hno h hsn hsp
  have E2 := rESeal_no (.pointer (some ⟨bw, 0, none⟩)) nm (a.val.take j) [] q [] a.del hno h
  refine ybo ?_
  refine cx_region_any [Res.blk b4 (.cells (askc a va vp (.slice adv a.val.length capv)).toArray 26 (0, 0)), Res.blk b10 (.cells (hdc q pv).toArray 36 (0, 0))] [12] [] [0, 1, 2, 3, 4, 5, 6, 7, 8, 9, 10, 11, 12] rfl (by kernel_rfl) ?_
  refine tx_run false [0, 1, 2, 3, 4, 5, 6, 7, 8, 9, 10, 11] [12] (by kernel_rfl) ?_
  repeat' (first|refine zw417 ?_|(refine ycf ?_;(first|(refine zg0 ?_ ?_<;>intro ht)|(refine tb_ ?_ ?_ ?_;(·exact zc140);(·exact zc167);intro _)))|fail)
  refine nx_tq ?_
  refine tx_1 false 12 [] (by kernel_rfl) ?_
  (refine ycn (ycp Tryz.func9 rfl (by kernel_rfl) rfl) (E1) rfl rfl rfl ?_ ?_;(·exact zc140))
  refine ycg ?_
  refine nx_tq ?_
  refine tx_end ?_
  refine yby ?_
  refine ybo ?_
  refine cx_region_floatV [Res.blk b4 (.cells (askc a va vp (.slice adv a.val.length capv)).toArray 26 (0, 0)), Res.blk b11 (.cells (renv [] q []).toArray 28 (0, 0))] [14, 18, 19, 20] [0, 1, 2, 3, 4, 5, 6, 7, 8, 9, 10, 11, 12, 13, 14, 15, 16, 17] [(18, 12, fun b => .pointer (some ⟨b, 0, none⟩), .cells (renv [] zHdr []).toArray 28 (0, 0))] [19, 20] rfl (by kernel_rfl) ?_
  intro D ys hD
  refine gx_with (List.forall_mem_cons.2 ⟨⟨rfl, rfl, rfl, by kernel_rfl, fun _ _ _ => MA.cast (ybc (T := 28)) rfl⟩, fun y hy => (by cases hy)⟩) (by decide) (fun hok hnd => ?_)
  iterate 14
    refine gx_q rfl ?_
    repeat' (first|refine zw418 ?_|(refine ycf ?_;(first|(refine zg0 ?_ ?_<;>intro ht)|(refine tb_ ?_ ?_ ?_;(·exact zc151);(·exact zc169);intro _)))|fail)
    refine gx_putn ?_
  refine gx_step hok hnd rfl rfl (fun D w s => hd_m (Le.refl _) (all_m2 (List.mem_append_left _ tmh_) (List.mem_append_left _ tmh_)) w s) (fun D ys hD => ?_) _ _ hD
  (refine ycn (ycp Tryz.func10 rfl (by kernel_rfl) rfl) (E2) rfl rfl rfl ?_ ?_;(·exact zc151))
  refine ycg ?_
  refine gx_putn ?_
  iterate 3
    refine gx_q rfl ?_
    repeat' (first|refine zw418 ?_|(refine ycf ?_;(first|(refine zg0 ?_ ?_<;>intro ht)|(refine tb_ ?_ ?_ ?_;(·exact zc151);(·exact zc169);intro _)))|fail)
    refine gx_putn ?_
  refine gx_end hok hnd rfl rfl (fun D w s => hd_m (Le.refl _) (all_m2 (List.mem_append_left _ tmh_) (List.mem_append_left _ tmh_)) w s) (fun D hD => ?_) _ _ hD
  obtain ⟨b12, rfl⟩ := oneE hD
  refine rx_to (F' := [(63, .agg (renv [] zHdr []).toArray), (64, .int .i64 1), (5, .pointer (some ⟨b5, 0, none⟩)), (7, .pointer (some ⟨bv, 0, none⟩)), (8, .pointer (some ⟨bw, 0, none⟩)), (9, vn), (12, .pointer (some ⟨b12, 0, none⟩))]) (L' := [Res.blk b4 (.cells (askc a va vp (.slice adv a.val.length capv)).toArray 26 (0, 0)), Res.blk b10 (.cells (hdc q pv).toArray 36 (0, 0)), Res.blk b11 (.cells (renv [] q []).toArray 28 (0, 0)), R1, R2, R3, R4, R5, R6, Res.blk b12 (.cells (renv [] zHdr []).toArray 28 (0, 0))]) ts_ rfl ?_
  repeat' (first|refine zw419 ?_|(refine ycf ?_;(first|(refine zg0 ?_ ?_<;>intro ht)|(refine tb_ ?_ ?_ ?_;(·exact zc140);(·exact zc167);intro _)))|fail)
  refine yby ?_
  exact cx_fr ts_ (fun _ s => s.picks [3, 3, 3, 3, 3, 3, 3]) (hA b12)
end Go.Proofs.YtgeepceieckooaaGreatDoor
end

section
namespace Go.Proofs.YtgeepceieckooaaGreatDoor
open Go Go.Ck
set_option maxHeartbeats 4000000
theorem EO_ok (w0 : World) (h0 : View) (Q : Exit → Act → World → Prop) (R1 : Res) (idl : Bool) (key : List Int) (bv bn bu bt bw b4 b5 b10 b11 : Nat) (vn va vv vp pv : Value) (a : AskD) (nm val : List Int) (q : Hdr) (h : View)
    (hk : Bytes key) (hk32 : key.length = 32) (hn : Bytes nm) (hnl : 1 ≤ nm.length ∧ nm.length ≤ 64) (hok : q.ok) (hsn : Bs8 h vn nm) (hsp : Bs8 h pv q.past) (yp : Bytes q.past) (yv : Bytes a.val) (hvl : a.val.length ≤ 9223372036854775807) (hsv : Bs8 h vv a.val)
    (hv : Vb h bv idl key bn bu bt) (hg : ShG h) (hval : val = a.val.take (min a.val.length 300))
    (hA : ∀ (b12 : Nat) (h' : View) (vN vL tv : Value), Le h h' → Bs8 h' tv (padW (inF a.del val)) → CX Tryz.prog 151 ⟨w0, h0, []⟩ (cDrop 6 (cGet Tryz.f3.body)) [(5, .pointer (some ⟨b5, 0, none⟩)), (7, .pointer (some ⟨bv, 0, none⟩)), (8, .pointer (some ⟨bw, 0, none⟩)), (9, vn), (12, .pointer (some ⟨b12, 0, none⟩))] h'
      [R1, dvB bw idl key vN vL, rowN vN (addX idl [] nm), rowSd vL ([] ++ [⟨q.ep, q.cl, q.ct, boundF (nameX idl key [] nm) q, padW (inF a.del val), sealX idl key [] q.ep q.cl q.ct (boundF (nameX idl key [] nm) q) (padW (inF a.del val))⟩]), nmR bn (addX idl [] nm),
        tbR bt (tabX idl [] ((q.cl, q.ct, q.ep, bstr (boundF (nameX idl key [] nm) q), bstr (sealX idl key [] q.ep q.cl q.ct (boundF (nameX idl key [] nm) q) (padW (inF a.del val)))), tv, padW (inF a.del val))),
        Res.blk b12 (.cells (renv (nameX idl key [] nm) q (sealX idl key [] q.ep q.cl q.ct (boundF (nameX idl key [] nm) q) (padW (inF a.del val)))).toArray 28 (0, 0))] Q) :
    CX Tryz.prog 151 ⟨w0, h0, []⟩ (cDrop 4 (cGet Tryz.f3.body)) [(4, .pointer (some ⟨b4, 0, none⟩)), (5, .pointer (some ⟨b5, 0, none⟩)), (7, .pointer (some ⟨bv, 0, none⟩)), (8, .pointer (some ⟨bw, 0, none⟩)), (9, vn), (10, .pointer (some ⟨b10, 0, none⟩)), (11, .pointer (some ⟨b11, 0, none⟩))] h
      [Res.blk b4 (.cells (askc a va vp vv).toArray 26 (0, 0)), Res.blk b10 (.cells (hdc q pv).toArray 36 (0, 0)), Res.blk b11 (.cells (renv [] q []).toArray 28 (0, 0)), R1, dvB bw idl key (.slice none 0 0) (.slice none 0 0), nmR bn [], usR bu [], tbR bt []] Q := by
  obtain ⟨j, hj⟩ : ∃ j, j = min a.val.length 300 := ⟨_, rfl⟩
  have hj1 := minE hj
  rw [← hj] at hval
  obtain ⟨_, adv, capv, rfl, _, _⟩ := id hsv
  have hst : Bs8 h (.slice adv j capv) val := by
    have htl : (a.val.take j).length = j := by rw [List.length_take]; omega
    have := sc_take hsv (j := j) (by omega)
    rw [hval]
    unfold Bs8
    rw [htl]
    simpa [bcs, List.map_take] using this
  have ym : Bytes val := by rw [hval]; exact bytes_take yv j
  have ml : val.length ≤ 300 := by rw [hval, List.length_take]; omega
  clear hval
  have E1 := ESealX_sp idl bv key bn bu bt [] [] [] nm val vn (.slice adv j capv) pv q a.del hk hk32 names_nil (by simp) (by simp) held_nil hn hnl hok (by simp) ym (fun _ => by omega) h hv hsn hst hsp yp hg
  have E2 := fun h => rESeal_sp bw idl key (.slice none 0 0) (.slice none 0 0) [] [] nm val [] [] q a.del hk hk32 names_nil (by simp) (by simp) hn hnl hok yp (by simp [usD]) ym (by omega) h
  rw [show usD [] = [] from rfl] at E2
  generalize nameX idl key [] nm = nk at hA E1 E2
  generalize sealX idl key [] q.ep q.cl q.ct (boundF nk q) (padW (inF a.del val)) = X at hA E1 E2
  generalize boundF nk q = bd at hA E1 E2
  generalize padW (inF a.del val) = pw at hA E1 E2
  generalize addX idl [] nm = N1 at hA E1 E2
  refine ybo ?_
  refine cx_region_any [Res.blk b4 (.cells (askc a va vp (.slice adv a.val.length capv)).toArray 26 (0, 0)), Res.blk b10 (.cells (hdc q pv).toArray 36 (0, 0))] [12] [] [0, 1, 2, 3, 4, 5, 6, 7, 8, 9, 10, 11, 12] rfl (by kernel_rfl) ?_
  refine tx_run false [0, 1, 2, 3, 4, 5, 6, 7, 8, 9, 10, 11] [12] (by kernel_rfl) ?_
  repeat' (first|refine zw417 ?_|(refine ycf ?_;(first|(refine zg0 ?_ ?_<;>intro ht)|(refine tb_ ?_ ?_ ?_;(·exact zc140);(·exact zc167);intro _)))|fail)
  refine nx_tq ?_
  refine tx_1 false 12 [] (by kernel_rfl) ?_
  refine rx_call_l (ycp Tryz.func9 rfl (by kernel_rfl) rfl) (pick3 5 5 5 rfl rfl rfl) E1 rfl rfl rfl (.inl fun _ s => hd_m (Le.refl _) (all_m2 tmh_ tmh_) _ s) (fun _ _ hl => .inl fun _ s => hd_m hl (all_m2 tmh_ tmh_) _ s) ?_
  rintro ⟨h4, pv1, sv1, tv1⟩ htv1 hle4
  dsimp only at htv1 hle4 ⊢
  refine ycg ?_
  refine nx_tq ?_
  refine tx_end ?_
  refine yby ?_
  refine cx_row 9 1 ?_
  refine cx_row 124 6 ?_
  refine cx_st (L' := [Res.blk b4 (.cells (askc a va vp (.slice adv a.val.length capv)).toArray 26 (0, 0)), Res.blk b11 (.cells (renv [] q []).toArray 28 (0, 0)), dvB bw idl key (.slice none 0 0) (.slice none 0 0), rowN (.slice none 0 0) [], rowSd (.slice none 0 0) [], R1, nmR bn N1, tbR bt (tabX idl [] ((q.cl, q.ct, q.ep, bstr bd, bstr X), tv1, pw))]) (fun w s => s.picks [7, 8, 9, 1, 0, 6, 2, 3]) ?_
  have hsn4 := hsn.mono hle4
  have hst4 := hst.mono hle4
  refine ybo ?_
  refine cx_region_floatV [Res.blk b4 (.cells (askc a va vp (.slice adv a.val.length capv)).toArray 26 (0, 0)), Res.blk b11 (.cells (renv [] q []).toArray 28 (0, 0))] [14, 18, 19, 20] [0, 1, 2, 3, 4, 5, 6, 7, 8, 9, 10, 11, 12, 13, 14, 15, 16, 17] [(18, 12, fun b => .pointer (some ⟨b, 0, none⟩), .cells (renv [] zHdr []).toArray 28 (0, 0))] [19, 20] rfl (by kernel_rfl) ?_
  intro D ys hD
  refine gx_with (List.forall_mem_cons.2 ⟨⟨rfl, rfl, rfl, by kernel_rfl, fun _ _ _ => MA.cast (ybc (T := 28)) rfl⟩, fun y hy => (by cases hy)⟩) (by decide) (fun hok hnd => ?_)
  iterate 14
    refine gx_q rfl ?_
    repeat' (first|refine zw420 ?_|(refine ycf ?_;(first|(refine zg0 ?_ ?_<;>intro ht)|(refine tb_ ?_ ?_ ?_;(·exact zc151);(·exact zc169);intro _)))|fail)
    refine gx_putn ?_
  refine gx_step hok hnd rfl rfl (fun D w s => hd_m (Le.refl _) (all_m2 (List.mem_append_left _ tmh_) (List.mem_append_left _ tmh_)) w s) (fun D ys hD => ?_) _ _ hD
  refine rx_call_l (ycp Tryz.func10 rfl (by kernel_rfl) rfl) (pick3 2 2 2 rfl rfl rfl) (E2 h4) rfl rfl rfl (.inl fun _ s => hd_m (Le.refl _) (all_m2 (List.mem_append_left _ tmh_) (List.mem_append_left _ tmh_)) _ s) (fun _ _ _ => .inl fun _ s => hd_m (Le.refl _) (by exact all_m2 (List.mem_of_getElem? (i := 3) rfl) (List.mem_of_getElem? (i := 4) rfl)) _ s) ?_
  rintro ⟨vN2, vL2⟩ _ _
  dsimp only
  refine rx_perm (L' := [Res.blk b4 (.cells (askc a va vp (.slice adv a.val.length capv)).toArray 26 (0, 0)), Res.blk b11 (.cells (renv [] q []).toArray 28 (0, 0)), dvB bw idl key vN2 vL2, rowN vN2 N1, rowSd vL2 ([] ++ [⟨q.ep, q.cl, q.ct, bd, pw, X⟩]), R1, nmR bn N1, tbR bt (tabX idl [] ((q.cl, q.ct, q.ep, bstr bd, bstr X), tv1, pw))] ++ LDy D) (List.perm_append_comm_assoc [dvB bw idl key vN2 vL2, rowN vN2 N1, rowSd vL2 ([] ++ [⟨q.ep, q.cl, q.ct, bd, pw, X⟩])] [Res.blk b4 (.cells (askc a va vp (.slice adv a.val.length capv)).toArray 26 (0, 0)), Res.blk b11 (.cells (renv [] q []).toArray 28 (0, 0))] ([R1, nmR bn N1, tbR bt (tabX idl [] ((q.cl, q.ct, q.ep, bstr bd, bstr X), tv1, pw))] ++ LDy D)) ?_
  refine ycg ?_
  refine gx_putn ?_
  iterate 3
    refine gx_q rfl ?_
    repeat' (first|refine zw420 ?_|(refine ycf ?_;(first|(refine zg0 ?_ ?_<;>intro ht)|(refine tb_ ?_ ?_ ?_;(·exact zc151);(·exact zc169);intro _)))|fail)
    refine gx_putn ?_
  refine gx_end hok hnd rfl rfl (fun D w s => hd_m (Le.refl _) (all_m2 (List.mem_append_left _ tmh_) (List.mem_append_left _ tmh_)) w s) (fun D hD => ?_) _ _ hD
  obtain ⟨b12, rfl⟩ := oneE hD
  refine rx_to (F' := [(63, .agg (renv nk q X).toArray), (64, .int .i64 0), (5, .pointer (some ⟨b5, 0, none⟩)), (7, .pointer (some ⟨bv, 0, none⟩)), (8, .pointer (some ⟨bw, 0, none⟩)), (9, vn), (12, .pointer (some ⟨b12, 0, none⟩))]) (L' := [Res.blk b4 (.cells (askc a va vp (.slice adv a.val.length capv)).toArray 26 (0, 0)), Res.blk b11 (.cells (renv [] q []).toArray 28 (0, 0)), dvB bw idl key vN2 vL2, rowN vN2 N1, rowSd vL2 ([] ++ [⟨q.ep, q.cl, q.ct, bd, pw, X⟩]), R1, nmR bn N1, tbR bt (tabX idl [] ((q.cl, q.ct, q.ep, bstr bd, bstr X), tv1, pw)), Res.blk b12 (.cells (renv [] zHdr []).toArray 28 (0, 0))]) ts_ rfl ?_
  repeat' (first|refine zw421 ?_|(refine ycf ?_;(first|(refine zg0 ?_ ?_<;>intro ht)|(refine tb_ ?_ ?_ ?_;(·exact zc140);(·exact zc167);intro _)))|fail)
  refine yby ?_
  exact cx_fr ts_ (fun _ s => s.picks [5, 2, 2, 2, 2, 2, 2]) (hA b12 h4 vN2 vL2 tv1 hle4 htv1)
end Go.Proofs.YtgeepceieckooaaGreatDoor
end

section
namespace Go.Proofs.YtgeepceieckooaaGreatDoor
open Go Go.Ck
set_option maxHeartbeats 4000000
theorem sealX_byV (idl : Bool) (key : List Int) (U : List UseK) (ep c n : Int) (wi b : List Int) : Bytes (sealX idl key U ep c n wi b) := by
  cases idl
  · exact aeadS_by _ _ _ _
  · exact drawF_by _ _ _ _
theorem EnvelopeOpens_sp (idl : Bool) (a : AskD) (vn vp vv : Value) (rk rs : List Int) (rq : Hdr) (h : View) (ha : a.by') (hn : Bs8 h vn a.nm) (hp : Bs8 h vp a.past) (hv : Bs8 h vv a.val) (yk : Bytes rk) (kl : rk.length ≤ 9000000000000000000) (ypr : Bytes rq.past) (plr : rq.past.length ≤ 9223372036854775807) (ysr : Bytes rs) (slr : rs.length ≤ 9223372036854775807) (hg : ShG h) (w : World) (s : St ⟨w, h, []⟩ h [] w) :
    Calls Tryz.prog 3 [.bool idl, .agg (askc a vn vp vv).toArray, .agg (renv rk rq rs).toArray].toArray w fun e w' => ∃ h' : View, e = .returned (.bool true) ∧ St ⟨w, h, []⟩ h' [] w' := by
  have ha0 := ha
  obtain ⟨yn, yp, yv, ln, lp, lv⟩ := ha
  have hk : Bytes (key1 3) := key1_by (by omega)
  obtain ⟨_, adn, capn, rfl, _, _⟩ := id hn
  obtain ⟨_, adv, capv, rfl, _, _⟩ := id hv
  obtain ⟨_, adp, capp, rfl, _, _⟩ := id hp
  refine calls_enter Tryz.func3 rfl Tryz.ntmps3 rfl s ?_
  repeat' (first|refine zw422 ?_|(refine ta_ ?_;intro _)|(refine zk0 ?_ ?_<;>intro ht)|fail)
  rename_i b4 b5
  (refine yco (ycp Tryz.func6 rfl (by kernel_rfl) rfl) (vaults_sp idl (key1 3) hk rfl h) rfl rfl rfl ?_ ?_ ?_; (· (exact to_)); (·exact zc153); intro x px hle)
  obtain ⟨h1, bv, bn, bu, bt, bw⟩ := x
  dsimp only at px hle ⊢
  have hv1 : Vb h1 bv idl (key1 3) bn bu bt := px
  have hle1 : Le h h1 := hle
  clear px hle
  repeat' (first|refine zw3 ?_|(refine ta_ ?_;intro _)|(refine zk0 ?_ ?_<;>intro ht)|fail)
  (refine yco (ycp Tryz.func7 rfl (by kernel_rfl) rfl) (cut_sp _ a.nm 80 (by omega) ln h1 (hn.mono hle1)) rfl rfl rfl ?_ ?_ ?_; (· (exact to_)); (·exact zc153); intro x px hle)
  refine rx_persist rfl fun h2 hle2 hn2 => ?_
  have hn2 : Bs8 h2 x (a.nm.take 80) := hn2
  have ynm : Bytes (a.nm.take 80) := bytes_take yn 80
  generalize a.nm.take 80 = nm at hn2 ynm
  obtain ⟨vx, rfl⟩ : ∃ y, y = x := ⟨x, rfl⟩
  clear px hle
  repeat' (first|refine zw3 ?_|(refine ta_ ?_;intro _)|(refine zk0 ?_ ?_<;>intro ht)|fail)
  have hle12 := hle1.trans hle2
  (refine yco (ycp Tryz.func8 rfl (by kernel_rfl) rfl) (askHead_sp a _ _ _ h2 ha0 (hp.mono hle12) rfl rfl) rfl rfl rfl ?_ ?_ ?_; (· (exact to_)); (·exact zc153); intro x px hle)
  refine rx_persist rfl fun h3 hle3 hp3 => ?_
  have hp3 : Bs8 h3 x (qOf a).past := hp3
  have ypq : Bytes (qOf a).past := bytes_take yp 100
  generalize qOf a = q at hp3 ypq
  clear px hle
  obtain ⟨pv, rfl⟩ : ∃ y, y = x := ⟨x, rfl⟩
  have hn3 := hn2.mono hle3
  have hv3 := (hv1.mono hle2).mono hle3
  have hle13 := hle12.trans hle3
  have hsv3 := hv.mono hle13
  have hg3 := hg.mono hle13
  obtain ⟨_, ad1, cap1, rfl, _, _⟩ := id hp3
  repeat' ((fail_if_success (refine ybo ?_));(first|refine zw423 ?_|(refine ta_ ?_;intro _)|(refine zk0 ?_ ?_<;>intro ht)|fail))
  rename_i b10 b11
  have lval : (a.val.take (min a.val.length 300)).length ≤ 300 := by rw [List.length_take]; omega
  have yval : Bytes (a.val.take (min a.val.length 300)) := bytes_take yv _
  by_cases hok : (1 ≤ nm.length ∧ nm.length ≤ 64) ∧ q.ok
  · refine cx_fr (F' := [(4, .pointer (some ⟨b4, 0, none⟩)), (5, .pointer (some ⟨b5, 0, none⟩)), (7, .pointer (some ⟨bv, 0, none⟩)), (8, .pointer (some ⟨bw, 0, none⟩)), (9, vx), (10, .pointer (some ⟨b10, 0, none⟩)), (11, .pointer (some ⟨b11, 0, none⟩))]) ts_ (fun _ s => s.picks [7, 1, 0, 4, 0, 0, 0, 0]) (EO_ok w h _ (Res.blk b5 (.cells (renv rk rq rs).toArray 28 (0, 0))) idl (key1 3) bv bn bu bt bw b4 b5 b10 b11 vx _ _ _ _ a nm _ q h3 hk rfl ynm hok.1 hok.2 hn3 hp3 ypq yv lv hsv3 hv3 hg3 rfl ?_)
    intro b12 h4 vN vL tv hle4 htv
    generalize a.val.take (min a.val.length 300) = val at lval yval htv ⊢
    have il : (inF a.del val).length ≤ 4000 := by
      unfold inF
      split
      · decide
      · rw [List.length_cons]; omega
    have pl2 : (padW (inF a.del val)).length ≤ 5000 := by
      have := sizeF_bd (n := (inF a.del val).length) (by omega) (by omega)
      rw [padW_len il]
      omega
    have py : Bytes (padW (inF a.del val)) := padW_by (inF_by yval)
    have ynk := nameX_by idl (key1 3) [] nm
    have lnk := nameX_len idl (key1 3) [] nm
    have yb : Bytes (boundF (nameX idl (key1 3) [] nm) q) := boundF_by ynk ypq
    have yX := sealX_byV idl (key1 3) [] q.ep q.cl q.ct (boundF (nameX idl (key1 3) [] nm) q) (padW (inF a.del val))
    have lX := sealX_len idl (key1 3) [] q.ep q.cl q.ct (boundF (nameX idl (key1 3) [] nm) q) (padW (inF a.del val))
    have hN := addX_names (idl := idl) names_nil ynm
    have hNl := addX_len idl [] nm
    have hTD := tabOf_add (tabOf_nil idl) ⟨q.ep, q.cl, q.ct, boundF (nameX idl (key1 3) [] nm) q, padW (inF a.del val), sealX idl (key1 3) [] q.ep q.cl q.ct (boundF (nameX idl (key1 3) [] nm) q) (padW (inF a.del val))⟩ tv
    have hT2 : ∀ x ∈ tabX idl [] ((q.cl, q.ct, q.ep, bstr (boundF (nameX idl (key1 3) [] nm) q), bstr (sealX idl (key1 3) [] q.ep q.cl q.ct (boundF (nameX idl (key1 3) [] nm) q) (padW (inF a.del val)))), tv, padW (inF a.del val)), x.2.1 = tv ∧ x.2.2 = padW (inF a.del val) := by
      intro x hx
      unfold tabX at hx
      split at hx
      · simp only [List.nil_append, List.mem_singleton] at hx
        rw [hx]
        exact ⟨rfl, rfl⟩
      · cases hx
    refine cx_fr ts_ (fun _ s => s.picks [0, 5, 0, 0, 0, 0, 0]) (EO_A w h _ _ _ _ _ _ _ _ _ b5 b12 rk rs _ _ rq q h4 yk kl ypr plr ysr slr ynk (by omega) yX (by omega) (fun k s2 q2 yk2 kl2 yp2 pl3 ys2 sl2 => EO_B w h idl (key1 3) bv bn bu bt bw b5 vx vN vL _ _ _ nm k s2 q2 hk rfl hN ?_ (by simp) ?_ hTD ?_ ynm yk2 kl2 yp2 pl3 ys2 sl2 h4 ?_ (hv3.mono hle4) (hn3.mono hle4) (hg3.mono hle4)))
    · simp at hNl; omega
    · intro x hx
      simp only [List.nil_append, List.mem_singleton] at hx
      rw [hx]
      exact ⟨⟨yb, py, yX⟩, by show (padW (inF a.del val)).length ≤ 900000; omega⟩
    · intro x hx
      rw [(hT2 x hx).2]
      exact ⟨by omega, py⟩
    · intro x hx
      rw [(hT2 x hx).1, (hT2 x hx).2]
      exact htv
  · refine cx_row 9 1 ?_
    refine cx_row 124 6 ?_
    refine cx_fr (F' := [(4, .pointer (some ⟨b4, 0, none⟩)), (5, .pointer (some ⟨b5, 0, none⟩)), (7, .pointer (some ⟨bv, 0, none⟩)), (8, .pointer (some ⟨bw, 0, none⟩)), (9, vx), (10, .pointer (some ⟨b10, 0, none⟩)), (11, .pointer (some ⟨b11, 0, none⟩))]) ts_ (fun _ s => s.picks [9, 3, 2, 6, 2, 1, 0, 0, 1]) (EO_no w h _ (Res.blk b5 (.cells (renv rk rq rs).toArray 28 (0, 0))) (dvB bw idl (key1 3) (.slice none 0 0) (.slice none 0 0)) (rowN (.slice none 0 0) []) (rowSd (.slice none 0 0) []) (nmR bn []) (tbR bt []) bv bw b4 b5 b10 b11 vx _ _ _ _ a nm q h3 hok hn3 hp3 yv lv hsv3 ?_)
    intro b12
    exact cx_fr ts_ (fun _ s => s.picks [0, 5, 0, 0, 0, 0, 0]) (EO_A w h _ _ _ _ _ _ _ _ _ b5 b12 rk rs _ _ rq zHdr h3 yk kl ypr plr ysr slr bytes_nil (by simp) bytes_nil (by simp) (fun k s2 q2 yk2 kl2 yp2 pl3 ys2 sl2 => EO_B w h idl (key1 3) bv bn bu bt bw b5 vx _ _ [] [] [] nm k s2 q2 hk rfl names_nil (by simp) (by simp) (fun x hx => by cases hx) (tabOf_nil idl) (fun x hx => by cases hx) ynm yk2 kl2 yp2 pl3 ys2 sl2 h3 (fun x hx => by cases hx) hv3 hn3 hg3))
end Go.Proofs.YtgeepceieckooaaGreatDoor
end

section
namespace Go.Ck
open Go Go.ChangeShapes
section
variable {H : Type} {enc : TypeId × Value → H} {P : Program} {w : World} {base : Nat} {spare : Nat → Bool} {held : Bool}
theorem trod_fields {t : TypeId} {fs : Array Field} {fuel : Nat} {cs : List Value} {x : DataW H × List MemPlace} (ht : P.underlying t = some (.struct fs)) (h : DataW.trod enc P w base spare held fuel t cs = some x) :
    cs.length = P.cellsOf t ∧ ∀ f ∈ fs.toList, ∃ m y, DataW.trod enc P w base spare held m f.type ((cs.drop f.offset).take (P.cellsOf f.type)) = some y := by
  cases fuel with
  | zero => simp [DataW.trod] at h
  | succ n =>
    unfold DataW.trod at h
    simp only [ht] at h
    split at h
    · rename_i hl
      obtain ⟨xs, hxs, _⟩ := Option.map_eq_some_iff.1 h
      refine ⟨hl, fun f hf => ?_⟩
      obtain ⟨i, hi, rfl⟩ := List.getElem_of_mem hf
      have := mapM_some_get hxs i _ (List.getElem?_eq_getElem hi)
      have hlen := mapM_some_length hxs
      rw [List.getElem?_eq_getElem (by omega)] at this
      exact ⟨n, _, this⟩
    · cases h
end
end Go.Ck
end

section
namespace Go.Ck
open Go Go.ChangeShapes
set_option maxHeartbeats 1000000
section
variable {H : Type} {enc : TypeId × Value → H} {P : Program} {w : World} {base : Nat} {spare : Nat → Bool} {held : Bool}
theorem cells_get' {a : Addr} {n : Nat} {cs : List Value} (h : w.cells? base a n = some cs) {j : Nat} {u : Value} (hj : cs[j]? = some u) : w.cell? (a.add j) = some u := by
  unfold World.cells? at h
  split at h
  · have hl := mapM_some_length h
    have hjl : j < cs.length := (List.getElem?_eq_some_iff.1 hj).1
    have := mapM_some_get h j j (by rw [List.length_range] at hl; exact List.getElem?_range (by omega))
    rw [this, hj]
  · cases h
theorem trod_slice_of {T e k : Nat} {α : Type} {en : α → List Value} {R : α → Prop} (tu : P.underlying T = some (.slice e)) (hc : P.cellsOf e = k) (hk0 : 0 < k) (hlen : ∀ x, (en x).length = k)
    (hel : ∀ (m : Nat) (cs : List Value) (y : DataW H × List MemPlace), DataW.trod enc P w base spare held m e cs = some y → ∃ x : α, R x ∧ cs = en x)
    {m : Nat} {cs : List Value} {y : DataW H × List MemPlace} (h : DataW.trod enc P w base spare held m T cs = some y) :
    ∃ (v : Value) (l : List α), cs = [v] ∧ Sc (fun b => w.heap[b]?) k v l.length (l.flatMap en) ∧ l.length ≤ maxLen ∧ ∀ x ∈ l, R x := by
  subst hc
  rcases Go.Deep.open_slice tu h with ⟨rfl, _⟩ | ⟨a, len, cap, q, n, D, Pl, rfl, _, h1, h2, hk, _, hall⟩
  · exact ⟨_, [], rfl, Sc.nil _ _ none 0, Nat.zero_le _, fun x hx => by cases hx⟩
  · have hkl : len ≤ q := by rw [hk]; split <;> omega
    have hex : ∀ i, i < len → ∃ d : α, R d ∧ w.cells? base (a.add (i * P.cellsOf e)) (P.cellsOf e) = some (en d) := fun i hi => by
      obtain ⟨cs', e1, e2⟩ := hall i (by omega)
      obtain ⟨d, hr, rfl⟩ := hel _ _ _ e2
      exact ⟨d, hr, e1⟩
    generalize P.cellsOf e = k at hex hk0 hlen ⊢
    by_cases h0 : len = 0
    · subst h0
      exact ⟨_, [], rfl, ⟨by simp, some a, cap, rfl, Nat.zero_le _, .inl rfl⟩, Nat.zero_le _, fun x hx => by cases hx⟩
    obtain ⟨d0, _⟩ := hex 0 (by omega)
    obtain ⟨f, hf'⟩ : ∃ f : Nat → α, ∀ i, i < len → R (f i) ∧ w.cells? base (a.add (i * k)) k = some (en (f i)) := by
      classical
      exact ⟨fun i => if hi : i < len then (hex i hi).choose else d0, fun i hi => by
        dsimp only
        rw [dif_pos hi]
        exact (hex i hi).choose_spec⟩
    have hf := fun i hi => (hf' i hi).2
    refine ⟨_, (List.range len).map f, rfl, ⟨?_, some a, cap, by simp, by simpa using h1, ?_⟩, by simp; omega, fun x hx => ?_⟩
    · rw [flat_len hlen]
    · refine .inr ?_
      have hc00 : 0 < (en (f 0)).length := by rw [hlen]; exact hk0
      have hc0 := cells_get' (hf 0 (by omega)) (j := 0) (List.getElem?_eq_getElem hc00)
      obtain ⟨b, o, sp⟩ := a
      have hadd : ∀ i j, ((⟨b, o, sp⟩ : Addr).add i).add j = (⟨b, o, sp⟩ : Addr).add (i + j) := fun i j => Go.Deep.add_add _ i j
      rw [hadd] at hc0
      have hblk : ((⟨b, o, sp⟩ : Addr).add (0 * k + 0)) = ⟨b, o, sp⟩ := by simp [Addr.add]
      rw [hblk] at hc0
      unfold World.cell? at hc0
      split at hc0
      · rename_i c e fz hb
        split at hc0
        · cases hc0
        · rename_i hsp
          have hsp' : sp = none := by simpa using hsp
          subst hsp'
          refine ⟨b, o, c, e, fz, rfl, hb, fun j u hj => ?_⟩
          have hjl : j < len * k := by
            have := (List.getElem?_eq_some_iff.1 hj).1
            rw [flat_len hlen] at this
            simpa using this
          have hjk : j / k < len := Nat.div_lt_of_lt_mul (by rw [Nat.mul_comm]; exact hjl)
          have hd : j / k < ((List.range len).map f).length := by simpa using hjk
          have e1 : (((List.range len).map f).flatMap en)[j]? = (en (f (j / k)))[j % k]? := by
            have := flat_at hlen ((List.range len).map f) (j / k) hd
            have e3 : ((List.range len).map f)[j / k] = f (j / k) := by simp
            rw [e3] at this
            rw [← this, List.getElem?_take_of_lt (Nat.mod_lt _ hk0), List.getElem?_drop]
            congr 1
            rw [Nat.mul_comm]
            exact (Nat.div_add_mod j k).symm
          rw [e1] at hj
          have := cells_get' (hf (j / k) hjk) hj
          rw [hadd, Addr.add_off] at this
          unfold World.cell? at this
          simp only [hb] at this
          simp only [Option.isSome_none, Bool.false_eq_true, if_false] at this
          have ej : j / k * k + j % k = j := by rw [Nat.mul_comm]; exact Nat.div_add_mod j k
          rw [ej] at this
          exact this
      · cases hc0
    · obtain ⟨i, hi, rfl⟩ := List.mem_map.1 hx
      exact (hf' i (by simpa using hi)).1
end
end Go.Ck
end

section
namespace Go.Ck
open Go Go.ChangeShapes
set_option maxHeartbeats 1000000
def WB {H : Type} (P : Program) (t : TypeId) (d : DataW H) : Prop := ∀ x ∈ DataW.weights P t d, x ≤ reachBytes
section
variable {H : Type} {P : Program}
theorem weightsAll_mem {e : TypeId} {ds : List (DataW H)} {d : DataW H} (hd : d ∈ ds) {x : Nat} (hx : x ∈ DataW.weights P e d) : x ∈ DataW.weightsAll P e ds := by
  induction ds with
  | nil => cases hd
  | cons a r ih =>
    rw [DataW.weightsAll, List.mem_append]
    rcases List.mem_cons.1 hd with rfl | hd
    · exact .inl hx
    · exact .inr (ih hd)
theorem weightsEach_mem : ∀ {ts : List TypeId} {ds : List (DataW H)} {i : Nat} {t : TypeId} {d : DataW H}, ts[i]? = some t → ds[i]? = some d → ∀ {x : Nat}, x ∈ DataW.weights P t d → x ∈ DataW.weightsEach P ts ds
  | [], _, _, _, _, ht, _, _, _ => by simp at ht
  | _ :: _, [], _, _, _, _, hd, _, _ => by simp at hd
  | a :: ts, b :: ds, 0, t, d, ht, hd, x, hx => by
    simp only [List.getElem?_cons_zero, Option.some.injEq] at ht hd
    subst ht hd
    rw [DataW.weightsEach, List.mem_append]
    exact .inl hx
  | a :: ts, b :: ds, i + 1, t, d, ht, hd, x, hx => by
    simp only [List.getElem?_cons_succ] at ht hd
    rw [DataW.weightsEach, List.mem_append]
    exact .inr (weightsEach_mem ht hd hx)
theorem WB.slice {t e : TypeId} {elems spare : List (DataW H)} (ht : P.underlying t = some (.slice e)) (h : WB P t (.slice elems spare)) : elems.length * P.bytesOf e ≤ reachBytes ∧ ∀ d ∈ elems, WB P e d := by
  unfold WB at h
  rw [DataW.weights] at h
  simp only [ht] at h
  refine ⟨?_, fun d hd x hx => ?_⟩
  · have h1 := h _ (List.mem_cons_self ..)
    exact Nat.le_trans (Nat.mul_le_mul_right _ (Nat.le_add_right _ _)) h1
  · exact h x (List.mem_cons_of_mem _ (List.mem_append_left _ (weightsAll_mem hd hx)))
theorem WB.struct {t : TypeId} {fs : Array Field} {parts : List (DataW H)} (ht : P.underlying t = some (.struct fs)) (h : WB P t (.agg parts)) {i : Nat} {f : Field} {d : DataW H} (hf : fs.toList[i]? = some f) (hd : parts[i]? = some d) : WB P f.type d := by
  unfold WB at h
  rw [DataW.weights] at h
  simp only [ht] at h
  intro x hx
  exact h x (weightsEach_mem (i := i) (by rw [List.getElem?_map, hf]; rfl) hd hx)
variable {enc : TypeId × Value → H} {w : World} {base : Nat} {spare : Nat → Bool} {held : Bool}
theorem trod_fields_w {t : TypeId} {fs : Array Field} {fuel : Nat} {cs : List Value} {x : DataW H × List MemPlace} (ht : P.underlying t = some (.struct fs)) (h : DataW.trod enc P w base spare held fuel t cs = some x) (hw : WB P t x.1) :
    cs.length = P.cellsOf t ∧ ∀ (i : Nat) (f : Field), fs.toList[i]? = some f → ∃ m y, DataW.trod enc P w base spare held m f.type ((cs.drop f.offset).take (P.cellsOf f.type)) = some y ∧ WB P f.type y.1 := by
  cases fuel with
  | zero => simp [DataW.trod] at h
  | succ n =>
    unfold DataW.trod at h
    simp only [ht] at h
    split at h
    · rename_i hl
      obtain ⟨xs, hxs, rfl⟩ := Option.map_eq_some_iff.1 h
      refine ⟨hl, fun i f hf => ?_⟩
      have := mapM_some_get hxs i _ hf
      have hlen := mapM_some_length hxs
      have hil : i < fs.toList.length := (List.getElem?_eq_some_iff.1 hf).1
      have hi2 : i < xs.length := by omega
      rw [List.getElem?_eq_getElem hi2] at this
      exact ⟨n, _, this, WB.struct ht hw hf (by rw [List.getElem?_map, List.getElem?_eq_getElem hi2]; rfl)⟩
    · cases h
theorem str_len_w {t : TypeId} {s : List UInt8} (hw : WB (H := H) P t (.lit (.string s))) : s.length ≤ reachBytes := by
  unfold WB at hw
  rw [DataW.weights] at hw
  exact hw _ (List.mem_singleton.2 rfl)
end
end Go.Ck
end

section
namespace Go.Proofs.YtgeepceieckooaaGreatDoor
open Go Go.Ck Go.ChangeShapes
set_option maxHeartbeats 1000000
theorem cellsByte : Tryz.prog.cellsOf 5 = 1 := by kernel_rfl
theorem bcs_flat (l : List Int) : l.flatMap (fun n => [Value.int .u8 n]) = bcs l := by
  induction l with
  | nil => rfl
  | cons x l ih => rw [List.flatMap_cons, ih]; rfl
theorem trod_bs {H : Type} {enc : TypeId × Value → H} {w : World} {base : Nat} {spare : Nat → Bool} {held : Bool} {m : Nat} {cs : List Value} {y : DataW H × List MemPlace} (h : DataW.trod enc Tryz.prog w base spare held m 22 cs = some y) :
    ∃ (v : Value) (l : List Int), cs = [v] ∧ Bs8 (fun b => w.heap[b]?) v l ∧ Bytes l ∧ l.length ≤ maxLen := by
  obtain ⟨v, l, h1, h2, h3, h4⟩ := trod_slice_of (en := fun n : Int => [Value.int .u8 n]) (R := fun n => 0 ≤ n ∧ n < 256) Tryz.underlying22 cellsByte (by decide) (fun _ => rfl) (fun m cs y hy => by
    obtain ⟨n, e1, _, e3⟩ := DataW.trod_int Tryz.underlying5 hy
    obtain ⟨q1, q2⟩ := (Lit.wf_int_iff .u8 n).1 e3
    have m1 : IntKind.u8.min = 0 := by decide
    have m2 : IntKind.u8.max = 255 := by decide
    exact ⟨n, ⟨by omega, by omega⟩, e1⟩) h
  rw [bcs_flat] at h2
  exact ⟨v, l, h1, h2, h4, h3⟩
end Go.Proofs.YtgeepceieckooaaGreatDoor
end

section
namespace Go.Proofs.YtgeepceieckooaaGreatDoor
open Go Go.Ck Go.ChangeShapes
set_option maxHeartbeats 1000000
theorem cellsAsk : Tryz.prog.cellsOf 26 = 8 := by kernel_rfl
theorem cellsBs : Tryz.prog.cellsOf 22 = 1 := by kernel_rfl
theorem cellsBool : Tryz.prog.cellsOf 4 = 1 := by kernel_rfl
theorem cellsInt1 : Tryz.prog.cellsOf 3 = 1 := by kernel_rfl
theorem cellsDot2 : Tryz.prog.cellsOf 24 = 2 := by kernel_rfl
section
variable {H : Type} {enc : TypeId × Value → H} {w : World} {base : Nat} {spare : Nat → Bool} {held : Bool}
theorem trod_ask {m : Nat} {cs : List Value} {y : DataW H × List MemPlace} (h : DataW.trod enc Tryz.prog w base spare held m 26 cs = some y) :
    ∃ (a : AskD) (vn vp vv : Value), cs = askc a vn vp vv ∧ a.by' ∧ Bs8 (fun b => w.heap[b]?) vn a.nm ∧ Bs8 (fun b => w.heap[b]?) vp a.past ∧ Bs8 (fun b => w.heap[b]?) vv a.val := by
  obtain ⟨hl, hf⟩ := trod_fields Tryz.underlying26 h
  rw [cellsAsk] at hl
  match cs, hl with
  | [c0, c1, c2, c3, c4, c5, c6, c7], _ =>
    obtain ⟨m1, y1, h1⟩ := hf _ (List.mem_cons_self ..)
    obtain ⟨m2, y2, h2⟩ := hf _ (List.mem_cons_of_mem _ (List.mem_cons_self ..))
    obtain ⟨m3, y3, h3⟩ := hf _ (List.mem_cons_of_mem _ (List.mem_cons_of_mem _ (List.mem_cons_self ..)))
    obtain ⟨m4, y4, h4⟩ := hf _ (List.mem_cons_of_mem _ (List.mem_cons_of_mem _ (List.mem_cons_of_mem _ (List.mem_cons_self ..))))
    obtain ⟨m5, y5, h5⟩ := hf _ (List.mem_cons_of_mem _ (List.mem_cons_of_mem _ (List.mem_cons_of_mem _ (List.mem_cons_of_mem _ (List.mem_cons_self ..)))))
    obtain ⟨m6, y6, h6⟩ := hf _ (List.mem_cons_of_mem _ (List.mem_cons_of_mem _ (List.mem_cons_of_mem _ (List.mem_cons_of_mem _ (List.mem_cons_of_mem _ (List.mem_cons_self ..))))))
    obtain ⟨m7, y7, h7⟩ := hf _ (List.mem_cons_of_mem _ (List.mem_cons_of_mem _ (List.mem_cons_of_mem _ (List.mem_cons_of_mem _ (List.mem_cons_of_mem _ (List.mem_cons_of_mem _ (List.mem_cons_self ..)))))))
    rw [cellsBs] at h1 h5 h6
    rw [cellsInt1] at h2 h3
    rw [cellsDot2] at h4
    rw [cellsBool] at h7
    obtain ⟨vn, ln, e1, s1, b1, l1⟩ := trod_bs h1
    obtain ⟨n2, e2, _⟩ := DataW.trod_int Tryz.underlying3 h2
    obtain ⟨n3, e3, _⟩ := DataW.trod_int Tryz.underlying3 h3
    obtain ⟨vp, lp, e5, s5, b5, l5⟩ := trod_bs h5
    obtain ⟨vv, lv, e6, s6, b6, l6⟩ := trod_bs h6
    obtain ⟨bd, e7, _⟩ := DataW.trod_bool Tryz.underlying4 h7
    obtain ⟨hl4, hf4⟩ := trod_fields Tryz.underlying24 h4
    obtain ⟨m8, y8, h8⟩ := hf4 _ (List.mem_cons_self ..)
    obtain ⟨m9, y9, h9⟩ := hf4 _ (List.mem_cons_of_mem _ (List.mem_cons_self ..))
    rw [cellsInt1] at h8 h9
    obtain ⟨n8, e8, _⟩ := DataW.trod_int Tryz.underlying3 h8
    obtain ⟨n9, e9, _⟩ := DataW.trod_int Tryz.underlying3 h9
    simp at e1 e2 e3 e5 e6 e7 e8 e9
    unfold maxLen at l1 l5 l6
    refine ⟨⟨ln, n2, n3, n8, n9, lp, lv, bd⟩, vn, vp, vv, ?_, ⟨b1, b5, b6, by omega, by omega, by omega⟩, s1, s5, s6⟩
    rw [e1, e2, e3, e5, e6, e7, e8, e9]
    rfl
end
end Go.Proofs.YtgeepceieckooaaGreatDoor
end

section
namespace Go.Proofs.YtgeepceieckooaaGreatDoor
open Go Go.Ck Go.ChangeShapes
set_option maxHeartbeats 1000000
theorem cellsE1 : Tryz.prog.cellsOf 9 = 1 := by kernel_rfl
theorem cellsE2 : Tryz.prog.cellsOf 28 = 7 := by kernel_rfl
theorem bytes_of_strE (s : ByteArray) : ∃ b : List Int, Bytes b ∧ bstr b = s ∧ b.length = s.size := by
  refine ⟨s.data.toList.map fun x => (x.toNat : Int), fun b hb => ?_, ?_, by simp⟩
  · obtain ⟨x, _, rfl⟩ := List.mem_map.1 hb
    have := x.toNat_lt
    constructor <;> omega
  · unfold bstr
    rw [List.map_map]
    have : ((fun n : Int => UInt8.ofNat n.toNat) ∘ fun x : UInt8 => (x.toNat : Int)) = id := by
      funext x
      simp
    rw [this, List.map_id]
section
variable {H : Type} {enc : TypeId × Value → H} {w : World} {base : Nat} {spare : Nat → Bool} {held : Bool}
theorem trod_renv {m : Nat} {cs : List Value} {y : DataW H × List MemPlace} (h : DataW.trod enc Tryz.prog w base spare held m 28 cs = some y) (hw : WB Tryz.prog 28 y.1) :
    ∃ (k : List Int) (q : Hdr) (s : List Int), cs = renv k q s ∧ Bytes k ∧ k.length ≤ 140737488355328 ∧ Bytes q.past ∧ q.past.length ≤ 140737488355328 ∧ Bytes s ∧ s.length ≤ 140737488355328 := by
  obtain ⟨hl, hf⟩ := trod_fields_w Tryz.underlying28 h hw
  rw [cellsE2] at hl
  match cs, hl with
  | [c0, c1, c2, c3, c4, c5, c6], _ =>
    obtain ⟨m1, y1, h1, w1⟩ := hf 0 _ rfl
    obtain ⟨m2, y2, h2, _⟩ := hf 1 _ rfl
    obtain ⟨m3, y3, h3, _⟩ := hf 2 _ rfl
    obtain ⟨m4, y4, h4, _⟩ := hf 3 _ rfl
    obtain ⟨m5, y5, h5, w5⟩ := hf 4 _ rfl
    obtain ⟨m6, y6, h6, w6⟩ := hf 5 _ rfl
    dsimp only at h1 h2 h3 h4 h5 h6 w1 w5 w6
    rw [cellsE1] at h1 h5 h6
    rw [cellsInt1] at h2 h3
    rw [cellsDot2] at h4
    obtain ⟨s1, e1, z1, k1⟩ := DataW.trod_string Tryz.underlying9 h1
    obtain ⟨n2, e2, _⟩ := DataW.trod_int Tryz.underlying3 h2
    obtain ⟨n3, e3, _⟩ := DataW.trod_int Tryz.underlying3 h3
    obtain ⟨s5, e5, z5, k5⟩ := DataW.trod_string Tryz.underlying9 h5
    obtain ⟨s6, e6, z6, k6⟩ := DataW.trod_string Tryz.underlying9 h6
    obtain ⟨hl4, hf4⟩ := trod_fields Tryz.underlying24 h4
    obtain ⟨m8, y8, h8⟩ := hf4 _ (List.mem_cons_self ..)
    obtain ⟨m9, y9, h9⟩ := hf4 _ (List.mem_cons_of_mem _ (List.mem_cons_self ..))
    rw [cellsInt1] at h8 h9
    obtain ⟨n8, e8, _⟩ := DataW.trod_int Tryz.underlying3 h8
    obtain ⟨n9, e9, _⟩ := DataW.trod_int Tryz.underlying3 h9
    obtain ⟨b1, x1, g1, i1⟩ := bytes_of_strE s1
    obtain ⟨b5, x5, g5, i5⟩ := bytes_of_strE s5
    obtain ⟨b6, x6, g6, i6⟩ := bytes_of_strE s6
    simp at e1 e2 e3 e5 e6 e8 e9
    have j1 : s1.size ≤ reachBytes := by
      rw [z1] at w1
      simpa using str_len_w w1
    have j5 : s5.size ≤ reachBytes := by
      rw [z5] at w5
      simpa using str_len_w w5
    have j6 : s6.size ≤ reachBytes := by
      rw [z6] at w6
      simpa using str_len_w w6
    unfold reachBytes at j1 j5 j6
    refine ⟨b1, ⟨n2, n3, n8, n9, b5⟩, b6, ?_, x1, by omega, x5, ?_, x6, by omega⟩
    · unfold renv
      rw [e1, e2, e3, e5, e6, e8, e9, g1, g6]
      show _ = [_, _, _, _, _, Value.string (bstr b5), _]
      rw [g5]
    · show b5.length ≤ _
      omega
end
end Go.Proofs.YtgeepceieckooaaGreatDoor
end

section
namespace Go.Proofs.YtgeepceieckooaaGreatDoor.envelopeOpens
open Go Go.Ck Go.ChangeShapes Go.WideShapes Go.ChangeAt Go.RowKit
set_option maxHeartbeats 1000000
theorem laidOut : laidOutB Tryz.prog = true := by kernel_rfl
theorem own : ownKnob Tryz.prog.godebug = none := by kernel_rfl
theorem laid_eq : Rows.envelopeOpensRow.laid = [("casket/sha2.keys", .agg ((shK.map fun a => (a.toNat : Int)).map fun x => .lit (.int .u32 x))), ("casket/sha2.start", .agg ((shH.map fun a => (a.toNat : Int)).map fun x => .lit (.int .u32 x)))] := by kernel_rfl
theorem upK : (shK.map fun a => (a.toNat : Int)).map (Value.int .u32) = up32 shK := by kernel_rfl
theorem upH : (shH.map fun a => (a.toNat : Int)).map (Value.int .u32) = up32 shH := by kernel_rfl
theorem of_laid {W : World} (h : laidMetH Tryz.prog Rows.envelopeOpensRow.laid W) : ShG (fun b => W.heap[b]?) := by
  rw [MakeChecks.laidMetH_plain _ _ _ (by kernel_rfl)] at h
  obtain ⟨ps, h, _⟩ := h
  rw [laid_eq] at h
  obtain ⟨h1, qs, h⟩ := laid_ints (g := 1) (t := 179) (e := 141) (by kernel_rfl) (by kernel_rfl) Tryz.underlying179 Tryz.underlying141 (by kernel_rfl) (by kernel_rfl) h
  obtain ⟨h2, _⟩ := laid_ints (g := 0) (t := 164) (e := 141) (by kernel_rfl) (by kernel_rfl) Tryz.underlying164 Tryz.underlying141 (by kernel_rfl) (by kernel_rfl) h
  rw [upK] at h1
  rw [upH] at h2
  exact ⟨h1, h2⟩
theorem door_met (os : Os) (args : Array Value) : laidMetH Tryz.prog Rows.envelopeOpensRow.laid ((World.doorLaid Tryz.prog 400 os).forCall (fun _ _ => 0) ⟨#[], args, []⟩).memory :=
  laidMetH_of_parts3 (fuel := 8) (laidMet_of_run' 8 (by kernel_rfl) (by kernel_rfl)) (by kernel_rfl) (by kernel_rfl)
theorem contract (H : Type) (enc : TypeId × Value → H) (W : World) (base : Nat) (args : Array Value) (ds gs : List (DataW H)) (before : List MemPlace)
    (hval : ∀ (j : Nat) t v, Tryz.f3.params[j]? = some t → args[j]? = some v → Value.okWide Tryz.prog W .any base t v)
    (hW : DataW.Whole enc Tryz.prog Tryz.f3.params.toList Rows.envelopeOpensSpec.vars false W args.toList ds gs before) (hWt : (DataW.weightsEach Tryz.prog (Tryz.f3.params.toList ++ Rows.envelopeOpensSpec.plain.varTypes Tryz.prog) (ds ++ gs)).all (· ≤ reachBytes) = true) (hL : laidMetH Tryz.prog Rows.envelopeOpensRow.laid W) :
    Calls Tryz.prog 3 args W fun e W' => ∃ v, e = .returned v ∧ Rows.envelopeOpensSpec.post enc Tryz.prog Tryz.f3 false true false false W args v W' := by
  have hW' := hW
  obtain ⟨p, q, hA0, hV, rfl, hfz, hnd⟩ := hW
  have hA : DataW.TrodAll enc Tryz.prog W 0 (fun _ => true) true Tryz.f3.params.toList args.toList ds p := hA0
  rw [Tryz.params3] at hA hval
  obtain ⟨v0, vs0, d0, ds0, p0, q0, hargs0, rfl, rfl, h0, r0⟩ := trodAll_cons hA
  obtain ⟨v1, vs1, d1, ds1, p1, q1, hargs1, rfl, rfl, h1, r1⟩ := trodAll_cons r0
  obtain ⟨v2, vs2, d2, ds2, p2, q2, hargs2, rfl, rfl, h2, r2⟩ := trodAll_cons r1
  obtain ⟨rfl, rfl, rfl⟩ := trodAll_nil r2
  obtain rfl : args = #[v0, v1, v2] := by cases args; simp_all
  obtain ⟨rfl, rfl⟩ := trodVars_none hV
  obtain ⟨n0, rfl, rfl, rfl⟩ := open_bool Tryz.underlying4 (hval 0 4 v0 rfl rfl) h0
  obtain ⟨cs1, rfl, _⟩ := okWide_struct Tryz.underlying26 (hval 1 26 v1 rfl rfl)
  obtain ⟨fu1, g1⟩ := id h1
  obtain ⟨a1, vn1, vp1, vv1, hc1, hy1, hn1, hp1, hv1⟩ := trod_ask g1
  obtain rfl : cs1 = (askc a1 vn1 vp1 vv1).toArray := by
    have e : (Value.agg cs1).cells.toList = cs1.toList := rfl
    rw [e] at hc1
    rw [← hc1]
  have hw2 : WB Tryz.prog 28 d2 := fun x hx => oet_ (List.all_eq_true.1 hWt x (weightsEach_mem (i := 2) (t := 28) rfl rfl hx))
  obtain ⟨cs2, rfl, _⟩ := okWide_struct Tryz.underlying28 (hval 2 28 v2 rfl rfl)
  obtain ⟨fu2, g2⟩ := id h2
  obtain ⟨k2, e2, s2, hc2, yk2, lk2, yp2, lp2, ys2, ls2⟩ := trod_renv g2 hw2
  obtain rfl : cs2 = (renv k2 e2 s2).toArray := by
    have e : (Value.agg cs2).cells.toList = cs2.toList := rfl
    rw [e] at hc2
    rw [← hc2]
  have hst : St ⟨W, fun b => W.heap[b]?, []⟩ (fun b => W.heap[b]?) [] W := St.start (L := []) ⟨fun b o hb => hb, fun r hr => (by cases hr)⟩ (by simp [doms]) (fun b hb => (by simp [doms] at hb))
  refine (EnvelopeOpens_sp n0 a1 vn1 vp1 vv1 k2 s2 e2 _ hy1 hn1 hp1 hv1 yk2 (by omega) yp2 (by omega) ys2 (by omega) (of_laid hL) W hst).mono fun e W' ⟨h', he, s'⟩ => ?_
  subst he
  have hb : Below W.heap.size W W' := ⟨s'.os, s'.tape, s'.output, s'.size, fun k hk => s'.keep k hk (by simp)⟩
  simp only [List.append_nil] at hW'
  have hlt1 : ∀ x ∈ p1, x.block < W.heap.size := fun x hx => by simpa using hW'.lt x (by simp [hx])
  have hlt2 : ∀ x ∈ p2, x.block < W.heap.size := fun x hx => by simpa using hW'.lt x (by simp [hx])
  exact ⟨_, rfl, _, _, _, [], p1 ++ p2, [], hW', trodAll_cons_mk (shut_bool Tryz.underlying4 _) trodAll_mk0,
    by
      have h := (trodAll_cons_mk (shut_bool Tryz.underlying4 n0) (trodAll_cons_mk (Below.trod laidOut (by kernel_rfl) (oet_ (by kernel_rfl)) h1 hb hlt1) (trodAll_cons_mk (Below.trod laidOut (by kernel_rfl) (oet_ (by kernel_rfl)) h2 hb hlt2) trodAll_mk0)))
      simp only [List.append_nil] at h
      exact h,
    rfl, hb.frame _, fun h => by cases h⟩
set_option maxRecDepth 100000 in
theorem lifted (os : Os) (started : os.Started) (H : Type) (enc : TypeId × Value → H) :
    ReturnsInHanded {} Tryz.checked os 3 .any (fun w args => (Rows.envelopeOpensSpec.pre enc Tryz.prog Tryz.f3 Rows.envelopeOpensRow.domain false w args ∧ laidMetH Tryz.prog Rows.envelopeOpensRow.laid w) ∧ sizedMet enc Tryz.prog Tryz.f3 (OpenSpec.ofChange Rows.envelopeOpensSpec) false w args) (Rows.envelopeOpensSpec.post enc Tryz.prog Tryz.f3 false true false false) := by
  refine returnsInHanded_of_change_and (C := Tryz.checked) (X := fun w _ => laidMetH Tryz.prog Rows.envelopeOpensRow.laid w) (fun _ _ _ hh h => h.of_heap hh) own started (by kernel_rfl) Tryz.func3
    (ChangeSpec.witness_shaped (enc := enc) (C := Tryz.checked) (os := os) (X := fun w _ => laidMetH Tryz.prog Rows.envelopeOpensRow.laid w) false (World.doorLaid Tryz.prog 400 os) #[.bool false, .agg #[.slice none 0 0, .int .i64 0, .int .i64 0, .int .i64 0, .int .i64 0, .slice none 0 0, .slice none 0 0, .bool false], .agg #[.string ⟨#[]⟩, .int .i64 0, .int .i64 0, .int .i64 0, .int .i64 0, .string ⟨#[]⟩, .string ⟨#[]⟩]] 8 rfl (World.shaped_of_RefB (by kernel_rfl) (by kernel_rfl)) (by kernel_rfl) (by kernel_rfl) (by kernel_rfl) (door_met os _)) ?_
  intro W base args ds gs before hval hW _ hWt hL _
  exact contract H enc W base args ds gs before hval hW hWt hL
theorem over : Rows.EnvelopeOpensSaid :=
  OpenClaim.holds_of_wide 3 Tryz.f3 rfl rfl rfl rfl rfl rfl rfl ⟨rfl, rfl, rfl, rfl, rfl⟩ rfl rfl rfl rfl rfl (by kernel_rfl) Tryz.func3 (by kernel_rfl)
    (oet_ (by kernel_rfl)) (by unfold Func.isWrapper;first|(rw [if_pos (by decide +kernel)];kernel_rfl)|(rw [if_neg (by decide +kernel)];exact ⟨rfl, rfl⟩))
    (fun os started H enc _ => lifted os started H enc)
theorem proved : Rows.EnvelopeOpensCardSaid :=
  Claim7.holds_tied_plain_at .later [] Rows.envelopeOpensCard.laidKinds true Rows.envelopeOpensCard.stood.harness false
    over (fun _ h => by cases h) (by kernel_rfl) (fun _ h => by cases h) envelopeOpens_row_tie rfl ⟨rfl, rfl⟩ (by kernel_rfl) rfl
    (fun f fn hf hfn => by
      obtain rfl : f = 3 := Option.some.inj ((show Tryz.prog.funcNamed "casket/casketlaw13.EnvelopeOpens" = some 3 by kernel_rfl).symm.trans hf) |>.symm
      obtain rfl : fn = Tryz.f3 := (Option.some.inj (Tryz.func3.symm.trans hfn)).symm
      exact ⟨by kernel_rfl, fun j t ht => by
        rw [Tryz.params3] at ht
        have hm : t ∈ [4, 26, 28] := by simpa using Array.mem_of_getElem? ht
        have hall : ([4, 26, 28].all fun u => !Tryz.prog.wantsStandIn u) = true := by kernel_rfl
        exact (show Tryz.prog.wantsStandIn t = false by simpa using List.all_eq_true.1 hall t hm)⟩)
    (by kernel_rfl)
end Go.Proofs.YtgeepceieckooaaGreatDoor.envelopeOpens
end
