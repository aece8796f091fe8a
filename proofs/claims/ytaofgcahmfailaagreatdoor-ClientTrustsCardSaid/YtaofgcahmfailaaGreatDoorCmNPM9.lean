/-
  Part 9 of a proof: CkZero VaF VaG VaH VaI VaJ VaK VaL.
  Conditions: each theorem states its own.
-/
import Derived.Test.YtaofgcahmfailaaGreatDoorCmNPM8
set_option maxRecDepth 100000
set_option linter.unusedVariables false
set_option linter.unusedSimpArgs false
section
namespace Go.Ck
open Go
theorem zc1_one {cs : Array Value} (h : cs.toList.all Value.oneCell' = true) (k : Nat) : ∀ u ∈ (Builtin.zeroCells cs k).toList, u.oneCell' = true := fun u hu => by
  unfold Builtin.zeroCells at hu
  simp only [Array.toList_map, List.mem_map, Array.mem_toList_iff, Array.mem_range] at hu
  obtain ⟨i, hi, rfl⟩ := hu
  have hpos : 0 < cs.size := by
    rcases Nat.eq_zero_or_pos cs.size with h0 | h0
    · rw [h0, Nat.mul_zero] at hi
      exact absurd hi (Nat.not_lt_zero _)
    · exact h0
  have hlt := Nat.mod_lt i hpos
  rw [getElem!_pos cs _ hlt]
  exact List.all_eq_true.1 h _ (Array.getElem_mem_toList hlt)
section
variable {P : Program} {n : Nat} {K : Bs} {F : List (Nat × Value)} {h : View} {L : List Res} {Q : Exit → Act → World → Prop}
variable {dst : Option Nat} {ty : Nat} {pos : String} {af : Array Edge} {gd : Option (Nat × Bool)}
theorem run_append_zeros_ck {w : World} (t tn ty' e : TypeId) {z : Value} {kn : IntKind} {size bytes : Nat} (ht : P.underlying t = some (.slice e)) (htn : P.underlying tn = some (.int kn)) (tb : TyB P e z size bytes) (hzs : z.cells.size = size) (hz1 : z.cells.toList.all Value.oneCell' = true) (hsz : 0 < size)
    (g m0 cap : Nat) (xs : List Value) (hown : w.ownsRow 0 e size (.slice (some ⟨g, 0, none⟩) m0 cap) m0 xs) (m : Nat) (h63 : m0 + m ≤ maxLen) (hbytes : (m0 + m) * bytes ≤ 140737488355328) :
    ∃ v' w', (Builtin.append_ #[t, tn] ty' #[.slice (some ⟨g, 0, none⟩) m0 cap, .int .i64 m]).run P w = .ok v' w' ∧ w'.ownsRow 0 e size v' (m0 + m) (xs ++ (Builtin.zeroCells z.cells m).toList) ∧ w.grownBy w' (some g) ∧
      w.drawn ≤ w'.drawn ∧ (v'.ownBlock = some g ∨ ∃ b, v'.ownBlock = some b ∧ w.heap.size ≤ b) := by
  obtain ⟨i, hi, hz, hsize, hby⟩ := tb.ex
  subst hsize
  subst hby
  have hsmall : m0 + m ≤ 9223372036854775807 := by simp only [maxLen] at h63; omega
  have hl : (Builtin.zeroCells z.cells m).toList.length = m * i.size := by simp [size_zeroCells, hzs]
  have h1 : ∀ u ∈ (Builtin.zeroCells z.cells m).toList, u.oneCell' = true := zc1_one hz1 m
  have hlen : (xs ++ (Builtin.zeroCells z.cells m).toList).length = (m0 + m) * i.size := by rw [List.length_append, hown.1, hl, Nat.add_mul]
  have hm48 : (m : Int) * (i.bytes : Int) ≤ 281474976710656 := by
    have h0 : m * i.bytes ≤ (m0 + m) * i.bytes := Nat.mul_le_mul_right _ (Nat.le_add_left _ _)
    rw [← Int.natCast_mul]
    omega
  rcases hown.2 with ⟨q1, q2⟩ | ⟨g', cap', cur, q1, hbg, hg, hnc, hcm, hcs, htake⟩
  · cases q1
  cases q1
  by_cases hroom : m0 + m ≤ cap
  · have hfit : m0 * i.size + (Builtin.zeroCells z.cells m).toList.length ≤ cur.size := by rw [hl, hcs, ← Nat.add_mul]; exact Nat.mul_le_mul_right _ hroom
    have hst := run_storeCells_at P g (m0 * i.size) e (Builtin.zeroCells z.cells m).toList 0 cur w hg (by simpa using hfit) h1
    simp only [Nat.add_zero] at hst
    have hw : IntKind.i64.wrap (m : Int) = m := by rw [IntKind.wrap_i64]; omega
    have hneg : ¬ ((m : Int) < 0) := by omega
    have hr : (Builtin.append_ #[t, tn] ty' #[.slice (some ⟨g, 0, none⟩) m0 cap, .int .i64 m]).run P w = .ok (.slice (some ⟨g, 0, none⟩) (m0 + m) cap) (w.setRow g (cur.toList.take (m0 * i.size) ++ (Builtin.zeroCells z.cells m).toList ++ cur.toList.drop (m0 * i.size + (Builtin.zeroCells z.cells m).toList.length)).toArray) := by
      have h48' : ¬ (281474976710656 < (m : Int) * (i.bytes : Int)) := by omega
      by_cases hm0 : m = 0
      · subst hm0
        have e0 : (Builtin.zeroCells z.cells 0).toList = [] := List.eq_nil_of_length_eq_zero (by rw [hl, Nat.zero_mul])
        rw [e0] at hst ⊢
        have hr0 : m0 ≤ cap := by omega
        simp at hst
        simp [Builtin.append_, run_underlying ht, run_underlying htn, sizeOf, typeInfo, zeroValue, hi, hz, asInt, asIntOf, hr0, Addr.add_lit, IntKind.wrap_i64]
        rw [hst]
        rfl
      · have hns : ¬ (m * i.size = 0) := Nat.mul_ne_zero hm0 (by omega)
        simp [Builtin.append_, run_underlying ht, run_underlying htn, sizeOf, typeInfo, zeroValue, hi, hz, asInt, asIntOf, hw, hneg, hns, h48', hroom, Addr.add_lit, hst]
    refine ⟨_, _, hr, ⟨hlen, .inr ⟨g, cap, _, rfl, hbg, setRow_heap w g cur _ e _ hg, hroom, hcm, ?_, ?_⟩⟩, ⟨rfl, rfl, rfl, by simp, fun k _ hk => setRow_other w g k _ (fun e => hk (by simp [e]))⟩, by simp, .inl rfl⟩
    · simp only [List.size_toArray, List.length_append, List.length_take, List.length_drop, Array.length_toList]
      rw [Array.length_toList] at hfit
      omega
    · rw [htake, ← hlen]
      exact List.take_left
  · have holds : ∀ j u, xs[j]? = some u → w.cell? ((⟨g, 0, none⟩ : Addr).add j) = some u := hown.cells (g := g) rfl
    have hold := run_firstCells_some (P := P) w.drew i.size m0 ⟨g, 0, none⟩ m0 cap xs hown.1 holds
    have hr := Lib.run_append_grow_zeros (P := P) w t tn ty' e i z .i64 kn ht htn hi hz (some ⟨g, 0, none⟩) m0 cap xs hold m (by omega) hsz (by omega) (by omega) (by rw [← Int.natCast_mul] at hm48; omega) (Nat.le_trans (growslice_fits (by omega) hbytes) (by omega))
    have hge := grownCap_ge w (m0 + m) cap e
    have hcm2 : grownCap w (m0 + m) cap e ≤ maxLen := grownCap_le_maxLen w (m0 + m) cap e h63
    refine ⟨_, _, hr, ⟨hlen, .inr ⟨w.heap.size, _, _, rfl, Nat.zero_le _, heap_alloc_new w.drew _, hge, hcm2, ?_, ?_⟩⟩, ⟨rfl, rfl, rfl, by simp, fun k hk _ => Go.RowKit.Below.heap_alloc w.drew _ k hk⟩, Nat.le_succ _, .inr ⟨_, rfl, Nat.le_refl _⟩⟩
    · simp only [Array.size_append, List.size_toArray, size_zeroCells, hzs, hown.1, ← Nat.add_mul]
      congr 1
      omega
    · simp only [Array.toList_append, List.append_assoc]
      rw [← List.append_assoc, ← hlen]
      exact List.take_left
theorem rx_append_zeros {g : Rg} {i : Nat} {r : List (Nat × Oper)} {T Ti e : Nat} {x y : Operand} {z : Value} {sz by' m0 m gb cap : Nat} {xs : List Value} {kn : IntKind} (k : Nat) [tu : TyU P T (.slice e)] [ti : TyU P Ti (.int kn)] [tb : TyB P e z sz by'] (hx : ev F x = some (.slice (some ⟨gb, 0, none⟩) m0 cap)) (hy : ev F y = some (.int .i64 m))
    (hk : L[k]? = some (Res.row e sz (.slice (some ⟨gb, 0, none⟩) m0 cap) m0 xs)) (hzs : z.cells.size = sz) (hz1 : z.cells.toList.all Value.oneCell' = true) (hsz : 0 < sz) (h63 : m0 + m ≤ maxLen) (hbytes : (m0 + m) * by' ≤ 140737488355328)
    (hw : wantedF g.ops F ⟨dst, .call ⟨.builtin .append, #[x, y], #[T, Ti]⟩, ty, pos, af, gd⟩ = some true) (hd : okd n dst = true) (hlo : g.lo i = true) (o1 : Owe g i h L)
    (o2 : ∀ v', Owe g i h (L.set k (Res.row e sz v' (m0 + m) (xs ++ (Builtin.zeroCells z.cells m).toList))))
    (hn : ∀ v', RX P n K g r (putF dst v' F) h (L.set k (Res.row e sz v' (m0 + m) (xs ++ (Builtin.zeroCells z.cells m).toList))) Q) :
    RX P n K g ((i, ⟨dst, .call ⟨.builtin .append, #[x, y], #[T, Ti]⟩, ty, pos, af, gd⟩) :: r) F h L Q := by
  unfold RX at *
  intro a w f s
  have hown : w.ownsRow 0 e sz (.slice (some ⟨gb, 0, none⟩) m0 cap) m0 xs := s.hd.own _ (List.mem_of_getElem? hk)
  obtain ⟨v', w', hrun, how', hgr, hdr, hblk⟩ := run_append_zeros_ck (P := P) T Ti ty e tu.u ti.u tb hzs hz1 hsz gb m0 cap xs hown m h63 hbytes
  have s' : St K h (L.set k (Res.row e sz v' (m0 + m) (xs ++ (Builtin.zeroCells z.cells m).toList))) w' := by
    refine s.swap hk hgr.os hgr.tape hgr.output hdr hgr.size (fun j hj hjd => hgr.block j hj (fun hh => hjd ?_)) how' ?_ (fun b hb => ?_)
    · show j ∈ (Value.ownBlock (.slice (some ⟨gb, 0, none⟩) m0 cap)).toList
      cases hh
      simp [Value.ownBlock]
    · show v'.ownBlock.toList.Nodup
      cases v'.ownBlock <;> simp
    · have hb : v'.ownBlock = some b := by simpa [Res.row] using hb
      rcases hblk with hh | ⟨b', hh, hge⟩
      · refine .inl ?_
        rw [hb] at hh
        cases hh
        simp [Res.row, Value.ownBlock]
      · rw [hb] at hh; cases hh; exact .inr hge
  refine .inr (.inr ⟨wantedF_ok f hw, hlo, o1.out s, ?_⟩)
  unfold Oper.wp
  have : (execOp a.eval ⟨dst, .call ⟨.builtin .append, #[x, y], #[T, Ti]⟩, ty, pos, af, gd⟩).run P w = .ok (.value v') w' := by
    simp [execOp, resolve, invoke, builtin, f.ev hx, f.ev hy, hrun]
  rw [this]
  exact ⟨(o2 v').out s', hn v' _ _ (f.put hd v') s'⟩
end
end Go.Ck
end

section
namespace Go.Proofs.YtaofgcahmfailaaGreatDoor
open Go Go.Ck
set_option maxHeartbeats 4000000
def padW (b : List Int) : List Int := num4 b.length ++ b ++ List.replicate ((sizeF b.length).toNat - (4 + b.length)) 0
theorem sizeF_bd {n : Int} (h0 : 0 ≤ n) (h1 : n ≤ 4000) : n + 4 ≤ sizeF n ∧ sizeF n ≤ 4096 := by
  unfold sizeF classK
  split
  · simp; omega
  · split
    · simp; omega
    · split
      · simp; omega
      · simp; omega
theorem padW_len {b : List Int} (hl : b.length ≤ 4000) : (padW b).length = (sizeF b.length).toNat := by
  have := sizeF_bd (n := b.length) (by omega) (by omega)
  simp only [padW, List.length_append, num4_len, List.length_replicate]
  omega
theorem padW_by {b : List Int} (hb : Bytes b) : Bytes (padW b) := cbytes_app (cbytes_app (putLow_bytes' 4 _) hb) (zeros_by _)
theorem Pad_sp (v : Value) (b : List Int) (hl : b.length ≤ 4000) (h : View) (hb : Bs8 h v b) (w : World) (s : St ⟨w, h, []⟩ h [] w) :
    Calls Tryz.prog 36 [v].toArray w fun e w' => ∃ v, e = .returned (.tuple #[v, .int .i64 0]) ∧ St ⟨w, h, []⟩ h [rowB v (padW b)] w' ∧ True := by
  obtain ⟨_, ad, cap, rfl, hcap, _⟩ := id hb
  have C1 := Class_sp (b.length : Nat) (by omega) (by omega) h
  have hsz := sizeF_bd (n := b.length) (by omega) (by omega)
  refine calls_enter Tryz.func36 rfl Tryz.ntmps36 rfl s ?_
  repeat' (first|refine tw_ ?_|(refine ta_ ?_;intro _)|((fail_if_success (refine ybi rfl ?_));refine ybj rfl ?_ ?_<;>(intro ht;rw [ht];first|replace ht := oet_ ht|replace ht := oef_ ht|skip))|(refine ych ?_;first|(refine ybw rfl ?_ ?_<;>intro ht)|(refine ybx rfl ?_ ?_<;>intro ht)))
  (refine ycn (ycp Tryz.func53 rfl (by kernel_rfl) rfl) (C1) rfl rfl rfl ?_ ?_; (· (exact to_)))
  repeat' (first|(refine ycf ?_;apply ybk;(·first|(exact tk_));(·rfl);(·rfl))|refine t1_ ?_|(refine ta_ ?_;intro _)|((fail_if_success (refine ybi rfl ?_));refine ybj rfl ?_ ?_<;>(intro ht;rw [ht];first|replace ht := oet_ ht|replace ht := oef_ ht|skip))|(refine ych ?_;first|(refine ybw rfl ?_ ?_<;>intro ht)|(refine ybx rfl ?_ ?_<;>intro ht)))
  rename_i bo
  refine rx_row 5 1 ?_
  refine rx_perm (List.Perm.swap _ _ _) ?_
  (refine rx_call_2 (ycp Tryz.func43 rfl (by kernel_rfl) rfl) (OutBytes_sp bo (.slice none 0 0) [] false _ b (by simp; omega) h hb) rfl rfl rfl ?_ ?_ ?_; (· (exact to_)); (· intro _ _ hle; (exact to_)); intro x px hle)
  repeat' (first|(refine ycf ?_;apply ybk;(·first|(exact tk_));(·rfl);(·rfl))|refine t1_ ?_|(refine ta_ ?_;intro _)|((fail_if_success (refine ybi rfl ?_));refine ybj rfl ?_ ?_<;>(intro ht;rw [ht];first|replace ht := oet_ ht|replace ht := oef_ ht|skip))|(refine ych ?_;first|(refine ybw rfl ?_ ?_<;>intro ht)|(refine ybx rfl ?_ ?_<;>intro ht)))
  have hlen : ([] ++ num4 (b.length : Nat) ++ b).length = 4 + b.length := by simp [num4_len]
  (refine rx_call_2 (ycp Tryz.func40 rfl (by kernel_rfl) rfl) (Done_sp bo x ([] ++ num4 (b.length : Nat) ++ b) (by rw [hlen]; omega) h) rfl rfl rfl ?_ ?_ ?_; (· (exact to_)); (· intro _ _ hle; (exact to_)); intro x px hle)
  rw [List.nil_append] at hlen ⊢
  refine rx_rowform 0 rfl (fun _ h1 _ => (by omega)) ?_
  rintro g1 cap1 rfl
  have ws : IntKind.i64.wrap (sizeF (b.length : Nat) - ((num4 (b.length : Nat) ++ b).length : Nat)) = (((sizeF (b.length : Nat)).toNat - (4 + b.length) : Nat) : Int) := by rw [hlen, IntKind.wrap_i64]<;>omega
  repeat' (first|(refine ycf ?_;apply ybk;(·first|(first|exact tk_|(refine qv_subr rfl rfl ws)));(·rfl);(·rfl))|refine t1_ ?_|(refine ta_ ?_;intro _)|((fail_if_success (refine ybi rfl ?_));refine ybj rfl ?_ ?_<;>(intro ht;rw [ht];first|replace ht := oet_ ht|replace ht := oef_ ht|skip))|(refine ych ?_;first|(refine ybw rfl ?_ ?_<;>intro ht)|(refine ybx rfl ?_ ?_<;>intro ht)))
  refine rx_append_zeros (z := .int .u8 0) (sz := 1) 0 rfl rfl rfl rfl rfl (by omega) (by unfold maxLen; rw [hlen]; omega) (by rw [hlen]; omega) rfl rfl rfl ybf (fun _ => ybf) ?_
  intro v9
  have hz : (Builtin.zeroCells (Value.int .u8 0).cells ((sizeF (b.length : Nat)).toNat - (4 + b.length))).toList = bcs (List.replicate ((sizeF (b.length : Nat)).toNat - (4 + b.length)) 0) := by
    rw [← zeros_bcs]
    apply List.ext_getElem
    · simp [size_zeroCells, Value.cells]
    · intro i h1 h2
      simp [Builtin.zeroCells, Value.cells, Nat.mod_one]
  rw [hz, ← bcs_app]
  repeat' (first|refine tw_ ?_|(refine ta_ ?_;intro _)|((fail_if_success (refine ybi rfl ?_));refine ybj rfl ?_ ?_<;>(intro ht;rw [ht];first|replace ht := oet_ ht|replace ht := oef_ ht|skip))|(refine ych ?_;first|(refine ybw rfl ?_ ?_<;>intro ht)|(refine ybx rfl ?_ ?_<;>intro ht)))
  refine nx_ret2 rfl (rv_tmp rfl) (rv_tmp rfl) (fun w' s' => ⟨v9, rfl, ?_, trivial⟩)
  have s3 := s'.keep1
  unfold rowB
  rw [padW_len hl]
  have e : (num4 (b.length : Nat) ++ b).length + ((sizeF (b.length : Nat)).toNat - (4 + b.length)) = (sizeF (b.length : Nat)).toNat := by rw [hlen]; omega
  rw [e] at s3
  exact s3
end Go.Proofs.YtaofgcahmfailaaGreatDoor
end

section
namespace Go.Proofs.YtaofgcahmfailaaGreatDoor
open Go Go.Ck
set_option maxHeartbeats 4000000
def cutV (l : List Int) : List Int := (byC (l, 0) 4000).1
def cutOk (l : List Int) : Bool := decide (padW (cutV l) = l)
theorem Cut_sp (v : Value) (l : List Int) (yb : Bytes l) (hl : l.length ≤ 900000) (h : View) (hb : Bs8 h v l) (w : World) (s : St ⟨w, h, []⟩ h [] w) :
    Calls Tryz.prog 84 [v].toArray w fun e w' => ∃ x : View × Value, e = .returned (.tuple #[x.2, .int .i64 (if cutOk l then 0 else 2)]) ∧ St ⟨w, h, []⟩ x.1 [] w' ∧ Bs8 x.1 x.2 (if cutOk l then cutV l else []) := by
  obtain ⟨_, ad, cap, rfl, hcap, _⟩ := id hb
  obtain ⟨_, yc, lc⟩ := RsOk.by (s := (l, 0)) (most := 4000) ⟨yb, by show l.length ≤ 140737488355328; omega⟩ (by omega)
  have hc4 : (cutV l).length ≤ 4000 := by unfold cutV; omega
  have hyc : Bytes (cutV l) := yc
  have hpl : (padW (cutV l)).length ≤ 900000 := by
    have := sizeF_bd (n := (cutV l).length) (by omega) (by omega)
    rw [padW_len hc4]
    omega
  refine calls_enter Tryz.func84 rfl Tryz.ntmps84 rfl s ?_
  repeat' (first|refine tw_ ?_|(refine ta_ ?_;intro _)|((fail_if_success (refine ybi rfl ?_));refine ybj rfl ?_ ?_<;>(intro ht;rw [ht];first|replace ht := oet_ ht|replace ht := oef_ ht|skip))|(refine ych ?_;first|(refine ybw rfl ?_ ?_<;>intro ht)|(refine ybx rfl ?_ ?_<;>intro ht)))
  (refine yco (ycp Tryz.func62 rfl (by kernel_rfl) rfl) (Of_sp _ l (by omega) h hb) rfl rfl rfl ?_ ?_ ?_; (· (exact to_)); (· intro _ _ hle; (exact to_)); intro x px hle)
  obtain ⟨h1, bi, v1⟩ := x
  dsimp only at px hle
  (refine rx_call_m (ycp Tryz.func65 rfl (by kernel_rfl) rfl) (perm_at (k := 0) rfl) (InBytes_sp bi v1 l 0 4000 yb (by omega) (by omega) h1 px) rfl rfl rfl ?_ ?_ ?_; (· (exact to_)); (· intro _ _ hle; (exact to_)); intro x px hle)
  obtain ⟨h2, vo, v2⟩ := x
  obtain ⟨ho, _⟩ := px
  dsimp only at ho
  have hle2 : Le h h2 := Le.trans ‹Le h h1› hle
  have hb2 := hb.mono hle2
  clear hle
  change Bs8 h2 vo (cutV l) at ho
  obtain ⟨_, ad2, cap2, rfl, _, _⟩ := id ho
  repeat' (first|refine tw_ ?_|(refine ta_ ?_;intro _)|((fail_if_success (refine ybi rfl ?_));refine ybj rfl ?_ ?_<;>(intro ht;rw [ht];first|replace ht := oet_ ht|replace ht := oef_ ht|skip))|(refine ych ?_;first|(refine ybw rfl ?_ ?_<;>intro ht)|(refine ybx rfl ?_ ?_<;>intro ht)))
  (refine yco (ycp Tryz.func36 rfl (by kernel_rfl) rfl) (Pad_sp _ (cutV l) hc4 h2 ho) rfl rfl rfl ?_ ?_ ?_; (· (exact to_)); (· intro _ _ hle; (exact to_)); intro x px hle)
  refine rx_persist rfl fun h3 hle3 hv3 => ?_
  clear hle
  have hb3 := hb2.mono hle3
  have ho3 := ho.mono hle3
  have hv3 : Bs8 h3 x (padW (cutV l)) := hv3
  obtain ⟨_, ad3, cap3, rfl, _, _⟩ := id hv3
  repeat' (first|refine tw_ ?_|(refine ta_ ?_;intro _)|((fail_if_success (refine ybi rfl ?_));refine ybj rfl ?_ ?_<;>(intro ht;rw [ht];first|replace ht := oet_ ht|replace ht := oef_ ht|skip))|(refine ych ?_;first|(refine ybw rfl ?_ ?_<;>intro ht)|(refine ybx rfl ?_ ?_<;>intro ht)))
  have S1 := bSame_sp _ _ (padW (cutV l)) l h3 hv3 hb3 (padW_by hyc) yb hpl hl
  (refine ycn (ycp Tryz.func96 rfl (by kernel_rfl) rfl) (S1) rfl rfl rfl ?_ ?_; (· (exact to_)))
  by_cases hok : padW (cutV l) = l
  · have e1 : cutOk l = true := by unfold cutOk; simpa using hok
    have e2 : decide (padW (cutV l) = l) = true := by simpa using hok
    rw [e1, e2]
    repeat' (first|refine tw_ ?_|(refine ta_ ?_;intro _)|((fail_if_success (refine ybi rfl ?_));refine ybj rfl ?_ ?_<;>(intro ht;rw [ht];first|replace ht := oet_ ht|replace ht := oef_ ht|skip))|(refine ych ?_;first|(refine ybw rfl ?_ ?_<;>intro ht)|(refine ybx rfl ?_ ?_<;>intro ht)))
    refine nx_ret2 rfl (rv_tmp rfl) (rv_tmp rfl) (fun w' s' => ⟨(h3, _), rfl, s'.nil, ?_⟩)
    exact ho3
  · have e1 : cutOk l = false := by unfold cutOk; simpa using hok
    have e2 : decide (padW (cutV l) = l) = false := by simpa using hok
    rw [e1, e2]
    repeat' (first|refine tw_ ?_|(refine ta_ ?_;intro _)|((fail_if_success (refine ybi rfl ?_));refine ybj rfl ?_ ?_<;>(intro ht;rw [ht];first|replace ht := oet_ ht|replace ht := oef_ ht|skip))|(refine ych ?_;first|(refine ybw rfl ?_ ?_<;>intro ht)|(refine ybx rfl ?_ ?_<;>intro ht)))
    refine nx_ret2 rfl (rv_tmp rfl) (rv_tmp rfl) (fun w' s' => ⟨(h3, .slice none 0 0), rfl, s'.nil, ?_⟩)
    exact Sc.nil _ _ _ _
end Go.Proofs.YtaofgcahmfailaaGreatDoor
end

section
namespace Go.Proofs.YtaofgcahmfailaaGreatDoor
open Go Go.Ck
set_option maxHeartbeats 4000000
instance tykUse : TyK Tryz.prog 140 [(3, 0), (3, 1)] := ⟨by kernel_rfl, by kernel_rfl, by kernel_rfl, by kernel_rfl⟩
instance tykSea : TyK Tryz.prog 142 [(140, 0), (3, 2), (9, 3), (9, 4)] := ⟨by kernel_rfl, by kernel_rfl, by kernel_rfl, by kernel_rfl⟩
abbrev UseK := Int × Int
abbrev SeaK := Int × Int × Int × ByteArray × ByteArray
def useA (a : UseK) : Array Value := #[.int .i64 a.1, .int .i64 a.2]
def seaA (a : SeaK) : Array Value := #[.int .i64 a.1, .int .i64 a.2.1, .int .i64 a.2.2.1, .string a.2.2.2.1, .string a.2.2.2.2]
theorem part1 {P : Program} {T : Nat} {cs : Array Value} {off : Nat} {v : Value} [ta : TyA P T false] (h : cs[off]? = some v) (w : World) : (part T cs off).run P w = .ok v w := by simp [part, ta.a, h]
theorem partA {P : Program} {T k : Nat} {cs : Array Value} {off : Nat} {xs : Array Value} [ta : TyA P T true] [ts : TyS P T k] (h : cs.extract off (off + k) = xs) (w : World) : (part T cs off).run P w = .ok (.agg xs) w := by simp [part, ta.a, ts.s, h]
theorem use_parts (a : UseK) : Parts Tryz.prog (useA a) [(3, 0), (3, 1)] [.int .i64 a.1, .int .i64 a.2] :=
  .cons (part1 rfl) (.cons (part1 rfl) .nil)
theorem sea_parts (a : SeaK) : Parts Tryz.prog (seaA a) [(140, 0), (3, 2), (9, 3), (9, 4)] [.agg (useA (a.1, a.2.1)), .int .i64 a.2.2.1, .string a.2.2.2.1, .string a.2.2.2.2] :=
  .cons (partA (k := 2) rfl) (.cons (part1 rfl) (.cons (part1 rfl) (.cons (part1 rfl) .nil)))
theorem use_eq (d : Nat) (a b : UseK) (w : World) : (Op.equalIn (d + 2) 140 (.agg (useA a)) (.agg (useA b))).run Tryz.prog w = .ok (decide (a = b)) w := by
  have := struct_eq (P := Tryz.prog) (T := 140) (d := d + 1) w (bs := [a.1 == b.1, a.2 == b.2]) rfl (use_parts a) (use_parts b) (by
    intro i t u v r h1 h2 h3 h4 w
    match i, h1, h2, h3, h4 with
    | 0, h1, h2, h3, h4 => cases h1; cases h2; cases h3; cases h4; exact run_equalIn_int w d _ _ _ _ _ (TyU.u (d := .int .i64))
    | 1, h1, h2, h3, h4 => cases h1; cases h2; cases h3; cases h4; exact run_equalIn_int w d _ _ _ _ _ (TyU.u (d := .int .i64)))
  rw [this]
  congr 1
  rw [Bool.eq_iff_iff]
  simp [Prod.ext_iff]
theorem sea_eq (d : Nat) (a b : SeaK) (w : World) : (Op.equalIn (d + 3) 142 (.agg (seaA a)) (.agg (seaA b))).run Tryz.prog w = .ok (decide (a = b)) w := by
  have := struct_eq (P := Tryz.prog) (T := 142) (d := d + 2) w (bs := [decide ((a.1, a.2.1) = (b.1, b.2.1)), a.2.2.1 == b.2.2.1, a.2.2.2.1.toList == b.2.2.2.1.toList, a.2.2.2.2.toList == b.2.2.2.2.toList]) rfl (sea_parts a) (sea_parts b) (by
    intro i t u v r h1 h2 h3 h4 w
    match i, h1, h2, h3, h4 with
    | 0, h1, h2, h3, h4 => cases h1; cases h2; cases h3; cases h4; exact use_eq d _ _ w
    | 1, h1, h2, h3, h4 => cases h1; cases h2; cases h3; cases h4; exact run_equalIn_int w (d + 1) _ _ _ _ _ (TyU.u (d := .int .i64))
    | 2, h1, h2, h3, h4 => cases h1; cases h2; cases h3; cases h4; exact run_equalIn_string w (d + 1) _ _ _ (TyU.u (d := .string))
    | 3, h1, h2, h3, h4 => cases h1; cases h2; cases h3; cases h4; exact run_equalIn_string w (d + 1) _ _ _ (TyU.u (d := .string)))
  rw [this]
  congr 1
  rw [← beq_toListBytes, ← beq_toListBytes, ba_beq, ba_beq, Bool.eq_iff_iff]
  simp [Prod.ext_iff, and_assoc]
theorem chk_int {P : Program} {T : Nat} {k : IntKind} [tu : TyU P T (.int k)] (b : Bool) (d : Nat) (i : Int) (w : World) : (Instr.checkKey b (d + 1) T (.int k i)).run P w = .ok () w := MapKept.run_checkKey (k := .int k i) tu.u rfl b d
theorem chk_str {P : Program} {T : Nat} [tu : TyU P T .string] (b : Bool) (d : Nat) (i : ByteArray) (w : World) : (Instr.checkKey b (d + 1) T (.string i)).run P w = .ok () w := MapKept.run_checkKey (k := .string i) tu.u trivial b d
theorem use_chk (b : Bool) (d : Nat) (a : UseK) (w : World) : (Instr.checkKey b (d + 2) 140 (.agg (useA a))).run Tryz.prog w = .ok () w :=
  struct_chk (P := Tryz.prog) (T := 140) (d := d + 1) w (use_parts a) (by
    intro i t u h1 h2 w
    match i, h1, h2 with
    | 0, h1, h2 => cases h1; cases h2; exact chk_int b d _ w
    | 1, h1, h2 => cases h1; cases h2; exact chk_int b d _ w)
theorem sea_chk (b : Bool) (d : Nat) (a : SeaK) (w : World) : (Instr.checkKey b (d + 3) 142 (.agg (seaA a))).run Tryz.prog w = .ok () w :=
  struct_chk (P := Tryz.prog) (T := 142) (d := d + 2) w (sea_parts a) (by
    intro i t u h1 h2 w
    match i, h1, h2 with
    | 0, h1, h2 => cases h1; cases h2; exact use_chk b d _ w
    | 1, h1, h2 => cases h1; cases h2; exact chk_int b (d + 1) _ w
    | 2, h1, h2 => cases h1; cases h2; exact chk_str b (d + 1) _ w
    | 3, h1, h2 => cases h1; cases h2; exact chk_str b (d + 1) _ w)
theorem use_kl : KeyLw Tryz.prog 140 (fun a : UseK => Value.agg (useA a)) :=
  struct_kl (fun a b w => use_eq 9998 a b w) (fun b a w => use_chk b 9998 a w) (fun a => by simp [Instr.sameBits, useA])
theorem sea_kl : KeyLw Tryz.prog 142 (fun a : SeaK => Value.agg (seaA a)) :=
  struct_kl (fun a b w => sea_eq 9997 a b w) (fun b a w => sea_chk b 9997 a w) (fun a => by simp [Instr.sameBits, seaA, ba_beq])
end Go.Proofs.YtaofgcahmfailaaGreatDoor
end

section
namespace Go.Proofs.YtaofgcahmfailaaGreatDoor
open Go Go.Ck
set_option maxHeartbeats 4000000
def nmL (N : List (List Int)) : List (ByteArray × Value) := N.zipIdx.map fun x => (bstr x.1, .int .i64 ((x.2 + 1 : Nat) : Int))
def addN (N : List (List Int)) (x : List Int) : List (List Int) := if x ∈ N then N else N ++ [x]
def Names (N : List (List Int)) : Prop := ∀ x ∈ N, Bytes x
theorem bstr_bc {l : List Int} (hb : Bytes l) : ((bstr l).data.map fun b => Value.int .u8 b.toNat).toList = bcs l := by
  unfold bstr bcs
  simp only [Array.toList_map, List.map_map]
  refine List.map_congr_left fun x hx => ?_
  have := hb x hx
  show Value.int .u8 ((UInt8.ofNat x.toNat).toNat : Int) = _
  congr 1
  simp
  omega
theorem bstr_inj {a b : List Int} (ha : Bytes a) (hb : Bytes b) (h : bstr a = bstr b) : a = b := by
  have h1 := bstr_bc ha
  have h2 := bstr_bc hb
  rw [h] at h1
  have h3 : bcs a = bcs b := h1.symm.trans h2
  have h4 := congrArg (List.map fun v => match v with | .int _ i => i | _ => 0) h3
  simpa [bcs, List.map_map, Function.comp_def] using h4
theorem nm_get {N : List (List Int)} (hN : Names N) {x : List Int} (hx : Bytes x) : ∀ k, mget (((N.zipIdx k).map fun x => (bstr x.1, Value.int .i64 ((x.2 + 1 : Nat) : Int)))) (bstr x) = if x ∈ N then some (.int .i64 ((k + N.idxOf x + 1 : Nat) : Int)) else none := by
  induction N with
  | nil => intro k; rfl
  | cons y N ih =>
    intro k
    simp only [List.zipIdx_cons, List.map_cons, mget]
    by_cases hxy : x = y
    · subst hxy
      rw [if_pos rfl, if_pos (List.mem_cons_self ..), List.idxOf_cons_self]
    · have hb : ¬ bstr x = bstr y := fun e => hxy (bstr_inj hx (hN y (List.mem_cons_self ..)) e)
      rw [if_neg hb, ih (fun z hz => hN z (List.mem_cons_of_mem _ hz)) (k + 1)]
      have hm : (x ∈ y :: N) ↔ x ∈ N := by simp [hxy]
      by_cases hxN : x ∈ N
      · have hb2 : (y == x) = false := by simpa using fun e => hxy (Eq.symm e)
        have he : List.idxOf x (y :: N) = List.idxOf x N + 1 := by rw [List.idxOf_cons, hb2]; rfl
        rw [if_pos hxN, if_pos (hm.2 hxN), he]
        congr 3
        omega
      · rw [if_neg hxN, if_neg (fun h => hxN (hm.1 h))]
theorem nmL_get {N : List (List Int)} (hN : Names N) {x : List Int} (hx : Bytes x) : mget (nmL N) (bstr x) = if x ∈ N then some (.int .i64 ((N.idxOf x + 1 : Nat) : Int)) else none := by
  have := nm_get hN hx 0
  rw [Nat.zero_add] at this
  exact this
theorem nmL_len (N : List (List Int)) : (nmL N).length = N.length := by simp [nmL]
theorem nmL_add {N : List (List Int)} (hN : Names N) {x : List Int} (hx : Bytes x) (hn : x ∉ N) : mput (nmL N) (bstr x) (.int .i64 ((N.length + 1 : Nat) : Int)) = nmL (addN N x) := by
  rw [mput_new (by rw [nmL_get hN hx, if_neg hn]), addN, if_neg hn]
  simp [nmL, List.zipIdx_append]
theorem addN_names {N : List (List Int)} (hN : Names N) {x : List Int} (hx : Bytes x) : Names (addN N x) := by
  unfold addN
  split
  · exact hN
  · intro y hy
    rcases List.mem_append.1 hy with hy | hy
    · exact hN y hy
    · rw [List.mem_singleton.1 hy]; exact hx
abbrev nmR (bn : Nat) (N : List (List Int)) : Res := Res.mp Value.string bn (nmL N)
def blindF (key : List Int) (N : List (List Int)) (x : List Int) : List Int := drawF key 0 (N.idxOf x + 1) 32
theorem Blind_sp (bv : Nat) (key : List Int) (bn bu bt : Nat) (N : List (List Int)) (v : Value) (nm : List Int) (hk : Bytes key) (hk32 : key.length = 32) (hN : Names N) (hNl : N.length < 900000) (hx : Bytes nm) (hxl : 1 ≤ nm.length ∧ nm.length ≤ 64) (h : View) (hv : Vb h bv true key bn bu bt) (hs : Bs8 h v nm) (w : World) (s : St ⟨w, h, doms [nmR bn N]⟩ h [nmR bn N] w) :
    Calls Tryz.prog 37 [.pointer (some ⟨bv, 0, none⟩), v].toArray w fun e w' => ∃ _ : Unit, e = .returned (.tuple #[.agg (bcs (blindF key N nm)).toArray, .int .i64 0]) ∧ St ⟨w, h, doms [nmR bn N]⟩ h [nmR bn (addN N nm)] w' ∧ True := by
  obtain ⟨_, ad, cap, rfl, hcap, _⟩ := id hs
  refine calls_enter Tryz.func37 rfl Tryz.ntmps37 rfl s ?_
  repeat' (first|(refine ycf ?_;apply ybk;(·first|(first|exact tk_|(apply qv_eql_pnil<;>rfl)|(apply qv_nilCheck;rfl))|(apply yae;(·rfl);(·(first|exact hv.at hk32 (.inl ⟨rfl, rfl⟩)|exact hv.at hk32 (.inr (.inl ⟨rfl, rfl⟩))))));(·rfl);(·rfl))|refine t1_ ?_|(refine ta_ ?_;intro _)|((fail_if_success (refine ybi rfl ?_));refine ybj rfl ?_ ?_<;>(intro ht;rw [ht];first|replace ht := oet_ ht|replace ht := oef_ ht|skip))|(refine ych ?_;first|(refine ybw rfl ?_ ?_<;>intro ht)|(refine ybx rfl ?_ ?_<;>intro ht)))
  rename_i b4
  have hget := nmL_get hN hx
  by_cases hm : nm ∈ N
  · have hil : N.idxOf nm < N.length := List.idxOf_lt_length_of_mem hm
    rw [if_pos hm] at hget
    have hg1 : (mget (nmL N) (bstr nm)).getD (.int .i64 0) = .int .i64 ((N.idxOf nm + 1 : Nat) : Int) := by rw [hget]; rfl
    have hg2 : (mget (nmL N) (bstr nm)).isSome = true := by rw [hget]; rfl
    refine cx_region_draw' rfl (by kernel_rfl) ?_
    repeat' (refine ycf ?_;(first|(first|(apply ybm;(·(first|(first|exact tk_|(apply qv_nilCheck;rfl)|(refine qv_str_bs rfl hs)|(refine qv_lookup_ok 1 string_kl rfl rfl rfl hg1 hg2))|(apply yae;(·rfl);(·(first|exact hv.at hk32 (.inl ⟨rfl, rfl⟩)|exact hv.at hk32 (.inr (.inl ⟨rfl, rfl⟩)))))|exact tq_));(·rfl);(·rfl);(·(exact th_)))|refine ybl rfl rfl ?_|((fail_if_success (refine ybi rfl ?_));refine ybj rfl ?_ ?_<;>(intro ht;rw [ht];first|replace ht := oet_ ht|replace ht := oef_ ht|skip))|(refine tb_ ?_ ?_ ?_;(·(exact to_));(·intro _;(exact to_));intro _)|(first|(refine tqs_ ?_ ?_ ?_;(·(exact to_));(·(exact to_))))|(apply ybn;(·(first|(first|exact tk_|(apply qv_nilCheck;rfl)|(refine qv_str_bs rfl hs)|(refine qv_lookup_ok 1 string_kl rfl rfl rfl hg1 hg2))|(apply yae;(·rfl);(·(first|exact hv.at hk32 (.inl ⟨rfl, rfl⟩)|exact hv.at hk32 (.inr (.inl ⟨rfl, rfl⟩)))))|exact tq_));(·rfl);(·rfl);(·rfl);(·(exact to_))))|refine ycg ?_))
    have ha : addN N nm = N := if_pos hm
    rw [ha]
    repeat' (first|(refine ycf ?_;apply ybk;(·first|(exact tk_)|(apply yae;(·rfl);(·(first|exact hv.at hk32 (.inl ⟨rfl, rfl⟩)|exact hv.at hk32 (.inr (.inl ⟨rfl, rfl⟩))))));(·rfl);(·rfl))|refine t1_ ?_|(refine ta_ ?_;intro _)|((fail_if_success (refine ybi rfl ?_));refine ybj rfl ?_ ?_<;>(intro ht;rw [ht];first|replace ht := oet_ ht|replace ht := oef_ ht|skip))|(refine ych ?_;first|(refine ybw rfl ?_ ?_<;>intro ht)|(refine ybx rfl ?_ ?_<;>intro ht)))
    (refine yco (ycp Tryz.func55 rfl (by kernel_rfl) rfl) (draw_sp bv true key bn bu bt 0 (N.idxOf nm + 1) 32 hk hk32 (by omega) (by omega) (by omega) h hv) rfl rfl rfl ?_ ?_ ?_; (· (exact to_)); (· intro _ _ hle; (exact to_)); intro x px hle)
    have hdl := drawF_len key 0 (N.idxOf nm + 1) 32 (by omega)
    have hol : (bcs (drawF key 0 (N.idxOf nm + 1) 32)).length = 32 := by rw [bcs_len, hdl]
    unfold blindF
    generalize drawF key 0 (N.idxOf nm + 1) 32 = out at hdl hol ⊢
    refine rx_rowform 0 rfl (fun _ h1 _ => (by omega)) ?_
    rintro g6 cap6 rfl
    repeat' (first|(refine ycf ?_;apply ybk;(·first|(first|(refine qv_arrptr rfl (by omega))|(apply yad;(·rfl);(·exact row_cells 0 rfl);(·exact hol)))|(apply yae;(·rfl);(·(first|exact hv.at hk32 (.inl ⟨rfl, rfl⟩)|exact hv.at hk32 (.inr (.inl ⟨rfl, rfl⟩))))));(·rfl);(·rfl))|(refine ybg 1 rfl rfl rfl (by show (bcs out).toArray.size = 32;simpa using hol) (by show 0 + (bcs out).toArray.size ≤ _;rw [List.size_toArray, hol];exact nble rfl) (List.all_eq_true.2 (bcs_one out)) (ybh (by show (bcs out).length = _;rw [hol];rfl)) rfl rfl ?_ ?_ ?_;(·(exact to_));(·(exact to_)))|refine t1_ ?_|(refine ta_ ?_;intro _)|((fail_if_success (refine ybi rfl ?_));refine ybj rfl ?_ ?_<;>(intro ht;rw [ht];first|replace ht := oet_ ht|replace ht := oef_ ht|skip))|(refine ych ?_;first|(refine ybw rfl ?_ ?_<;>intro ht)|(refine ybx rfl ?_ ?_<;>intro ht)))
    exact nx_ret2 rfl (rv_cells rfl (yaz 1 rfl) (by show (bcs out).toArray.toList.length = 32; simpa using hol)) (rv_tmp rfl) (fun w' s' => ⟨(), rfl, s'.tl.tl, trivial⟩)
  · have hget0 := hget
    rw [if_neg hm] at hget
    have hix : N.idxOf nm = N.length := List.idxOf_eq_length hm
    have hg1 : (mget (nmL N) (bstr nm)).getD (.int .i64 0) = .int .i64 0 := by rw [hget]; rfl
    have hg2 : (mget (nmL N) (bstr nm)).isSome = false := by rw [hget]; rfl
    have wl : IntKind.i64.wrap (((nmL N).length : Nat) + 1 : Int) = ((N.length + 1 : Nat) : Int) := by rw [nmL_len, IntKind.wrap_i64]<;>omega
    refine cx_region_draw' rfl (by kernel_rfl) ?_
    repeat' (refine ycf ?_;(first|(first|(apply ybm;(·(first|(first|exact tk_|(apply qv_nilCheck;rfl)|(refine qv_str_bs rfl hs)|(refine qv_lookup_ok 1 string_kl rfl rfl rfl hg1 hg2)|(refine qv_len_map 1 rfl rfl)|(refine qv_addr rfl rfl wl))|(apply yae;(·rfl);(·(first|exact hv.at hk32 (.inl ⟨rfl, rfl⟩)|exact hv.at hk32 (.inr (.inl ⟨rfl, rfl⟩)))))|exact tq_));(·rfl);(·rfl);(·(exact th_)))|refine ybl rfl rfl ?_|((fail_if_success (refine ybi rfl ?_));refine ybj rfl ?_ ?_<;>(intro ht;rw [ht];first|replace ht := oet_ ht|replace ht := oef_ ht|skip))|(refine tb_ ?_ ?_ ?_;(·(exact to_));(·intro _;(exact to_));intro _)|(first|(refine tqs_ ?_ ?_ ?_;(·(exact to_));(·(exact to_))))|(apply ybn;(·(first|(first|exact tk_|(apply qv_nilCheck;rfl)|(refine qv_str_bs rfl hs)|(refine qv_lookup_ok 1 string_kl rfl rfl rfl hg1 hg2)|(refine qv_len_map 1 rfl rfl)|(refine qv_addr rfl rfl wl))|(apply yae;(·rfl);(·(first|exact hv.at hk32 (.inl ⟨rfl, rfl⟩)|exact hv.at hk32 (.inr (.inl ⟨rfl, rfl⟩)))))|exact tq_));(·rfl);(·rfl);(·rfl);(·(exact to_))))|refine ycg ?_))
    repeat' (first|(refine ycf ?_;apply ybk;(·first|(first|exact tk_|(apply qv_nilCheck;rfl)|(refine qv_str_bs rfl hs)|(refine qv_lookup_ok 1 string_kl rfl rfl rfl hg1 hg2)|(refine qv_len_map 1 rfl rfl)|(refine qv_addr rfl rfl wl))|(apply yae;(·rfl);(·(first|exact hv.at hk32 (.inl ⟨rfl, rfl⟩)|exact hv.at hk32 (.inr (.inl ⟨rfl, rfl⟩))))));(·rfl);(·rfl))|refine t1_ ?_|(refine ta_ ?_;intro _)|((fail_if_success (refine ybi rfl ?_));refine ybj rfl ?_ ?_<;>(intro ht;rw [ht];first|replace ht := oet_ ht|replace ht := oef_ ht|skip))|(refine ych ?_;first|(refine ybw rfl ?_ ?_<;>intro ht)|(refine ybx rfl ?_ ?_<;>intro ht)))
    refine cx_region_draw' rfl (by kernel_rfl) ?_
    repeat' (refine ycf ?_;(first|(first|(apply ybm;(·(first|(first|exact tk_|(apply qv_nilCheck;rfl)|(refine qv_str_bs rfl hs)|(refine qv_lookup_ok 1 string_kl rfl rfl rfl hg1 hg2)|(refine qv_len_map 1 rfl rfl)|(refine qv_addr rfl rfl wl))|(apply yae;(·rfl);(·(first|exact hv.at hk32 (.inl ⟨rfl, rfl⟩)|exact hv.at hk32 (.inr (.inl ⟨rfl, rfl⟩)))))|exact tq_));(·rfl);(·rfl);(·(exact th_)))|refine ybl rfl rfl ?_|((fail_if_success (refine ybi rfl ?_));refine ybj rfl ?_ ?_<;>(intro ht;rw [ht];first|replace ht := oet_ ht|replace ht := oef_ ht|skip))|(refine tb_ ?_ ?_ ?_;(·(exact to_));(·intro _;(exact to_));intro _)|(first|(refine tqs_ ?_ ?_ ?_;(·(exact to_));(·(exact to_))))|(apply ybn;(·(first|(first|exact tk_|(apply qv_nilCheck;rfl)|(refine qv_str_bs rfl hs)|(refine qv_lookup_ok 1 string_kl rfl rfl rfl hg1 hg2)|(refine qv_len_map 1 rfl rfl)|(refine qv_addr rfl rfl wl))|(apply yae;(·rfl);(·(first|exact hv.at hk32 (.inl ⟨rfl, rfl⟩)|exact hv.at hk32 (.inr (.inl ⟨rfl, rfl⟩)))))|exact tq_));(·rfl);(·rfl);(·rfl);(·(exact to_))))|refine ycg ?_))
    refine rx_mapUpdate 1 string_kl rfl rfl rfl rfl rfl rfl ?_ ?_ ?_
    · (exact to_)
    · exact .inr (by kernel_rfl)
    have hmp : mput (nmL N) (bstr nm) (.int .i64 ((N.length + 1 : Nat) : Int)) = nmL (addN N nm) := nmL_add hN hx hm
    rw [hmp]
    generalize hN2 : addN N nm = N2
    show RX _ _ _ _ _ _ _ [_, nmR bn N2] _
    repeat' (refine ycf ?_;(first|(first|(apply ybm;(·(first|(first|exact tk_|(apply qv_nilCheck;rfl)|(refine qv_str_bs rfl hs)|(refine qv_lookup_ok 1 string_kl rfl rfl rfl hg1 hg2)|(refine qv_len_map 1 rfl rfl)|(refine qv_addr rfl rfl wl))|(apply yae;(·rfl);(·(first|exact hv.at hk32 (.inl ⟨rfl, rfl⟩)|exact hv.at hk32 (.inr (.inl ⟨rfl, rfl⟩)))))|exact tq_));(·rfl);(·rfl);(·(exact th_)))|refine ybl rfl rfl ?_|((fail_if_success (refine ybi rfl ?_));refine ybj rfl ?_ ?_<;>(intro ht;rw [ht];first|replace ht := oet_ ht|replace ht := oef_ ht|skip))|(refine tb_ ?_ ?_ ?_;(·(exact to_));(·intro _;(exact to_));intro _)|(first|(refine tqs_ ?_ ?_ ?_;(·(exact to_));(·(exact to_))))|(apply ybn;(·(first|(first|exact tk_|(apply qv_nilCheck;rfl)|(refine qv_str_bs rfl hs)|(refine qv_lookup_ok 1 string_kl rfl rfl rfl hg1 hg2)|(refine qv_len_map 1 rfl rfl)|(refine qv_addr rfl rfl wl))|(apply yae;(·rfl);(·(first|exact hv.at hk32 (.inl ⟨rfl, rfl⟩)|exact hv.at hk32 (.inr (.inl ⟨rfl, rfl⟩)))))|exact tq_));(·rfl);(·rfl);(·rfl);(·(exact to_))))|refine ycg ?_))
    repeat' (first|(refine ycf ?_;apply ybk;(·first|(exact tk_)|(apply yae;(·rfl);(·(first|exact hv.at hk32 (.inl ⟨rfl, rfl⟩)|exact hv.at hk32 (.inr (.inl ⟨rfl, rfl⟩))))));(·rfl);(·rfl))|refine t1_ ?_|(refine ta_ ?_;intro _)|((fail_if_success (refine ybi rfl ?_));refine ybj rfl ?_ ?_<;>(intro ht;rw [ht];first|replace ht := oet_ ht|replace ht := oef_ ht|skip))|(refine ych ?_;first|(refine ybw rfl ?_ ?_<;>intro ht)|(refine ybx rfl ?_ ?_<;>intro ht)))
    (refine yco (ycp Tryz.func55 rfl (by kernel_rfl) rfl) (draw_sp bv true key bn bu bt 0 (N.length + 1) 32 hk hk32 (by omega) (by omega) (by omega) h hv) rfl rfl rfl ?_ ?_ ?_; (· (exact to_)); (· intro _ _ hle; (exact to_)); intro x px hle)
    have hdl := drawF_len key 0 (N.length + 1) 32 (by omega)
    have hol : (bcs (drawF key 0 (N.length + 1) 32)).length = 32 := by rw [bcs_len, hdl]
    unfold blindF
    rw [hix]
    generalize drawF key 0 (N.length + 1) 32 = out at hdl hol ⊢
    refine rx_rowform 0 rfl (fun _ h1 _ => (by omega)) ?_
    rintro g6 cap6 rfl
    repeat' (first|(refine ycf ?_;apply ybk;(·first|(first|(refine qv_arrptr rfl (by omega))|(apply yad;(·rfl);(·exact row_cells 0 rfl);(·exact hol)))|(apply yae;(·rfl);(·(first|exact hv.at hk32 (.inl ⟨rfl, rfl⟩)|exact hv.at hk32 (.inr (.inl ⟨rfl, rfl⟩))))));(·rfl);(·rfl))|(refine ybg 1 rfl rfl rfl (by show (bcs out).toArray.size = 32;simpa using hol) (by show 0 + (bcs out).toArray.size ≤ _;rw [List.size_toArray, hol];exact nble rfl) (List.all_eq_true.2 (bcs_one out)) (ybh (by show (bcs out).length = _;rw [hol];rfl)) rfl rfl ?_ ?_ ?_;(·(exact to_));(·(exact to_)))|refine t1_ ?_|(refine ta_ ?_;intro _)|((fail_if_success (refine ybi rfl ?_));refine ybj rfl ?_ ?_<;>(intro ht;rw [ht];first|replace ht := oet_ ht|replace ht := oef_ ht|skip))|(refine ych ?_;first|(refine ybw rfl ?_ ?_<;>intro ht)|(refine ybx rfl ?_ ?_<;>intro ht)))
    exact nx_ret2 rfl (rv_cells rfl (yaz 1 rfl) (by show (bcs out).toArray.toList.length = 32; simpa using hol)) (rv_tmp rfl) (fun w' s' => ⟨(), rfl, s'.tl.tl, trivial⟩)
end Go.Proofs.YtaofgcahmfailaaGreatDoor
end

section
namespace Go.Proofs.YtaofgcahmfailaaGreatDoor
open Go Go.Ck
set_option maxHeartbeats 4000000
abbrev useV : UseK → Value := fun a => Value.agg (useA a)
abbrev seaV : SeaK → Value := fun a => Value.agg (seaA a)
def usL (U : List UseK) : List (UseK × Value) := U.map fun x => (x, .bool true)
abbrev usR (bu : Nat) (U : List UseK) : Res := Res.mp useV bu (usL U)
abbrev Tab := List (SeaK × Value × List Int)
def tbL (T : Tab) : List (SeaK × Value) := T.map fun x => (x.1, x.2.1)
abbrev tbR (bt : Nat) (T : Tab) : Res := Res.mp seaV bt (tbL T)
theorem usL_get (U : List UseK) (a : UseK) : mget (usL U) a = if a ∈ U then some (.bool true) else none := by
  induction U with
  | nil => rfl
  | cons y U ih =>
    show (if a = y then some (Value.bool true) else mget (usL U) a) = _
    by_cases h : a = y
    · rw [if_pos h, if_pos (by rw [h]; exact List.mem_cons_self ..)]
    · rw [if_neg h, ih]
      have : (a ∈ y :: U) ↔ a ∈ U := by simp [h]
      simp only [this]
theorem usL_put {U : List UseK} {a : UseK} (h : a ∉ U) : mput (usL U) a (.bool true) = usL (U ++ [a]) := by
  rw [mput_new (by rw [usL_get, if_neg h])]
  simp [usL]
theorem usL_len (U : List UseK) : (usL U).length = U.length := by simp [usL]
def Held (U : List UseK) (T : Tab) : Prop := ∀ x ∈ T, (x.1.1, x.1.2.1) ∈ U
def TbOk (h : View) (T : Tab) : Prop := ∀ x ∈ T, Bs8 h x.2.1 x.2.2
theorem TbOk.mono {h h' : View} {T : Tab} (s : TbOk h T) (hl : Le h h') : TbOk h' T := fun x hx => (s x hx).mono hl
theorem tbL_new {U : List UseK} {T : Tab} (hh : Held U T) {k : SeaK} (hk : (k.1, k.2.1) ∉ U) : mget (tbL T) k = none := by
  rw [mget_none]
  intro x hx e
  obtain ⟨y, hy, rfl⟩ := List.mem_map.1 hx
  have e : y.1 = k := e
  exact hk (e ▸ hh y hy)
theorem tbL_put {U : List UseK} {T : Tab} (hh : Held U T) {k : SeaK} (hk : (k.1, k.2.1) ∉ U) (v : Value) (b : List Int) : mput (tbL T) k v = tbL (T ++ [(k, v, b)]) := by
  rw [mput_new (tbL_new hh hk)]
  simp [tbL]
theorem Held.add {U : List UseK} {T : Tab} (hh : Held U T) (k : SeaK) (v : Value) (b : List Int) : Held (U ++ [(k.1, k.2.1)]) (T ++ [(k, v, b)]) := fun x hx => by
  rcases List.mem_append.1 hx with hx | hx
  · exact List.mem_append_left _ (hh x hx)
  · rw [List.mem_singleton.1 hx]
    exact List.mem_append_right _ (List.mem_singleton.2 rfl)
def sealF (key : List Int) (U : List UseK) (b : List Int) : List Int := drawF key 1 (U.length + 1) (b.length + 16)
theorem VSeal_sp (bv : Nat) (key : List Int) (bn bu bt : Nat) (U : List UseK) (T : Tab) (ep c n : Int) (vw vb : Value) (wi b : List Int) (hk : Bytes key) (hk32 : key.length = 32) (hU : U.length < 900000) (hT : Held U T) (hok : sealOk ep c n) (hnew : (c, n) ∉ U) (hbl : b.length ≤ 5000)
    (h : View) (hv : Vb h bv true key bn bu bt) (hw : Bs8 h vw wi) (hb : Bs8 h vb b) (w : World) (s : St ⟨w, h, doms [usR bu U, tbR bt T]⟩ h [usR bu U, tbR bt T] w) :
    Calls Tryz.prog 41 [.pointer (some ⟨bv, 0, none⟩), .int .i64 ep, .int .i64 c, .int .i64 n, vw, vb].toArray w fun e w' => ∃ x : View × Value × Value, e = .returned (.tuple #[x.2.1, .int .i64 0]) ∧
      St ⟨w, h, doms [usR bu U, tbR bt T]⟩ x.1 [rowB x.2.1 (sealF key U b), usR bu (U ++ [(c, n)]), tbR bt (T ++ [((c, n, ep, bstr wi, bstr (sealF key U b)), x.2.2, b)])] w' ∧ Bs8 x.1 x.2.2 b := by
  obtain ⟨_, adw, capw, rfl, hcapw, _⟩ := id hw
  obtain ⟨_, adb, capb, rfl, hcapb, _⟩ := id hb
  have R1 := vright_sp ep c n h
  rw [if_pos hok] at R1
  refine calls_enter Tryz.func41 rfl Tryz.ntmps41 rfl s ?_
  repeat' (first|(refine ycf ?_;apply ybk;(·first|(first|exact tk_|(apply qv_eql_pnil<;>rfl)|(apply qv_nilCheck;rfl))|(apply yae;(·rfl);(·(first|exact hv.at hk32 (.inl ⟨rfl, rfl⟩)|exact hv.at hk32 (.inr (.inr (.inl ⟨rfl, rfl⟩)))|exact hv.at hk32 (.inr (.inr (.inr ⟨rfl, rfl⟩)))))));(·rfl);(·rfl))|refine t1_ ?_|(refine ta_ ?_;intro _)|((fail_if_success (refine ybi rfl ?_));refine ybj rfl ?_ ?_<;>(intro ht;rw [ht];first|replace ht := oet_ ht|replace ht := oef_ ht|skip))|(refine ych ?_;first|(refine ybw rfl ?_ ?_<;>intro ht)|(refine ybx rfl ?_ ?_<;>intro ht)))
  (refine ycn (ycp Tryz.func58 rfl (by kernel_rfl) rfl) (R1) rfl rfl rfl ?_ ?_; (· (exact to_)))
  repeat' (first|(refine ycf ?_;apply ybk;(·first|(first|exact tk_|(apply qv_eql_pnil<;>rfl)|(apply qv_nilCheck;rfl))|(apply yae;(·rfl);(·(first|exact hv.at hk32 (.inl ⟨rfl, rfl⟩)|exact hv.at hk32 (.inr (.inr (.inl ⟨rfl, rfl⟩)))|exact hv.at hk32 (.inr (.inr (.inr ⟨rfl, rfl⟩)))))));(·rfl);(·rfl))|refine t1_ ?_|(refine ta_ ?_;intro _)|((fail_if_success (refine ybi rfl ?_));refine ybj rfl ?_ ?_<;>(intro ht;rw [ht];first|replace ht := oet_ ht|replace ht := oef_ ht|skip))|(refine ych ?_;first|(refine ybw rfl ?_ ?_<;>intro ht)|(refine ybx rfl ?_ ?_<;>intro ht)))
  have hu0 : (mget (usL U) ((c, n) : UseK)).getD (.bool false) = .bool false := by rw [usL_get, if_neg hnew]; rfl
  refine cx_region_draw' rfl (by kernel_rfl) ?_
  repeat' (refine ycf ?_;(first|(first|(apply ybm;(·(first|(first|exact tk_|(apply qv_nilCheck;rfl)|(refine qv_lookup (a := ((c, n) : UseK)) 1 use_kl rfl rfl rfl hu0))|(apply yae;(·rfl);(·(first|exact hv.at hk32 (.inl ⟨rfl, rfl⟩)|exact hv.at hk32 (.inr (.inr (.inl ⟨rfl, rfl⟩)))|exact hv.at hk32 (.inr (.inr (.inr ⟨rfl, rfl⟩))))))|exact tq_));(·rfl);(·rfl);(·(exact th_)))|refine ybl rfl rfl ?_|((fail_if_success (refine ybi rfl ?_));refine ybj rfl ?_ ?_<;>(intro ht;rw [ht];first|replace ht := oet_ ht|replace ht := oef_ ht|skip))|(refine tb_ ?_ ?_ ?_;(·(exact to_));(·intro _;(exact to_));intro _)|(first|(refine tqs_ ?_ ?_ ?_;(·(exact to_));(·(exact to_))))|(apply ybn;(·(first|(first|exact tk_|(apply qv_nilCheck;rfl)|(refine qv_lookup (a := ((c, n) : UseK)) 1 use_kl rfl rfl rfl hu0))|(apply yae;(·rfl);(·(first|exact hv.at hk32 (.inl ⟨rfl, rfl⟩)|exact hv.at hk32 (.inr (.inr (.inl ⟨rfl, rfl⟩)))|exact hv.at hk32 (.inr (.inr (.inr ⟨rfl, rfl⟩))))))|exact tq_));(·rfl);(·rfl);(·rfl);(·(exact to_))))|refine ycg ?_))
  repeat' (first|(refine ycf ?_;apply ybk;(·first|(first|exact tk_|(apply qv_nilCheck;rfl))|(apply yae;(·rfl);(·(first|exact hv.at hk32 (.inl ⟨rfl, rfl⟩)|exact hv.at hk32 (.inr (.inr (.inl ⟨rfl, rfl⟩)))|exact hv.at hk32 (.inr (.inr (.inr ⟨rfl, rfl⟩)))))));(·rfl);(·rfl))|refine t1_ ?_|(refine ta_ ?_;intro _)|((fail_if_success (refine ybi rfl ?_));refine ybj rfl ?_ ?_<;>(intro ht;rw [ht];first|replace ht := oet_ ht|replace ht := oef_ ht|skip))|(refine ych ?_;first|(refine ybw rfl ?_ ?_<;>intro ht)|(refine ybx rfl ?_ ?_<;>intro ht)))
  refine cx_region_draw' rfl (by kernel_rfl) ?_
  repeat' (refine ycf ?_;(first|(first|(apply ybm;(·(first|(first|exact tk_|(apply qv_nilCheck;rfl))|(apply yae;(·rfl);(·(first|exact hv.at hk32 (.inl ⟨rfl, rfl⟩)|exact hv.at hk32 (.inr (.inr (.inl ⟨rfl, rfl⟩)))|exact hv.at hk32 (.inr (.inr (.inr ⟨rfl, rfl⟩))))))|exact tq_));(·rfl);(·rfl);(·(exact th_)))|refine ybl rfl rfl ?_|((fail_if_success (refine ybi rfl ?_));refine ybj rfl ?_ ?_<;>(intro ht;rw [ht];first|replace ht := oet_ ht|replace ht := oef_ ht|skip))|(refine tb_ ?_ ?_ ?_;(·(exact to_));(·intro _;(exact to_));intro _)|(first|(refine tqs_ ?_ ?_ ?_;(·(exact to_));(·(exact to_))))|(apply ybn;(·(first|(first|exact tk_|(apply qv_nilCheck;rfl))|(apply yae;(·rfl);(·(first|exact hv.at hk32 (.inl ⟨rfl, rfl⟩)|exact hv.at hk32 (.inr (.inr (.inl ⟨rfl, rfl⟩)))|exact hv.at hk32 (.inr (.inr (.inr ⟨rfl, rfl⟩))))))|exact tq_));(·rfl);(·rfl);(·rfl);(·(exact to_))))|refine ycg ?_))
  refine rx_mapUpdate (a := ((c, n) : UseK)) 1 use_kl rfl rfl rfl rfl rfl rfl ?_ ?_ ?_
  · (exact to_)
  · exact .inr (by kernel_rfl)
  rw [usL_put hnew]
  have hU2 : (usL (U ++ [((c, n) : UseK)])).length = U.length + 1 := by rw [usL_len, List.length_append]; rfl
  have hkey : sealF key U b = drawF key 1 (usL (U ++ [((c, n) : UseK)])).length (b.length + 16) := by rw [hU2]; rfl
  have hlen1 : (usL (U ++ [((c, n) : UseK)])).length < 1000000 := by omega
  generalize hU3 : U ++ [((c, n) : UseK)] = U2 at hkey hlen1 hU2 ⊢
  repeat' (refine ycf ?_;(first|(first|(apply ybm;(·(first|(first|exact tk_|(apply qv_nilCheck;rfl))|(apply yae;(·rfl);(·(first|exact hv.at hk32 (.inl ⟨rfl, rfl⟩)|exact hv.at hk32 (.inr (.inr (.inl ⟨rfl, rfl⟩)))|exact hv.at hk32 (.inr (.inr (.inr ⟨rfl, rfl⟩))))))|exact tq_));(·rfl);(·rfl);(·(exact th_)))|refine ybl rfl rfl ?_|((fail_if_success (refine ybi rfl ?_));refine ybj rfl ?_ ?_<;>(intro ht;rw [ht];first|replace ht := oet_ ht|replace ht := oef_ ht|skip))|(refine tb_ ?_ ?_ ?_;(·(exact to_));(·intro _;(exact to_));intro _)|(first|(refine tqs_ ?_ ?_ ?_;(·(exact to_));(·(exact to_))))|(apply ybn;(·(first|(first|exact tk_|(apply qv_nilCheck;rfl))|(apply yae;(·rfl);(·(first|exact hv.at hk32 (.inl ⟨rfl, rfl⟩)|exact hv.at hk32 (.inr (.inr (.inl ⟨rfl, rfl⟩)))|exact hv.at hk32 (.inr (.inr (.inr ⟨rfl, rfl⟩))))))|exact tq_));(·rfl);(·rfl);(·rfl);(·(exact to_))))|refine ycg ?_))
  have wl : IntKind.i64.wrap ((b.length : Nat) + 16 : Int) = ((b.length + 16 : Nat) : Int) := by rw [IntKind.wrap_i64]<;>omega
  repeat' (first|(refine ycf ?_;apply ybk;(·first|(first|exact tk_|(apply qv_nilCheck;rfl)|(refine qv_len_map 1 rfl rfl)|(refine qv_addr rfl rfl wl))|(apply yae;(·rfl);(·(first|exact hv.at hk32 (.inl ⟨rfl, rfl⟩)|exact hv.at hk32 (.inr (.inr (.inl ⟨rfl, rfl⟩)))|exact hv.at hk32 (.inr (.inr (.inr ⟨rfl, rfl⟩)))))));(·rfl);(·rfl))|refine t1_ ?_|(refine ta_ ?_;intro _)|((fail_if_success (refine ybi rfl ?_));refine ybj rfl ?_ ?_<;>(intro ht;rw [ht];first|replace ht := oet_ ht|replace ht := oef_ ht|skip))|(refine ych ?_;first|(refine ybw rfl ?_ ?_<;>intro ht)|(refine ybx rfl ?_ ?_<;>intro ht)))
  (refine yco (ycp Tryz.func55 rfl (by kernel_rfl) rfl) (draw_sp bv true key bn bu bt 1 (usL U2).length (b.length + 16) hk hk32 (by omega) hlen1 (by omega) h hv) rfl rfl rfl ?_ ?_ ?_; (· (exact to_)); (· intro _ _ hle; (exact to_)); intro x px hle)
  rw [← hkey]
  have hol : (sealF key U b).length = b.length + 16 := drawF_len _ _ _ _ (by omega)
  generalize sealF key U b = out at hkey hol ⊢
  refine rx_rowform 0 rfl (fun _ h1 _ => (by omega)) ?_
  rintro go capo rfl
  clear px hle
  repeat' (first|(refine ycf ?_;apply ybk;(·first|(first|exact tk_|(apply qv_nilCheck;rfl)|(refine qv_str_bs rfl hw)|(refine qv_str_of (l := out) rfl (row_cells 0 rfl)))|(apply yae;(·rfl);(·(first|exact hv.at hk32 (.inl ⟨rfl, rfl⟩)|exact hv.at hk32 (.inr (.inr (.inl ⟨rfl, rfl⟩)))|exact hv.at hk32 (.inr (.inr (.inr ⟨rfl, rfl⟩)))))));(·rfl);(·rfl))|refine t1_ ?_|(refine ta_ ?_;intro _)|((fail_if_success (refine ybi rfl ?_));refine ybj rfl ?_ ?_<;>(intro ht;rw [ht];first|replace ht := oet_ ht|replace ht := oef_ ht|skip))|(refine ych ?_;first|(refine ybw rfl ?_ ?_<;>intro ht)|(refine ybx rfl ?_ ?_<;>intro ht)))
  refine cx_region_drawY [12, 13] rfl (by kernel_rfl) ?_
  repeat' (refine ycf ?_;(first|(first|(apply ybm;(·(first|(first|exact tk_|(apply qv_nilCheck;rfl)|(refine qv_str_bs rfl hw)|(refine qv_str_of (l := out) rfl (row_cells 0 rfl)))|(apply yae;(·rfl);(·(first|exact hv.at hk32 (.inl ⟨rfl, rfl⟩)|exact hv.at hk32 (.inr (.inr (.inl ⟨rfl, rfl⟩)))|exact hv.at hk32 (.inr (.inr (.inr ⟨rfl, rfl⟩))))))|exact tq_));(·rfl);(·rfl);(·(exact th_)))|refine ybl rfl rfl ?_|((fail_if_success (refine ybi rfl ?_));refine ybj rfl ?_ ?_<;>(intro ht;rw [ht];first|replace ht := oet_ ht|replace ht := oef_ ht|skip))|(refine tb_ ?_ ?_ ?_;(·(exact to_));(·intro _;(exact to_));intro _)|(first|(refine tqs_ ?_ ?_ ?_;(·(exact to_));(·(exact to_))))|(apply ybn;(·(first|(first|exact tk_|(apply qv_nilCheck;rfl)|(refine qv_str_bs rfl hw)|(refine qv_str_of (l := out) rfl (row_cells 0 rfl)))|(apply yae;(·rfl);(·(first|exact hv.at hk32 (.inl ⟨rfl, rfl⟩)|exact hv.at hk32 (.inr (.inr (.inl ⟨rfl, rfl⟩)))|exact hv.at hk32 (.inr (.inr (.inr ⟨rfl, rfl⟩))))))|exact tq_));(·rfl);(·rfl);(·rfl);(·(exact to_))))|refine ycg ?_))
  (refine yco (ycp Tryz.func57 rfl (by kernel_rfl) rfl) (BClone_sp _ b h hb (by omega)) rfl rfl rfl ?_ ?_ ?_; (· (exact to_)); (· intro _ _ hle; (exact to_)); intro x px hle)
  refine rx_persistA (by intro z hz; simp only [doms, List.flatMap_cons, List.flatMap_nil, List.mem_append, Res.mp, List.mem_singleton] at hz ⊢; simp; rcases hz with hz | hz; (· simp_all); (· simp_all)) fun h1 hle1 hv1 => ?_
  refine rx_mapUpdate (a := ((c, n, ep, bstr wi, bstr out) : SeaK)) 3 sea_kl rfl rfl rfl rfl rfl rfl ?_ ?_ ?_
  · exact .inl (fun _ s => Hd.sub s hle1 (fun r hr => hr))
  · exact .inr (by kernel_rfl)
  have hput : mput (tbL T) ((c, n, ep, bstr wi, bstr out) : SeaK) x = tbL (T ++ [((c, n, ep, bstr wi, bstr out), x, b)]) := tbL_put hT hnew x b
  rw [hput]
  repeat' (refine ycf ?_;(first|(first|(apply ybm;(·(first|(exact tk_)|exact tq_));(·rfl);(·rfl);(·(exact th_)))|refine ybl rfl rfl ?_|((fail_if_success (refine ybi rfl ?_));refine ybj rfl ?_ ?_<;>(intro ht;rw [ht];first|replace ht := oet_ ht|replace ht := oef_ ht|skip))|(refine tb_ ?_ ?_ ?_;(·(exact to_));(·intro _;(exact to_));intro _)|(first|(refine tqs_ ?_ ?_ ?_;(·(exact to_));(·(exact to_))))|(apply ybn;(·(first|(exact tk_)|exact tq_));(·rfl);(·rfl);(·rfl);(·(exact to_))))|refine ycg ?_))
  repeat' (first|(refine ycf ?_;apply ybk;(·first|(exact tk_));(·rfl);(·rfl))|refine t1_ ?_|(refine ta_ ?_;intro _)|((fail_if_success (refine ybi rfl ?_));refine ybj rfl ?_ ?_<;>(intro ht;rw [ht];first|replace ht := oet_ ht|replace ht := oef_ ht|skip))|(refine ych ?_;first|(refine ybw rfl ?_ ?_<;>intro ht)|(refine ybx rfl ?_ ?_<;>intro ht)))
  refine nx_ret2 rfl (rv_tmp rfl) (rv_tmp rfl) (fun w' s' => ⟨(h1, _, x), rfl, ?_, hv1⟩)
  exact (s'.perm (perm_at (k := 1) rfl)).tl
end Go.Proofs.YtaofgcahmfailaaGreatDoor
end

section
namespace Go.Proofs.YtaofgcahmfailaaGreatDoor
open Go Go.Ck
set_option maxHeartbeats 4000000
theorem tbL_get (T : Tab) (k : SeaK) : mget (tbL T) k = (mget T k).map (·.1) := by
  induction T with
  | nil => rfl
  | cons y T ih =>
    show (if k = y.1 then some y.2.1 else mget (tbL T) k) = Option.map _ (if k = y.1 then some y.2 else mget T k)
    split
    · rfl
    · exact ih
theorem VOpen_some (bv : Nat) (key : List Int) (bn bu bt : Nat) (T : Tab) (ep c n : Int) (vw vs : Value) (wi se : List Int) (x : Value × List Int) (hk32 : key.length = 32) (hok : sealOk ep c n) (hsl : 16 ≤ se.length)
    (hx : mget T (c, n, ep, bstr wi, bstr se) = some x) (hxl : x.2.length ≤ 1000000) (h : View) (hT : TbOk h T) (hv : Vb h bv true key bn bu bt) (hw : Bs8 h vw wi) (hb : Bs8 h vs se) (w : World) (s : St ⟨w, h, doms [tbR bt T]⟩ h [tbR bt T] w) :
    Calls Tryz.prog 67 [.pointer (some ⟨bv, 0, none⟩), .int .i64 ep, .int .i64 c, .int .i64 n, vw, vs].toArray w fun e w' => ∃ v, e = .returned (.tuple #[v, .int .i64 0]) ∧ St ⟨w, h, doms [tbR bt T]⟩ h [rowB v x.2, tbR bt T] w' ∧ True := by
  obtain ⟨_, adw, capw, rfl, hcapw, _⟩ := id hw
  obtain ⟨_, ads, caps, rfl, hcaps, _⟩ := id hb
  have R1 := vright_sp ep c n h
  rw [if_pos hok] at R1
  have hxb : Bs8 h x.1 x.2 := hT _ (mget_mem hx)
  have hg : mget (tbL T) ((c, n, ep, bstr wi, bstr se) : SeaK) = some x.1 := by rw [tbL_get, hx]; rfl
  have hg1 : (mget (tbL T) ((c, n, ep, bstr wi, bstr se) : SeaK)).getD (.slice none 0 0) = x.1 := by rw [hg]; rfl
  have hg2 : (mget (tbL T) ((c, n, ep, bstr wi, bstr se) : SeaK)).isSome = true := by rw [hg]; rfl
  obtain ⟨xv, xb⟩ := x
  dsimp only at hxb hg1 hxl ⊢
  obtain ⟨_, adx, capx, rfl, hcapx, _⟩ := id hxb
  refine calls_enter Tryz.func67 rfl Tryz.ntmps67 rfl s ?_
  repeat' (first|(refine ycf ?_;apply ybk;(·first|(first|exact tk_|(apply qv_eql_pnil<;>rfl)|(apply qv_nilCheck;rfl))|(apply yae;(·rfl);(·(first|exact hv.at hk32 (.inl ⟨rfl, rfl⟩)|exact hv.at hk32 (.inr (.inr (.inr ⟨rfl, rfl⟩)))))));(·rfl);(·rfl))|refine t1_ ?_|(refine ta_ ?_;intro _)|((fail_if_success (refine ybi rfl ?_));refine ybj rfl ?_ ?_<;>(intro ht;rw [ht];first|replace ht := oet_ ht|replace ht := oef_ ht|skip))|(refine ych ?_;first|(refine ybw rfl ?_ ?_<;>intro ht)|(refine ybx rfl ?_ ?_<;>intro ht)))
  (refine ycn (ycp Tryz.func58 rfl (by kernel_rfl) rfl) (R1) rfl rfl rfl ?_ ?_; (· (exact to_)))
  repeat' (first|(refine ycf ?_;apply ybk;(·first|(first|exact tk_|(apply qv_eql_pnil<;>rfl)|(apply qv_nilCheck;rfl))|(apply yae;(·rfl);(·(first|exact hv.at hk32 (.inl ⟨rfl, rfl⟩)|exact hv.at hk32 (.inr (.inr (.inr ⟨rfl, rfl⟩)))))));(·rfl);(·rfl))|refine t1_ ?_|(refine ta_ ?_;intro _)|((fail_if_success (refine ybi rfl ?_));refine ybj rfl ?_ ?_<;>(intro ht;rw [ht];first|replace ht := oet_ ht|replace ht := oef_ ht|skip))|(refine ych ?_;first|(refine ybw rfl ?_ ?_<;>intro ht)|(refine ybx rfl ?_ ?_<;>intro ht)))
  refine cx_region_drawY [17, 18] rfl (by kernel_rfl) ?_
  repeat' (refine ycf ?_;(first|(first|(apply ybm;(·(first|(first|exact tk_|(apply qv_nilCheck;rfl)|(refine qv_str_bs rfl hw)|(refine qv_str_bs rfl hb)|(refine qv_lookup_ok (a := ((c, n, ep, bstr wi, bstr se) : SeaK)) 0 sea_kl rfl rfl rfl hg1 hg2))|(apply yae;(·rfl);(·(first|exact hv.at hk32 (.inl ⟨rfl, rfl⟩)|exact hv.at hk32 (.inr (.inr (.inr ⟨rfl, rfl⟩))))))|exact tq_));(·rfl);(·rfl);(·(exact th_)))|refine ybl rfl rfl ?_|((fail_if_success (refine ybi rfl ?_));refine ybj rfl ?_ ?_<;>(intro ht;rw [ht];first|replace ht := oet_ ht|replace ht := oef_ ht|skip))|(refine tb_ ?_ ?_ ?_;(·(exact to_));(·intro _;(exact to_));intro _)|(first|(refine tqs_ ?_ ?_ ?_;(·(exact to_));(·(exact to_))))|(apply ybn;(·(first|(first|exact tk_|(apply qv_nilCheck;rfl)|(refine qv_str_bs rfl hw)|(refine qv_str_bs rfl hb)|(refine qv_lookup_ok (a := ((c, n, ep, bstr wi, bstr se) : SeaK)) 0 sea_kl rfl rfl rfl hg1 hg2))|(apply yae;(·rfl);(·(first|exact hv.at hk32 (.inl ⟨rfl, rfl⟩)|exact hv.at hk32 (.inr (.inr (.inr ⟨rfl, rfl⟩))))))|exact tq_));(·rfl);(·rfl);(·rfl);(·(exact to_))))|refine ycg ?_))
  repeat' (first|(refine ycf ?_;apply ybk;(·first|(exact tk_));(·rfl);(·rfl))|refine t1_ ?_|(refine ta_ ?_;intro _)|((fail_if_success (refine ybi rfl ?_));refine ybj rfl ?_ ?_<;>(intro ht;rw [ht];first|replace ht := oet_ ht|replace ht := oef_ ht|skip))|(refine ych ?_;first|(refine ybw rfl ?_ ?_<;>intro ht)|(refine ybx rfl ?_ ?_<;>intro ht)))
  (refine yco (ycp Tryz.func57 rfl (by kernel_rfl) rfl) (BClone_sp _ xb h hxb (by omega)) rfl rfl rfl ?_ ?_ ?_; (· (exact to_)); (· intro _ _ hle; (exact to_)); intro x px hle)
  repeat' (first|(refine ycf ?_;apply ybk;(·first|(exact tk_));(·rfl);(·rfl))|refine t1_ ?_|(refine ta_ ?_;intro _)|((fail_if_success (refine ybi rfl ?_));refine ybj rfl ?_ ?_<;>(intro ht;rw [ht];first|replace ht := oet_ ht|replace ht := oef_ ht|skip))|(refine ych ?_;first|(refine ybw rfl ?_ ?_<;>intro ht)|(refine ybx rfl ?_ ?_<;>intro ht)))
  exact nx_ret2 rfl (rv_tmp rfl) (rv_tmp rfl) (fun w' s' => ⟨x, rfl, s', trivial⟩)
theorem VOpen_none (bv : Nat) (key : List Int) (bn bu bt : Nat) (T : Tab) (ep c n : Int) (vw vs : Value) (wi se : List Int) (hk32 : key.length = 32) (hok : sealOk ep c n) (hsl : 16 ≤ se.length)
    (hx : mget T (c, n, ep, bstr wi, bstr se) = none) (h : View) (hv : Vb h bv true key bn bu bt) (hw : Bs8 h vw wi) (hb : Bs8 h vs se) (w : World) (s : St ⟨w, h, doms [tbR bt T]⟩ h [tbR bt T] w) :
    Calls Tryz.prog 67 [.pointer (some ⟨bv, 0, none⟩), .int .i64 ep, .int .i64 c, .int .i64 n, vw, vs].toArray w fun e w' => ∃ _ : Unit, e = .returned (.tuple #[.slice none 0 0, .int .i64 6]) ∧ St ⟨w, h, doms [tbR bt T]⟩ h [tbR bt T] w' ∧ True := by
  obtain ⟨_, adw, capw, rfl, hcapw, _⟩ := id hw
  obtain ⟨_, ads, caps, rfl, hcaps, _⟩ := id hb
  have R1 := vright_sp ep c n h
  rw [if_pos hok] at R1
  have hg : mget (tbL T) ((c, n, ep, bstr wi, bstr se) : SeaK) = none := by rw [tbL_get, hx]; rfl
  have hg1 : (mget (tbL T) ((c, n, ep, bstr wi, bstr se) : SeaK)).getD (.slice none 0 0) = .slice none 0 0 := by rw [hg]; rfl
  have hg2 : (mget (tbL T) ((c, n, ep, bstr wi, bstr se) : SeaK)).isSome = false := by rw [hg]; rfl
  refine calls_enter Tryz.func67 rfl Tryz.ntmps67 rfl s ?_
  repeat' (first|(refine ycf ?_;apply ybk;(·first|(first|exact tk_|(apply qv_eql_pnil<;>rfl)|(apply qv_nilCheck;rfl))|(apply yae;(·rfl);(·(first|exact hv.at hk32 (.inl ⟨rfl, rfl⟩)|exact hv.at hk32 (.inr (.inr (.inr ⟨rfl, rfl⟩)))))));(·rfl);(·rfl))|refine t1_ ?_|(refine ta_ ?_;intro _)|((fail_if_success (refine ybi rfl ?_));refine ybj rfl ?_ ?_<;>(intro ht;rw [ht];first|replace ht := oet_ ht|replace ht := oef_ ht|skip))|(refine ych ?_;first|(refine ybw rfl ?_ ?_<;>intro ht)|(refine ybx rfl ?_ ?_<;>intro ht)))
  (refine ycn (ycp Tryz.func58 rfl (by kernel_rfl) rfl) (R1) rfl rfl rfl ?_ ?_; (· (exact to_)))
  repeat' (first|(refine ycf ?_;apply ybk;(·first|(first|exact tk_|(apply qv_eql_pnil<;>rfl)|(apply qv_nilCheck;rfl))|(apply yae;(·rfl);(·(first|exact hv.at hk32 (.inl ⟨rfl, rfl⟩)|exact hv.at hk32 (.inr (.inr (.inr ⟨rfl, rfl⟩)))))));(·rfl);(·rfl))|refine t1_ ?_|(refine ta_ ?_;intro _)|((fail_if_success (refine ybi rfl ?_));refine ybj rfl ?_ ?_<;>(intro ht;rw [ht];first|replace ht := oet_ ht|replace ht := oef_ ht|skip))|(refine ych ?_;first|(refine ybw rfl ?_ ?_<;>intro ht)|(refine ybx rfl ?_ ?_<;>intro ht)))
  refine cx_region_drawY [17, 18] rfl (by kernel_rfl) ?_
  repeat' (refine ycf ?_;(first|(first|(apply ybm;(·(first|(first|exact tk_|(apply qv_nilCheck;rfl)|(refine qv_str_bs rfl hw)|(refine qv_str_bs rfl hb)|(refine qv_lookup_ok (a := ((c, n, ep, bstr wi, bstr se) : SeaK)) 0 sea_kl rfl rfl rfl hg1 hg2))|(apply yae;(·rfl);(·(first|exact hv.at hk32 (.inl ⟨rfl, rfl⟩)|exact hv.at hk32 (.inr (.inr (.inr ⟨rfl, rfl⟩))))))|exact tq_));(·rfl);(·rfl);(·(exact th_)))|refine ybl rfl rfl ?_|((fail_if_success (refine ybi rfl ?_));refine ybj rfl ?_ ?_<;>(intro ht;rw [ht];first|replace ht := oet_ ht|replace ht := oef_ ht|skip))|(refine tb_ ?_ ?_ ?_;(·(exact to_));(·intro _;(exact to_));intro _)|(first|(refine tqs_ ?_ ?_ ?_;(·(exact to_));(·(exact to_))))|(apply ybn;(·(first|(first|exact tk_|(apply qv_nilCheck;rfl)|(refine qv_str_bs rfl hw)|(refine qv_str_bs rfl hb)|(refine qv_lookup_ok (a := ((c, n, ep, bstr wi, bstr se) : SeaK)) 0 sea_kl rfl rfl rfl hg1 hg2))|(apply yae;(·rfl);(·(first|exact hv.at hk32 (.inl ⟨rfl, rfl⟩)|exact hv.at hk32 (.inr (.inr (.inr ⟨rfl, rfl⟩))))))|exact tq_));(·rfl);(·rfl);(·rfl);(·(exact to_))))|refine ycg ?_))
  repeat' (first|(refine ycf ?_;apply ybk;(·first|(exact tk_));(·rfl);(·rfl))|refine t1_ ?_|(refine ta_ ?_;intro _)|((fail_if_success (refine ybi rfl ?_));refine ybj rfl ?_ ?_<;>(intro ht;rw [ht];first|replace ht := oet_ ht|replace ht := oef_ ht|skip))|(refine ych ?_;first|(refine ybw rfl ?_ ?_<;>intro ht)|(refine ybx rfl ?_ ?_<;>intro ht)))
  exact nx_ret2 rfl (rv_tmp rfl) (rv_tmp rfl) (fun w' s' => ⟨(), rfl, s', trivial⟩)
end Go.Proofs.YtaofgcahmfailaaGreatDoor
end

section
namespace Go.Proofs.YtaofgcahmfailaaGreatDoor
open Go Go.Ck
set_option maxHeartbeats 4000000
theorem fill_vault {idl : Bool} {key : List Int} {a b c : Nat} (hol : (bcs key).length = 32) : fillL (fun i : Nat => ([(0, 1), (1, 32), (33, 1), (34, 1), (35, 1)] : List (Nat × Nat))[i]?) (.bool false :: (List.replicate 32 (.int .u8 0) ++ [.map none, .map none, .map none])) [(0, .bool idl), (1, .agg (bcs key).toArray), (2, .map (some a)), (3, .map (some b)), (4, .map (some c))] = some (vcells idl key a b c) := by
  have h1 : (bcs key).toArray.size = 32 := by simpa using hol
  unfold vcells
  generalize bcs key = l at hol h1 ⊢
  have h2 : (Value.agg l.toArray).cells.size = 32 := h1
  have h3 : (Value.agg l.toArray).cells.toList = l := rfl
  have t33 : l.take 33 = l := List.take_of_length_le (by omega)
  have t34 : l.take 34 = l := List.take_of_length_le (by omega)
  have d33 : l.drop 33 = [] := List.drop_eq_nil_of_le (by omega)
  have d34 : l.drop 34 = [] := List.drop_eq_nil_of_le (by omega)
  have d35 : l.drop 35 = [] := List.drop_eq_nil_of_le (by omega)
  simp [fillL, spl, hol, Value.cells, List.take_append, List.drop_append, t33, t34, d33, d34, d35]
theorem vault_sp (idl : Bool) (key : List Int) (hk32 : key.length = 32) (h : View) (w : World) (s : St ⟨w, h, []⟩ h [] w) :
    Calls Tryz.prog 23 [.bool idl, .agg (bcs key).toArray].toArray w fun e w' => ∃ x : View × Nat × Nat × Nat × Nat, e = .returned (.pointer (some ⟨x.2.1, 0, none⟩)) ∧
      St ⟨w, h, []⟩ x.1 [nmR x.2.2.1 [], usR x.2.2.2.1 [], tbR x.2.2.2.2 []] w' ∧ Vb x.1 x.2.1 idl key x.2.2.1 x.2.2.2.1 x.2.2.2.2 := by
  have hol : (bcs key).length = 32 := by rw [bcs_len, hk32]
  refine calls_enter Tryz.func23 rfl Tryz.ntmps23 rfl s ?_
  repeat' (first|(refine ycf ?_;apply ybk;(·first|(apply yad;(·rfl);(·exact yaz 0 rfl);(·exact hol)));(·rfl);(·rfl))|(refine ybg 0 rfl rfl rfl (by show (bcs key).toArray.size = 32;simpa using hol) (by show 0 + (bcs key).toArray.size ≤ _;rw [List.size_toArray, hol];exact nble rfl) (List.all_eq_true.2 (bcs_one key)) (ybh (by show (bcs key).length = _;rw [hol];rfl)) rfl rfl ?_ ?_ ?_;(·(exact to_));(·(exact to_)))|refine t1_ ?_|(refine ta_ ?_;intro _)|((fail_if_success (refine ybi rfl ?_));refine ybj rfl ?_ ?_<;>(intro ht;rw [ht];first|replace ht := oet_ ht|replace ht := oef_ ht|skip))|(refine ych ?_;first|(refine ybw rfl ?_ ?_<;>intro ht)|(refine ybx rfl ?_ ?_<;>intro ht)))
  refine yba ma_makeMap rfl rfl rfl ybf (fun _ => ybf) ?_
  intro bn
  refine yba ma_makeMap rfl rfl rfl ybf (fun _ => ybf) ?_
  intro bu
  refine yba ma_makeMap rfl rfl rfl ybf (fun _ => ybf) ?_
  intro bt
  repeat' (first|(refine ycf ?_;apply ybk;(·first|(apply yax (cs := vcells idl key bn bu bt);(·rfl);(·exact fill_vault hol)));(·rfl);(·rfl))|(refine ybg 0 rfl rfl rfl (by show (bcs key).toArray.size = 32;simpa using hol) (by show 0 + (bcs key).toArray.size ≤ _;rw [List.size_toArray, hol];exact nble rfl) (List.all_eq_true.2 (bcs_one key)) (ybh (by show (bcs key).length = _;rw [hol];rfl)) rfl rfl ?_ ?_ ?_;(·(exact to_));(·(exact to_)))|refine t1_ ?_|(refine ta_ ?_;intro _)|((fail_if_success (refine ybi rfl ?_));refine ybj rfl ?_ ?_<;>(intro ht;rw [ht];first|replace ht := oet_ ht|replace ht := oef_ ht|skip))|(refine ych ?_;first|(refine ybw rfl ?_ ?_<;>intro ht)|(refine ybx rfl ?_ ?_<;>intro ht)))
  refine nx_ret1 rfl (rv_tmp rfl) (fun w' s' => ?_)
  have s1 := s'.persist rfl
  have s2 := s1.mpOf seaV (k := 0) rfl
  have s3 := s2.mpOf useV (k := 1) rfl
  have s4 := s3.mpOf Value.string (k := 2) rfl
  have s5 := (s4.perm (List.reverse_perm _).symm).tl
  refine ⟨(_, _, bn, bu, bt), rfl, s5, ?_⟩
  show addV _ _ _ _ = _
  unfold addV
  rw [if_pos rfl]
  rfl
theorem Ideal_sp (key : List Int) (hk32 : key.length = 32) (h : View) (w : World) (s : St ⟨w, h, []⟩ h [] w) :
    Calls Tryz.prog 6 [.agg (bcs key).toArray].toArray w fun e w' => ∃ x : View × Nat × Nat × Nat × Nat, e = .returned (.pointer (some ⟨x.2.1, 0, none⟩)) ∧
      St ⟨w, h, []⟩ x.1 [nmR x.2.2.1 [], usR x.2.2.2.1 [], tbR x.2.2.2.2 []] w' ∧ Vb x.1 x.2.1 true key x.2.2.1 x.2.2.2.1 x.2.2.2.2 := by
  have hol : (bcs key).length = 32 := by rw [bcs_len, hk32]
  refine calls_enter Tryz.func6 rfl Tryz.ntmps6 rfl s ?_
  repeat' (first|(refine ycf ?_;apply ybk;(·first|(apply yad;(·rfl);(·exact yaz 0 rfl);(·exact hol)));(·rfl);(·rfl))|(refine ybg 0 rfl rfl rfl (by show (bcs key).toArray.size = 32;simpa using hol) (by show 0 + (bcs key).toArray.size ≤ _;rw [List.size_toArray, hol];exact nble rfl) (List.all_eq_true.2 (bcs_one key)) (ybh (by show (bcs key).length = _;rw [hol];rfl)) rfl rfl ?_ ?_ ?_;(·(exact to_));(·(exact to_)))|refine t1_ ?_|(refine ta_ ?_;intro _)|((fail_if_success (refine ybi rfl ?_));refine ybj rfl ?_ ?_<;>(intro ht;rw [ht];first|replace ht := oet_ ht|replace ht := oef_ ht|skip))|(refine ych ?_;first|(refine ybw rfl ?_ ?_<;>intro ht)|(refine ybx rfl ?_ ?_<;>intro ht)))
  (refine yco (ycp Tryz.func23 rfl (by kernel_rfl) rfl) (vault_sp true key hk32 h) rfl rfl rfl ?_ ?_ ?_; (· (exact to_)); (· intro _ _ hle; (exact to_)); intro x px hle)
  repeat' (first|(refine ycf ?_;apply ybk;(·first|(apply yad;(·rfl);(·exact yaz 0 rfl);(·exact hol)));(·rfl);(·rfl))|(refine ybg 0 rfl rfl rfl (by show (bcs key).toArray.size = 32;simpa using hol) (by show 0 + (bcs key).toArray.size ≤ _;rw [List.size_toArray, hol];exact nble rfl) (List.all_eq_true.2 (bcs_one key)) (ybh (by show (bcs key).length = _;rw [hol];rfl)) rfl rfl ?_ ?_ ?_;(·(exact to_));(·(exact to_)))|refine t1_ ?_|(refine ta_ ?_;intro _)|((fail_if_success (refine ybi rfl ?_));refine ybj rfl ?_ ?_<;>(intro ht;rw [ht];first|replace ht := oet_ ht|replace ht := oef_ ht|skip))|(refine ych ?_;first|(refine ybw rfl ?_ ?_<;>intro ht)|(refine ybx rfl ?_ ?_<;>intro ht)))
  refine nx_ret1 rfl (rv_tmp rfl) (fun w' s' => ⟨x, rfl, ?_, px⟩)
  exact (St.drop (L := [_]) (s'.perm (perm_at (k := 3) rfl)))
end Go.Proofs.YtaofgcahmfailaaGreatDoor
end
