/-
  Part 7 of a proof: TrI CkMake TrJ CkStr.
  Conditions: each theorem states its own.
-/
import Derived.Laws.MakeOwn
import Derived.Laws.IdiomStrings
import Derived.Test.YtndpclcbobgdlaaGreatDoorTwGPM6
set_option maxRecDepth 100000
set_option linter.unusedVariables false
set_option linter.unusedSimpArgs false
section
namespace Go.Proofs.YtndpclcbobgdlaaGreatDoor
open Go Go.Ck
set_option maxHeartbeats 1000000
theorem cwithin_no (n a b : Int) (hna : n < a) (h : View) (w : World) (s : St ⟨w, h, []⟩ h [] w) :
    Calls Tryz.prog 105 [.int .i64 n, .int .i64 a, .int .i64 b].toArray w fun e w' => e = .returned (.bool false) ∧ St ⟨w, h, []⟩ h [] w' := by
  refine calls_enter Tryz.func105 rfl Tryz.ntmps105 rfl s ?_
  repeat' (first|(refine ycf ?_;apply ybk;(·first|(exact tk_));(·rfl);(·rfl))|refine t1_ ?_|(refine ta_ ?_;intro _)|((fail_if_success (refine ybi rfl ?_));refine ybj rfl ?_ ?_<;>(intro ht;rw [ht];first|replace ht := oet_ ht|replace ht := oef_ ht|skip))|(refine ych ?_;first|(refine ybw rfl ?_ ?_<;>intro ht)|(refine ybx rfl ?_ ?_<;>intro ht)))
  exact nx_ret1 rfl (rv_tmp rfl) (fun w' s' => ⟨rfl, s'⟩)
def z7 : List Value := [.int .i64 0, .int .i64 0, .int .i64 0, .int .i64 0, .int .i64 0, .int .i64 0, .int .i64 0]
def zCfg : List Value := z7 ++ ([.int .i64 0, .bool false] ++ List.replicate 32 (.int .u8 0))
theorem zCfg_seven {h : View} {L : List Res} {b : Nat} (c : Cells h L ⟨b, 0, none⟩ zCfg) : Cells h L ⟨b, 0 + 0, none⟩ z7 := c.take 7
theorem ccheck0_sp (h : View) (w : World) (s : St ⟨w, h, []⟩ h [] w) :
    Calls Tryz.prog 75 [.agg z7.toArray].toArray w fun e w' => e = .returned (.int .i64 1) ∧ St ⟨w, h, []⟩ h [] w' := by
  refine calls_enter Tryz.func75 rfl Tryz.ntmps75 rfl s ?_
  repeat' (first|(refine ycf ?_;apply ybk;(·first|(exact tk_));(·rfl);(·rfl))|refine t1_ ?_|(refine ta_ ?_;intro _)|((fail_if_success (refine ybi rfl ?_));refine ybj rfl ?_ ?_<;>(intro ht;rw [ht];first|replace ht := oet_ ht|replace ht := oef_ ht|skip))|(refine ych ?_;first|(refine ybw rfl ?_ ?_<;>intro ht)|(refine ybx rfl ?_ ?_<;>intro ht)))
  (refine ycn (ycp Tryz.func105 rfl (by kernel_rfl) rfl) (cwithin_no 0 1 8 (by omega) h) rfl rfl rfl ?_ ?_; (· (exact to_)))
  repeat' (first|(refine ycf ?_;apply ybk;(·first|(exact tk_));(·rfl);(·rfl))|refine t1_ ?_|(refine ta_ ?_;intro _)|((fail_if_success (refine ybi rfl ?_));refine ybj rfl ?_ ?_<;>(intro ht;rw [ht];first|replace ht := oet_ ht|replace ht := oef_ ht|skip))|(refine ych ?_;first|(refine ybw rfl ?_ ?_<;>intro ht)|(refine ybx rfl ?_ ?_<;>intro ht)))
  exact nx_ret1 rfl (rv_tmp rfl) (fun w' s' => ⟨rfl, s'.nil⟩)
theorem scheck0_sp (h : View) (w : World) (s : St ⟨w, h, []⟩ h [] w) :
    Calls Tryz.prog 56 [.agg zCfg.toArray].toArray w fun e w' => e = .returned (.int .i64 1) ∧ St ⟨w, h, []⟩ h [] w' := by
  refine calls_enter Tryz.func56 rfl Tryz.ntmps56 rfl s ?_
  repeat' (first|(refine ycf ?_;apply ybk;(·first|(apply yad (vs := z7);(·rfl);(·exact zCfg_seven (yaz 0 rfl));(·rfl)));(·rfl);(·rfl))|refine t1_ ?_|(refine ta_ ?_;intro _)|((fail_if_success (refine ybi rfl ?_));refine ybj rfl ?_ ?_<;>(intro ht;rw [ht];first|replace ht := oet_ ht|replace ht := oef_ ht|skip))|(refine ych ?_;first|(refine ybw rfl ?_ ?_<;>intro ht)|(refine ybx rfl ?_ ?_<;>intro ht)))
  (refine ycn (ycp Tryz.func75 rfl (by kernel_rfl) rfl) (ccheck0_sp h) rfl rfl rfl ?_ ?_; (· (exact to_)))
  repeat' (first|refine tw_ ?_|(refine ta_ ?_;intro _)|((fail_if_success (refine ybi rfl ?_));refine ybj rfl ?_ ?_<;>(intro ht;rw [ht];first|replace ht := oet_ ht|replace ht := oef_ ht|skip))|(refine ych ?_;first|(refine ybw rfl ?_ ?_<;>intro ht)|(refine ybx rfl ?_ ?_<;>intro ht)))
  exact nx_ret1 rfl (rv_tmp rfl) (fun w' s' => ⟨rfl, s'.nil⟩)
theorem snew0_sp (h : View) (w : World) (s : St ⟨w, h, []⟩ h [] w) :
    Calls Tryz.prog 41 [.agg zCfg.toArray].toArray w fun e w' => e = .returned (.tuple #[.pointer none, .int .i64 1]) ∧ St ⟨w, h, []⟩ h [] w' := by
  refine calls_enter Tryz.func41 rfl Tryz.ntmps41 rfl s ?_
  repeat' (first|(refine ycf ?_;apply ybk;(·first|(apply yad (vs := zCfg);(·rfl);(·exact yaz 0 rfl);(·rfl)));(·rfl);(·rfl))|refine t1_ ?_|(refine ta_ ?_;intro _)|((fail_if_success (refine ybi rfl ?_));refine ybj rfl ?_ ?_<;>(intro ht;rw [ht];first|replace ht := oet_ ht|replace ht := oef_ ht|skip))|(refine ych ?_;first|(refine ybw rfl ?_ ?_<;>intro ht)|(refine ybx rfl ?_ ?_<;>intro ht)))
  (refine ycn (ycp Tryz.func56 rfl (by kernel_rfl) rfl) (scheck0_sp h) rfl rfl rfl ?_ ?_; (· (exact to_)))
  repeat' (first|refine tw_ ?_|(refine ta_ ?_;intro _)|((fail_if_success (refine ybi rfl ?_));refine ybj rfl ?_ ?_<;>(intro ht;rw [ht];first|replace ht := oet_ ht|replace ht := oef_ ht|skip))|(refine ych ?_;first|(refine ybw rfl ?_ ?_<;>intro ht)|(refine ybx rfl ?_ ?_<;>intro ht)))
  exact nx_ret2 rfl (rv_tmp rfl) (rv_tmp rfl) (fun w' s' => ⟨rfl, s'.nil⟩)
theorem play0_sp (h : View) (w : World) (s : St ⟨w, h, []⟩ h [] w) :
    Calls Tryz.prog 23 [.agg zCfg.toArray, .slice none 0 0].toArray w fun e w' => e = .returned (.tuple #[.slice none 0 0, .int .i64 1]) ∧ St ⟨w, h, []⟩ h [] w' := by
  refine calls_enter Tryz.func23 rfl Tryz.ntmps23 rfl s ?_
  repeat' (first|(refine ycf ?_;apply ybk;(·first|(apply yad (vs := zCfg);(·rfl);(·exact yaz 0 rfl);(·rfl)));(·rfl);(·rfl))|refine t1_ ?_|(refine ta_ ?_;intro _)|((fail_if_success (refine ybi rfl ?_));refine ybj rfl ?_ ?_<;>(intro ht;rw [ht];first|replace ht := oet_ ht|replace ht := oef_ ht|skip))|(refine ych ?_;first|(refine ybw rfl ?_ ?_<;>intro ht)|(refine ybx rfl ?_ ?_<;>intro ht)))
  (refine ycn (ycp Tryz.func41 rfl (by kernel_rfl) rfl) (snew0_sp h) rfl rfl rfl ?_ ?_; (· (exact to_)))
  repeat' (first|refine tw_ ?_|(refine ta_ ?_;intro _)|((fail_if_success (refine ybi rfl ?_));refine ybj rfl ?_ ?_<;>(intro ht;rw [ht];first|replace ht := oet_ ht|replace ht := oef_ ht|skip))|(refine ych ?_;first|(refine ybw rfl ?_ ?_<;>intro ht)|(refine ybx rfl ?_ ?_<;>intro ht)))
  exact nx_ret2 rfl (rv_tmp rfl) (rv_tmp rfl) (fun w' s' => ⟨rfl, s'.nil⟩)
end Go.Proofs.YtndpclcbobgdlaaGreatDoor
end

section
namespace Go.Ck
open Go
section
variable {P : Program} {n : Nat} {F : List (Nat × Value)} {h : View} {L : List Res} {dst : Option Nat} {ty : Nat} {pos : String} {af : Array Edge} {gd : Option (Nat × Bool)}
theorem ma_makeBytes {T e m : Nat} {x y : Operand} {kx ky : IntKind} {i : Int} [tu : TyU P T (.slice e)] [tb : TyB P e (.int .u8 0) 1 1] (hx : ev F x = some (.int kx i)) (hy : ev F y = some (.int ky i)) (hi : i = (m : Nat)) (hm : m ≤ 1000000) :
    MA P n F h L ⟨dst, .makeSlice T x y, ty, pos, af, gd⟩ (fun b => .slice (some ⟨b, 0, none⟩) m m) (.cells (List.replicate m (Value.int .u8 0)).toArray e) := .mk fun a w f s => by
  subst hi
  obtain ⟨inf, h1, h2, h3, h4⟩ := tb.ex
  have hr := run_make (P := P) w T e inf (.int .u8 0) tu.u h1 h2 kx ky m m (by omega) (Int.le_refl _) (by rw [h4]; omega) (by omega)
  have hc : madeCells (Value.int .u8 0).cells ((m : Int).toNat * inf.size) = (List.replicate m (Value.int .u8 0)).toArray := by
    rw [h3, Nat.mul_one, Int.toNat_natCast]
    apply Array.ext
    · simp [madeCells]
    · intro k hk1 hk2
      simp [madeCells, Value.cells, Nat.mod_one]
  rw [hc] at hr
  simp [execOp, f.ev hx, f.ev hy, hr]
end
end Go.Ck
end

section
namespace Go.Ck
open Go
theorem cx_region_drawT {P : Program} {n : Nat} {K : Bs} {F : List (Nat × Value)} {h : View} {L : List Res} {Q : Exit → Act → World → Prop} {id : Nat} {ops : Array Oper} (LS : List Res) (lou : List Nat) (hm : P.follows .mixedOrders = true) (hB : lexOkAt ops (masks ops) (fun i => lou.contains i) (barOf ops) = true)
    (hx : RX P n K ⟨ops, Hd h LS, fun i => lou.contains i, barOf ops⟩ (enumFrom 0 ops.toList) F h L Q) : CX P n K (.region id ops true) F h L Q := by
  unfold CX
  unfold RX at hx
  exact fun a w f s => wp_region_lexL hm hB (hx a w.drew ⟨f.size, f.dfs, f.get⟩ s.drew)
end Go.Ck
namespace Go.Proofs.YtndpclcbobgdlaaGreatDoor
open Go Go.Ck
set_option maxHeartbeats 1000000
theorem trS_one : trS [1] = (false, []) := rfl
theorem traces_sp (h : View) (w : World) (s : St ⟨w, h, []⟩ h [] w) :
    Calls Tryz.prog 8 [].toArray w fun e w' => ∃ h' : View, e = .returned (.bool true) ∧ St ⟨w, h, []⟩ h' [] w' ∧ True := by
  have W0 : ∀ (w : World), St ⟨w, h, []⟩ h [] w → Calls Tryz.prog 7 [.slice none 0 0].toArray w fun e w' => ∃ x : View × Value, e = .returned (.tuple #[x.2, .int .i64 0]) ∧ St ⟨w, h, []⟩ x.1 [] w' ∧ Bs8 x.1 x.2 [0, 0, 0, 0, 0, 0, 0, 0] := fun w s =>
    TWrite_sp (.slice none 0 0) [] h ⟨Sc.nil h 9 none 0, fun x hx => by cases hx⟩ (by simp) (by simp) w s
  refine calls_enter Tryz.func8 rfl Tryz.ntmps8 rfl s ?_
  repeat' (first|refine tw_ ?_|(refine ta_ ?_;intro _)|((fail_if_success (refine ybi rfl ?_));refine ybj rfl ?_ ?_<;>(intro ht;rw [ht];first|replace ht := oet_ ht|replace ht := oef_ ht|skip))|(refine ych ?_;first|(refine ybw rfl ?_ ?_<;>intro ht)|(refine ybx rfl ?_ ?_<;>intro ht)))
  (refine yco (ycp Tryz.func7 rfl (by kernel_rfl) rfl) (W0) rfl rfl rfl ?_ ?_ ?_; (· (exact to_)); (· intro _ _ hle; (exact to_)); intro x px hle)
  obtain ⟨h1, v1⟩ := x
  dsimp only at px hle ⊢
  have hle1 : Le h h1 := hle
  clear hle W0
  have px : Bs8 h1 v1 [0, 0, 0, 0, 0, 0, 0, 0] := px
  obtain ⟨_, ad1, cap1, rfl, _, _⟩ := id px
  repeat' (first|refine tw_ ?_|(refine ta_ ?_;intro _)|((fail_if_success (refine ybi rfl ?_));refine ybj rfl ?_ ?_<;>(intro ht;rw [ht];first|replace ht := oet_ ht|replace ht := oef_ ht|skip))|(refine ych ?_;first|(refine ybw rfl ?_ ?_<;>intro ht)|(refine ybx rfl ?_ ?_<;>intro ht)))
  refine rx_rowOf 1 1 1 (by omega) (by unfold maxLen; omega) rfl ?_
  refine rx_persist rfl fun h2 hle2 hs2 => ?_
  have hs2 : Bs8 h2 _ [1] := hs2
  have R1 := TRead_sp _ [1] (by intro b hb; rw [List.mem_singleton.1 hb]; omega) (by simp) h2 hs2
  rw [trS_one] at R1
  have px2 := px.mono hle2
  clear px
  (refine yco (ycp Tryz.func11 rfl (by kernel_rfl) rfl) (R1) rfl rfl rfl ?_ ?_ ?_; (· (exact to_)); (· intro _ _ hle; (exact to_)); intro x px hle)
  obtain ⟨h3, v3, zs⟩ := x
  dsimp only at px hle ⊢
  have hle3 : Le h2 h3 := hle
  clear hle R1
  have px3 := px2.mono hle3
  obtain ⟨_, ad3, cap3, rfl, _, _⟩ := id px.1.1
  repeat' (first|(refine ycf ?_;apply ybk;(·first|(apply yax (cs := zCfg);(·rfl);(·rfl)));(·rfl);(·rfl))|refine t1_ ?_|(refine ta_ ?_;intro _)|((fail_if_success (refine ybi rfl ?_));refine ybj rfl ?_ ?_<;>(intro ht;rw [ht];first|replace ht := oet_ ht|replace ht := oef_ ht|skip))|(refine ych ?_;first|(refine ybw rfl ?_ ?_<;>intro ht)|(refine ybx rfl ?_ ?_<;>intro ht)))
  (refine ycn (ycp Tryz.func23 rfl (by kernel_rfl) rfl) (play0_sp h3) rfl rfl rfl ?_ ?_; (· (exact to_)))
  repeat' (first|refine tw_ ?_|(refine ta_ ?_;intro _)|((fail_if_success (refine ybi rfl ?_));refine ybj rfl ?_ ?_<;>(intro ht;rw [ht];first|replace ht := oet_ ht|replace ht := oef_ ht|skip))|(refine ych ?_;first|(refine ybw rfl ?_ ?_<;>intro ht)|(refine ybx rfl ?_ ?_<;>intro ht)))
  refine cx_region_drawT [] [5, 6] rfl (by kernel_rfl) ?_
  repeat' (refine ycf ?_;(first|(first|(apply ybm;(·(first|(first|exact tk_|(refine qv_str_bs rfl px3))|exact tq_));(·rfl);(·rfl);(·(exact fun _ s => Hd.sub s (Le.refl h3) (fun r hr => (by cases hr)))))|refine ybl rfl rfl ?_|((fail_if_success (refine ybi rfl ?_));refine ybj rfl ?_ ?_<;>(intro ht;rw [ht];first|replace ht := oet_ ht|replace ht := oef_ ht|skip))|(refine tb_ ?_ ?_ ?_;(·(first|exact ybf|(refine .inl ?_;(exact fun _ s => Hd.sub s (Le.refl h3) (fun r hr => (by cases hr))))|exact to_));(·intro _;(first|exact ybf|(refine .inl ?_;(exact fun _ s => Hd.sub s (Le.refl h3) (fun r hr => (by cases hr))))|exact to_));intro _)|(first|(refine tqs_ ?_ ?_ ?_;(·(first|exact ybf|(refine .inl ?_;(exact fun _ s => Hd.sub s (Le.refl h3) (fun r hr => (by cases hr))))|exact to_));(·(first|exact ybf|(refine .inl ?_;(exact fun _ s => Hd.sub s (Le.refl h3) (fun r hr => (by cases hr))))|exact to_))))|(apply ybn;(·(first|(first|exact tk_|(refine qv_str_bs rfl px3))|exact tq_));(·rfl);(·rfl);(·rfl);(·(first|exact ybf|(refine .inl ?_;(exact fun _ s => Hd.sub s (Le.refl h3) (fun r hr => (by cases hr))))|exact to_))))|refine ycg ?_))
  refine yba (ma_makeBytes (m := 8) rfl rfl (by omega) (by omega)) rfl rfl rfl (by (first|exact ybf|(refine .inl ?_;(exact fun _ s => Hd.sub s (Le.refl h3) (fun r hr => (by cases hr))))|exact to_)) (fun _ => by (first|exact ybf|(refine .inl ?_;(exact fun _ s => Hd.sub s (Le.refl h3) (fun r hr => (by cases hr))))|exact to_)) ?_
  intro b
  repeat' (refine ycf ?_;(first|(first|(apply ybm;(·(first|(first|exact tk_|(refine qv_str_of (l := [0, 0, 0, 0, 0, 0, 0, 0]) rfl (yaz 0 rfl))|(refine qv_eql_str rfl rfl (beq_self_eq_true _)))|exact tq_));(·rfl);(·rfl);(·(exact fun _ s => Hd.sub s (Le.refl h3) (fun r hr => (by cases hr)))))|refine ybl rfl rfl ?_|((fail_if_success (refine ybi rfl ?_));refine ybj rfl ?_ ?_<;>(intro ht;rw [ht];first|replace ht := oet_ ht|replace ht := oef_ ht|skip))|(refine tb_ ?_ ?_ ?_;(·(first|exact ybf|(refine .inl ?_;(exact fun _ s => Hd.sub s (Le.refl h3) (fun r hr => (by cases hr))))|exact to_));(·intro _;(first|exact ybf|(refine .inl ?_;(exact fun _ s => Hd.sub s (Le.refl h3) (fun r hr => (by cases hr))))|exact to_));intro _)|(first|(refine tqs_ ?_ ?_ ?_;(·(first|exact ybf|(refine .inl ?_;(exact fun _ s => Hd.sub s (Le.refl h3) (fun r hr => (by cases hr))))|exact to_));(·(first|exact ybf|(refine .inl ?_;(exact fun _ s => Hd.sub s (Le.refl h3) (fun r hr => (by cases hr))))|exact to_))))|(apply ybn;(·(first|(first|exact tk_|(refine qv_str_of (l := [0, 0, 0, 0, 0, 0, 0, 0]) rfl (yaz 0 rfl))|(refine qv_eql_str rfl rfl (beq_self_eq_true _)))|exact tq_));(·rfl);(·rfl);(·rfl);(·(first|exact ybf|(refine .inl ?_;(exact fun _ s => Hd.sub s (Le.refl h3) (fun r hr => (by cases hr))))|exact to_))))|refine ycg ?_))
  repeat' (first|refine tw_ ?_|(refine ta_ ?_;intro _)|((fail_if_success (refine ybi rfl ?_));refine ybj rfl ?_ ?_<;>(intro ht;rw [ht];first|replace ht := oet_ ht|replace ht := oef_ ht|skip))|(refine ych ?_;first|(refine ybw rfl ?_ ?_<;>intro ht)|(refine ybx rfl ?_ ?_<;>intro ht)))
  exact nx_ret1 rfl (rv_tmp rfl) (fun w' s' => ⟨h3, rfl, s'.nil, trivial⟩)
end Go.Proofs.YtndpclcbobgdlaaGreatDoor
end

section
namespace Go.Ck
open Go
set_option maxHeartbeats 4000000
theorem run_storeCells_fz {P : Program} (g o : Nat) (t : TypeId) (fz : Nat × Nat) : ∀ (vs : List Value) (i : Nat) (cur : Array Value) (w : World), w.heap[g]? = some (.cells cur t fz) → (fz.2 ≤ fz.1 ∨ cur.size ≤ fz.1) → o + i + vs.length ≤ cur.size → (∀ v ∈ vs, v.oneCell' = true) →
    (storeCells ⟨g, o, none⟩ vs i).run P w = .ok () (w.setRow g (cur.toList.take (o + i) ++ vs ++ cur.toList.drop (o + i + vs.length)).toArray)
  | [], i, cur, w, hg, _, _, _ => by
    simp only [storeCells, List.append_nil, List.length_nil, Nat.add_zero, List.take_append_drop, Array.toArray_toList]
    rw [setRow_self w g cur t fz hg]
    rfl
  | v :: rest, i, cur, w, hg, hf, hl, h1 => by
    have hi : o + i < cur.size := by simp at hl; omega
    have hadd : (⟨g, o, none⟩ : Addr).add i = ⟨g, o + i, none⟩ := by unfold Addr.add;split<;>simp_all
    have hcell : w.cell? ⟨g, o + i, none⟩ = some cur[o + i] := by simp [World.cell?, hg, hi]
    have hfro : w.frozen? ⟨g, o + i, none⟩ = false := by
      simp only [World.frozen?, hg]
      rcases hf with hf | hf
      · by_cases h : fz.1 ≤ o + i
        · simp [h]; omega
        · simp [h]
      · have h : ¬ fz.1 ≤ o + i := by omega
        simp [h]
    have hst : (store ((⟨g, o, none⟩ : Addr).add i) v).run P w = .ok () (w.setRow g (cur.setIfInBounds (o + i) v)) := by
      rw [hadd, run_store P w _ v _ (h1 v (by simp)), hcell]
      simp [hfro, setCell_eq_setRow w g (o + i) cur t fz v hg]
    have ih := run_storeCells_fz (P := P) g o t fz rest (i + 1) (cur.setIfInBounds (o + i) v) (w.setRow g (cur.setIfInBounds (o + i) v)) (setRow_heap w g cur _ t _ hg) (by simpa using hf) (by simp at hl ⊢; omega) (fun x hx => h1 x (by simp [hx]))
    simp only [storeCells, Sem.run_bind, hst, Result.andThen_ok, ih, setRow_setRow]
    congr 3
    have e := list_seg_step cur.toList (o + i) v rest (by simp at hl ⊢; omega)
    simpa [Array.toList_setIfInBounds, Nat.add_assoc] using e
def OwnsB (w : World) (e : TypeId) (v : Value) (n : Nat) (xs : List Value) : Prop :=
  xs.length = n ∧ ((v = .slice none 0 0 ∧ n = 0) ∨
    ∃ g cap cur fz, v = .slice (some ⟨g, 0, none⟩) n cap ∧ w.heap[g]? = some (.cells cur e fz) ∧ n ≤ cap ∧ cap ≤ maxLen ∧ cur.size = cap ∧ cur.toList.take n = xs ∧ (fz.2 ≤ fz.1 ∨ cur.size ≤ fz.1))
def Res.srow (e : TypeId) (v : Value) (n : Nat) (xs : List Value) : Res where
  dom := v.ownBlock.toList
  sat := fun w => OwnsB w e v n xs
  loc := fun w w' hh hs => by
    refine ⟨hs.1, ?_⟩
    rcases hs.2 with hn | ⟨g, cap, cur, fz, rfl, hgg, rest⟩
    · exact .inl hn
    · exact .inr ⟨g, cap, cur, fz, rfl, by rw [hh g (by simp [Value.ownBlock])]; exact hgg, rest⟩
  lt := fun w hs b hb => by
    have hb : v.ownBlock = some b := by simpa using hb
    rcases hs.2 with ⟨rfl, _⟩ | ⟨g, cap, cur, fz, rfl, hgg, rest⟩
    · cases hb
    · simp only [Value.ownBlock, Option.some.injEq] at hb
      subst hb
      exact (Array.getElem?_eq_some_iff.1 hgg).1
structure Src (P : Program) (h : View) (L : List Res) (x : Value) (m : Nat) (news : List Value) : Prop where
  len : ∀ w, (Builtin.lenOf x).run P w = .ok m w
  cells : ∀ w, Hd h L w → (Builtin.firstCells 1 m x).run P w = .ok news.toArray w
  nl : news.length = m
section
variable {P : Program} {n : Nat} {K : Bs} {F : List (Nat × Value)} {h : View} {L : List Res} {Q : Exit → Act → World → Prop}
variable {dst : Option Nat} {ty : Nat} {pos : String} {af : Array Edge} {gd : Option (Nat × Bool)}
theorem Hd.heap {w w' : World} (hd : Hd h L w) (e : w'.heap = w.heap) : Hd h L w' := ⟨fun b o hb => by rw [e]; exact hd.view b o hb, fun r hr => r.loc w w' (fun b _ => by rw [e]) (hd.own r hr)⟩
theorem run_appendB {w : World} {T U e : TypeId} {ty' : TypeId} {z : Value} {by' : Nat} {d : TypeDesc} (ht : P.underlying T = some (.slice e)) (hU : P.underlying U = some d) (hd : d = .slice e ∨ d = .string) (tb : TyB P e z 1 by') (hzs : z.cells.size = 1) {v x : Value} {m0 m : Nat} {xs news : List Value} (hown : OwnsB w e v m0 xs)
    (hs : Src P h L x m news) (hh : Hd h L w) (h1 : ∀ u ∈ news, u.oneCell' = true) (h63 : m0 + m ≤ maxLen) (hbytes : (m0 + m) * by' ≤ 140737488355328) :
    ∃ v' w', (Builtin.append_ #[T, U] ty' #[v, x]).run P w = .ok v' w' ∧ OwnsB w' e v' (m0 + m) (xs ++ news) ∧ w.grownBy w' v.ownBlock ∧ w.drawn ≤ w'.drawn ∧ (v'.ownBlock = v.ownBlock ∨ ∃ b, v'.ownBlock = some b ∧ w.heap.size ≤ b) := by
  obtain ⟨i, hi, hz, hsize, hby⟩ := tb.ex
  subst hby
  have hsmall : m0 + m ≤ 9223372036854775807 := by simp only [maxLen] at h63; omega
  have hlen : (xs ++ news).length = m0 + m := by rw [List.length_append, hown.1, hs.nl]
  have hl0 := hs.len w
  have hnl := hs.nl
  have hc0 := hs.cells w hh
  have hc1 := hs.cells w.drew (hh.heap rfl)
  have grown : ∀ (old : Nat), old < m0 + m → ∀ (row : Option Nat),
      OwnsB (w.drew.alloc (.cells (xs.toArray ++ news.toArray ++ Builtin.zeroCells z.cells (grownCap w (m0 + m) old e - (m0 + m))) e)) e
        (.slice (some ⟨w.heap.size, 0, none⟩) (m0 + m) (grownCap w (m0 + m) old e)) (m0 + m) (xs ++ news) ∧
      w.grownBy (w.drew.alloc (.cells (xs.toArray ++ news.toArray ++ Builtin.zeroCells z.cells (grownCap w (m0 + m) old e - (m0 + m))) e)) row := by
    intro old ho row
    have hge := grownCap_ge w (m0 + m) old e
    have hcm : grownCap w (m0 + m) old e ≤ maxLen := grownCap_le_maxLen w (m0 + m) old e h63
    refine ⟨⟨hlen, .inr ⟨w.heap.size, _, _, (0, 0), rfl, heap_alloc_new w.drew _, hge, hcm, ?_, ?_, .inl (Nat.le_refl _)⟩⟩, ⟨rfl, rfl, rfl, by simp, fun k hk _ => Go.RowKit.Below.heap_alloc w.drew _ k hk⟩⟩
    · simp only [Array.size_append, List.size_toArray, size_zeroCells, hzs, hown.1, hnl]
      omega
    · simp only [Array.toList_append, List.append_assoc]
      rw [← List.append_assoc, ← hlen]
      exact List.take_left
  rcases hown.2 with ⟨rfl, rfl⟩ | ⟨g, cap, cur, fz, rfl, hgg, hnc, hcm, hcs, htake, hfz⟩
  · have hx : xs = [] := List.eq_nil_of_length_eq_zero (by simpa using hown.1)
    subst hx
    by_cases hm : m = 0
    · subst hm
      have hn : news = [] := List.eq_nil_of_length_eq_zero hnl
      subst hn
      refine ⟨.slice none 0 0, w, ?_, ⟨rfl, .inl ⟨rfl, rfl⟩⟩, ⟨rfl, rfl, rfl, Nat.le_refl _, fun _ _ _ => rfl⟩, Nat.le_refl _, .inl rfl⟩
      rcases hd with rfl | rfl<;>simp [Builtin.append_, run_underlying ht, run_underlying hU, sizeOf, typeInfo, hi, hsize, hl0, hc0]
    · have hgr := grown 0 (by omega) (Value.ownBlock (.slice none 0 0))
      simp only [Nat.zero_add, List.nil_append, Array.empty_append] at hgr ⊢
      refine ⟨_, _, ?_, hgr.1, hgr.2, Nat.le_succ _, .inr ⟨_, rfl, Nat.le_refl _⟩⟩
      have h63' : ¬ (9223372036854775807 < (m : Int)) := by omega
      have h48' : ¬ (281474976710656 < Builtin.nextslicecap m 0 * i.bytes) := by
        rw [nextslicecap_zero (by omega)]
        simp only [Nat.zero_add] at hbytes
        omega
      have hf0 : (Builtin.firstCells 1 0 (.slice none 0 0)).run P w.drew = .ok #[] w.drew := by simp [Builtin.firstCells]
      rcases hd with rfl | rfl<;>(simp [Builtin.append_, run_underlying ht, run_underlying hU, sizeOf, typeInfo, zeroValue, hi, hz, hsize, hl0, hc1, hm, h63', h48', hf0, Question.forced, newRow, grownCap])
  · by_cases hroom : m0 + m ≤ cap
    · have hst := run_storeCells_fz (P := P) g m0 e fz news 0 cur w hgg hfz (by omega) h1
      simp only [Nat.add_zero] at hst
      refine ⟨.slice (some ⟨g, 0, none⟩) (m0 + m) cap, w.setRow g (cur.toList.take m0 ++ news ++ cur.toList.drop (m0 + news.length)).toArray, ?_, ⟨hlen, .inr ⟨g, cap, _, fz, rfl, setRow_heap w g cur _ e _ hgg, hroom, hcm, ?_, ?_, ?_⟩⟩, ⟨rfl, rfl, rfl, by simp, fun k _ hk => setRow_other w g k _ (fun e => hk (by simp [Value.ownBlock, e]))⟩, by simp, .inl rfl⟩
      · rcases hd with rfl | rfl<;>(simp [Builtin.append_, run_underlying ht, run_underlying hU, sizeOf, typeInfo, hi, hsize, hl0, hc0, hroom, Addr.add_lit, hst])
      · simp only [List.size_toArray, List.length_append, List.length_take, List.length_drop, Array.length_toList]
        omega
      · rw [htake, ← hlen]
        exact List.take_left
      · rcases hfz with hfz | hfz
        · exact .inl hfz
        · refine .inr ?_
          simp only [List.size_toArray, List.length_append, List.length_take, List.length_drop, Array.length_toList]
          omega
    · have holds : ∀ j u, xs[j]? = some u → w.drew.cell? ((⟨g, 0, none⟩ : Addr).add j) = some u := fun j u hj => by
        rw [Addr.add_off]
        have hb : w.drew.heap[g]? = some (.cells cur e fz) := hgg
        simp [World.cell?, hb]
        rw [← htake, List.getElem?_take] at hj
        split at hj
        · simpa using hj
        · cases hj
      have hfo := run_firstCells_some (P := P) w.drew 1 m0 ⟨g, 0, none⟩ m0 cap xs (by simpa using hown.1) holds
      have hgr := grown cap (by omega) (Value.ownBlock (.slice (some ⟨g, 0, none⟩) m0 cap))
      refine ⟨_, _, ?_, hgr.1, hgr.2, Nat.le_succ _, .inr ⟨_, rfl, Nat.le_refl _⟩⟩
      have h63' : ¬ (9223372036854775807 < ((m0 : Int) + (m : Int))) := by omega
      have hfit := growslice_fits (need := m0 + m) (old := cap) (by omega) hbytes
      have h48' : ¬ (281474976710656 < Builtin.nextslicecap (m0 + m) cap * i.bytes) := by omega
      rcases hd with rfl | rfl<;>(simp [Builtin.append_, run_underlying ht, run_underlying hU, sizeOf, typeInfo, zeroValue, hi, hz, hsize, hl0, hc1, hroom, h63', h48', Question.forced, hfo, newRow, grownCap];congr 2;apply Array.ext';simp [List.append_assoc])
theorem rx_append_b {g : Rg} {i : Nat} {r : List (Nat × Oper)} {T U e : TypeId} {x y : Operand} {z v sv : Value} {by' m0 m : Nat} {xs news : List Value} {d : TypeDesc} (k : Nat) [tu : TyU P T (.slice e)] [tU : TyU P U d] [tb : TyB P e z 1 by'] (hx : ev F x = some v) (hy : ev F y = some sv)
    (hk : L[k]? = some (Res.srow e v m0 xs)) (hs : Src P h L sv m news) (hdd : d = .slice e ∨ d = .string) (h1 : ∀ u ∈ news, u.oneCell' = true) (hzs : z.cells.size = 1) (h63 : m0 + m ≤ maxLen) (hbytes : (m0 + m) * by' ≤ 140737488355328)
    (hw : wantedF g.ops F ⟨dst, .call ⟨.builtin .append, #[x, y], #[T, U]⟩, ty, pos, af, gd⟩ = some true) (hd : okd n dst = true) (hlo : g.lo i = true) (o1 : Owe g i h L)
    (o2 : ∀ v', Owe g i h (L.set k (Res.srow e v' (m0 + m) (xs ++ news))))
    (hn : ∀ v', RX P n K g r (putF dst v' F) h (L.set k (Res.srow e v' (m0 + m) (xs ++ news))) Q) :
    RX P n K g ((i, ⟨dst, .call ⟨.builtin .append, #[x, y], #[T, U]⟩, ty, pos, af, gd⟩) :: r) F h L Q := by
  unfold RX at *
  intro a w f s
  have hown : OwnsB w e v m0 xs := s.hd.own _ (List.mem_of_getElem? hk)
  obtain ⟨v', w', hrun, how', hgr, hdr, hblk⟩ := run_appendB (P := P) (ty' := ty) tu.u tU.u hdd tb hzs hown hs s.hd h1 h63 hbytes
  have s' : St K h (L.set k (Res.srow e v' (m0 + m) (xs ++ news))) w' := by
    refine s.swap hk hgr.os hgr.tape hgr.output hdr hgr.size (fun j hj hjd => hgr.block j hj (fun hh => hjd ?_)) how' ?_ (fun b hb => ?_)
    · show j ∈ v.ownBlock.toList
      rw [← hh]; simp
    · show v'.ownBlock.toList.Nodup
      cases v'.ownBlock <;> simp
    · have hb : v'.ownBlock = some b := by simpa [Res.srow] using hb
      rcases hblk with hh | ⟨b', hh, hge⟩
      · refine .inl ?_
        show b ∈ v.ownBlock.toList
        rw [← hh, hb]; simp
      · rw [hb] at hh; cases hh; exact .inr hge
  refine .inr (.inr ⟨wantedF_ok f hw, hlo, o1.out s, ?_⟩)
  unfold Oper.wp
  have : (execOp a.eval ⟨dst, .call ⟨.builtin .append, #[x, y], #[T, U]⟩, ty, pos, af, gd⟩).run P w = .ok (.value v') w' := by
    simp [execOp, resolve, invoke, builtin, f.ev hx, f.ev hy, hrun]
  rw [this]
  exact ⟨(o2 v').out s', hn v' _ _ (f.put hd v') s'⟩
theorem St.srowPersist {e : TypeId} {v : Value} {m : Nat} {xs : List Value} {w : World} (s : St K h (Res.srow e v m xs :: L) w) (hA : K.A = []) : ∃ h', Le h h' ∧ Sc h' 1 v m xs ∧ St K h' L w := by
  have ho : OwnsB w e v m xs := s.hd.own _ (List.mem_cons_self ..)
  obtain ⟨q0, q1 | ⟨g, cap, cur, fz, rfl, q3, q4, q5, q6, q7, q8⟩⟩ := ho
  · obtain ⟨rfl, rfl⟩ := q1
    have hx : xs = [] := List.eq_nil_of_length_eq_zero (by omega)
    subst hx
    exact ⟨h, Le.refl h, Sc.nil h 1 none 0, s.tl⟩
  · have s1 : St K h (Res.blk g (.cells cur e fz) :: L) w := by
      refine ⟨s.os, s.tape, s.output, s.drawn, s.size, s.keep, ⟨s.hd.view, fun r hr => ?_⟩, ?_, ?_, s.grow, s.new, ?_⟩
      · rcases List.mem_cons.1 hr with rfl | hr
        · exact q3
        · exact s.hd.own r (List.mem_cons_of_mem _ hr)
      · have := s.nd
        simpa [doms_cons, Res.srow, Res.blk, Value.ownBlock] using this
      · intro b hb
        refine s.src b ?_
        simpa [doms_cons, Res.srow, Res.blk, Value.ownBlock] using hb
      · intro b hb
        refine s.dis b ?_
        simpa [doms_cons, Res.srow, Res.blk, Value.ownBlock] using hb
    have hnone : h g = none := s1.dis g (by rw [doms_cons]; exact List.mem_append_left _ (List.mem_singleton.2 rfl))
    refine ⟨_, Le.addV hnone, ⟨by omega, some ⟨g, 0, none⟩, cap, rfl, q4, .inr ⟨g, 0, cur, e, fz, rfl, addV_same, fun j u hj => ?_⟩⟩, s1.persist hA⟩
    rw [Nat.zero_add]
    rw [← q7, List.getElem?_take] at hj
    split at hj
    · simpa using hj
    · cases hj
theorem rx_persist_s {g : Rg} {prs : List (Nat × Oper)} {e : TypeId} {m : Nat} {v : Value} {xs : List Value} (hA : K.A = []) (hx : ∀ h', Le h h' → Sc h' 1 v m xs → RX P n K g prs F h' L Q) : RX P n K g prs F h (Res.srow e v m xs :: L) Q := by
  unfold RX at *
  intro a w f s
  obtain ⟨h', h1, h2, h3⟩ := s.srowPersist hA
  exact hx h' h1 h2 a w f h3
theorem cx_persist_s {c : Code} {e : TypeId} {m : Nat} {v : Value} {xs : List Value} (hA : K.A = []) (hx : ∀ h', Le h h' → Sc h' 1 v m xs → CX P n K c F h' L Q) : CX P n K c F h (Res.srow e v m xs :: L) Q := by
  unfold CX at *
  intro a w f s
  obtain ⟨h', h1, h2, h3⟩ := s.srowPersist hA
  exact hx h' h1 h2 a w f h3
theorem rx_bytes_s {g : Rg} {i : Nat} {r : List (Nat × Oper)} {S D e : Nat} {x : Operand} {str : ByteArray} {xs : List Value} [tS : TyU P S .string] [tD : TyU P D (.slice e)] [te : TyU P e (.int .u8)] (hx : ev F x = some (.string str)) (hxs : (str.data.map fun b => Value.int .u8 b.toNat).toList = xs) (hsz : str.size ≤ maxLen)
    (hw : wantedF g.ops F ⟨dst, .convert S D x, ty, pos, af, gd⟩ = some true) (hd : okd n dst = true) (hl : g.lo i = true) (o1 : Owe g i h L) (o2 : ∀ v, Owe g i h (Res.srow e v xs.length xs :: L))
    (hn : ∀ v, RX P n K g r (putF dst v F) h (Res.srow e v xs.length xs :: L) Q) : RX P n K g ((i, ⟨dst, .convert S D x, ty, pos, af, gd⟩) :: r) F h L Q := by
  unfold RX at *
  intro a w f s
  have hlen : xs.length = str.size := by rw [← hxs]; simp
  have hrun := run_bytes_of_string (P := P) w S D e str tS.u tD.u te.u
  obtain ⟨cap, hcap⟩ : ∃ cap, cap = grownCap w str.size 0 e := ⟨_, rfl⟩
  have hge : str.size ≤ cap := by rw [hcap]; exact grownCap_ge ..
  have hcm : cap ≤ maxLen := by rw [hcap]; exact grownCap_le_maxLen w str.size 0 e hsz
  rw [← hcap] at hrun
  have hbs : (bytesRow str cap).size = cap := by
    simp only [bytesRow, Array.size_append, Array.size_map, Array.size_replicate]
    have : str.data.size = str.size := rfl
    omega
  have s1 := s.drew.alloc (.cells (bytesRow str cap) e ((bytesRow str cap).size, (bytesRow str cap).size + 1))
  have he : (execOp a.eval ⟨dst, .convert S D x, ty, pos, af, gd⟩).run P w = .ok (.value (.slice (some ⟨w.heap.size, 0, none⟩) str.size cap)) (w.drew.alloc (.cells (bytesRow str cap) e ((bytesRow str cap).size, (bytesRow str cap).size + 1))) := by
    simp only [execOp, f.ev hx, Sem.run_bind, hrun]
    rfl
  have s2 : St K h (Res.srow e (.slice (some ⟨w.heap.size, 0, none⟩) str.size cap) xs.length xs :: L) (w.drew.alloc (.cells (bytesRow str cap) e ((bytesRow str cap).size, (bytesRow str cap).size + 1))) := by
    refine ⟨s1.os, s1.tape, s1.output, s1.drawn, s1.size, s1.keep, ⟨s1.hd.view, fun r hr => ?_⟩, ?_, ?_, s1.grow, s1.new, ?_⟩
    · rcases List.mem_cons.1 hr with rfl | hr
      · refine ⟨rfl, .inr ⟨w.heap.size, cap, _, _, by rw [hlen], heap_alloc_new w.drew _, by omega, hcm, hbs, ?_, .inr (Nat.le_refl _)⟩⟩
        rw [← hxs]
        simp only [bytesRow, Array.toList_append, List.length_map, Array.length_toList, Array.toList_map]
        rw [List.take_append_of_le_length (by simp)]
        exact List.take_of_length_le (by simp)
      · exact s1.hd.own r (List.mem_cons_of_mem _ hr)
    · have := s1.nd
      simpa [doms_cons, Res.srow, Res.blk, Value.ownBlock] using this
    · intro b hb
      refine s1.src b ?_
      simpa [doms_cons, Res.srow, Res.blk, Value.ownBlock] using hb
    · intro b hb
      refine s1.dis b ?_
      simpa [doms_cons, Res.srow, Res.blk, Value.ownBlock] using hb
  refine .inr (.inr ⟨wantedF_ok f hw, hl, o1.out s, ?_⟩)
  unfold Oper.wp
  rw [he]
  exact ⟨(o2 _).out s2, hn _ _ _ (f.put hd _) s2⟩
theorem src_str {str : ByteArray} {m : Nat} {news : List Value} (hm : str.size = m) (hn : (str.data.map fun b => Value.int .u8 b.toNat).toList = news) : Src P h L (.string str) m news := by
  subst hm
  refine ⟨fun w => by simp [Builtin.lenOf], fun w _ => ?_, by rw [← hn]; simp⟩
  subst hn
  have hx : (Array.map (fun b : UInt8 => Value.int IntKind.u8 (b.toNat : Int)) str.data).extract 0 str.size = Array.map (fun b : UInt8 => Value.int IntKind.u8 (b.toNat : Int)) str.data := by
    have hs : str.size = (Array.map (fun b : UInt8 => Value.int IntKind.u8 (b.toNat : Int)) str.data).size := by rw [Array.size_map]; rfl
    rw [hs, Array.extract_size]
  simp only [Builtin.firstCells, hx, Array.toArray_toList]
  simp [hx]
end
end Go.Ck
end
