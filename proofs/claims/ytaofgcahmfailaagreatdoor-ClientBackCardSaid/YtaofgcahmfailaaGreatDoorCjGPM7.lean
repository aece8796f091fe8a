/-
  Part 7 of a proof: ShB ShC ChA.
  Conditions: each theorem states its own.
-/
import Derived.Test.YtaofgcahmfailaaGreatDoorCjGPM6
set_option maxRecDepth 100000
set_option linter.unusedVariables false
section
namespace Go.Proofs.YtaofgcahmfailaaGreatDoor
open Go Go.Ck
set_option maxHeartbeats 2000000
theorem high_sp (v : Value) (l : List Int) (hb : Bytes l) (h8 : l.length ≤ 8) (h : View) (hv : Bs8 h v l) (w : World) (s : St ⟨w, h, []⟩ h [] w) :
    Calls Tryz.prog 126 [v].toArray w fun e w' => e = .returned (.int .u64 (valB l)) ∧ St ⟨w, h, []⟩ h [] w' := by
  obtain ⟨_, ad, cap, rfl, hcap, _⟩ := id hv
  refine calls_enter Tryz.func126 rfl Tryz.ntmps126 rfl s ?_
  repeat' (first|refine tw_ ?_|(refine ta_ ?_;intro _)|((fail_if_success (refine ybi rfl ?_));refine ybj rfl ?_ ?_<;>(intro ht;rw [ht];first|replace ht := oet_ ht|replace ht := oef_ ht|skip))|(refine ych ?_;first|(refine ybw rfl ?_ ?_<;>intro ht)|(refine ybx rfl ?_ ?_<;>intro ht)))
  refine cx_loop (X := Nat) (fun k => [(3, .int .u64 (valB (l.take k))), (6, .slice ad l.length cap), (7, .int .i64 (l.length : Nat)), (8, .int .i64 (k : Nat))]) (fun _ => h) (fun _ => []) (fun k => k ≤ l.length) (fun k => l.length - k) 0 (Nat.zero_le _) ts_ (fun _ s => s) ?_
  intro k hk
  by_cases hkl : k < l.length
  · obtain ⟨bs, o, rfl⟩ := hv.ad (by omega) (by omega)
    have hbd := valB_bd hb k (by omega)
    have hp : (256 : Int) ^ k ≤ 256 ^ 7 := p256 (by omega)
    have e7 : (256 : Int) ^ 7 = 72057594037927936 := by decide
    rw [e7] at hp
    have hc := hb l[k] (List.getElem_mem _)
    have hel : ∀ L, CellAt h L bs (o + k * 1) (.int .u8 l[k]) := fun L => (hv.cells (L := L)).cell (by simp [bcs, hkl])
    have hsh : IntKind.u64.wrap (valB (l.take k) * 2 ^ 8) = valB (l.take k) * 256 := by
      have e : (2 : Int) ^ 8 = 256 := by decide
      rw [e]
      exact wrap_u64 (by omega) (by omega)
    have hcw : IntKind.u64.wrap l[k] = l[k] := wrap_u64 hc.1 (by omega)
    have hnext := (valB_succ hkl).symm
    repeat' (first|(refine ycf ?_;apply ybk;(·first|(first|(refine qv_shl (j := 8) rfl rfl (by decide) hsh)|(refine qv_convert_int' rfl hcw)|(refine qv_or (j := valB (l.take k)) rfl rfl rfl hbd.1 (by omega) hc hnext)|exact tk_)|(apply yae;(·rfl);(·exact hel _)));(·rfl);(·rfl))|refine t1_ ?_|(refine ta_ ?_;intro _)|((fail_if_success (refine ybi rfl ?_));refine ybj rfl ?_ ?_<;>(intro ht;rw [ht];first|replace ht := oet_ ht|replace ht := oef_ ht|skip))|(refine ych ?_;first|(refine ybw rfl ?_ ?_<;>intro ht)|(refine ybx rfl ?_ ?_<;>intro ht)))
    exact nx_round (k + 1) (by show k + 1 ≤ _; omega) (by show l.length - (k + 1) < l.length - k; omega) ts_ (fun _ s => s)
  · have ek : k = l.length := by omega
    subst ek
    rw [List.take_length]
    repeat' (first|(refine ycf ?_;apply ybk;(·first|(exact tk_)|(apply yae;(·rfl);(·exact hel _)));(·rfl);(·rfl))|refine t1_ ?_|(refine ta_ ?_;intro _)|((fail_if_success (refine ybi rfl ?_));refine ybj rfl ?_ ?_<;>(intro ht;rw [ht];first|replace ht := oet_ ht|replace ht := oef_ ht|skip))|(refine ych ?_;first|(refine ybw rfl ?_ ?_<;>intro ht)|(refine ybx rfl ?_ ?_<;>intro ht)))
    exact nx_ret1 rfl (rv_tmp rfl) (fun w' s' => ⟨rfl, s'⟩)
def hi32 (l : List Int) : W32 := BitVec.ofInt 32 (valB l)
theorem High32_sp (v : Value) (l : List Int) (hb : Bytes l) (h4 : l.length = 4) (h : View) (hv : Bs8 h v l) (w : World) (s : St ⟨w, h, []⟩ h [] w) :
    Calls Tryz.prog 121 [v].toArray w fun e w' => e = .returned (.tuple #[v32 (hi32 l), .bool true]) ∧ St ⟨w, h, []⟩ h [] w' := by
  have hw : IntKind.u32.wrap (valB l) = ((hi32 l).toNat : Int) := wrapw rfl rfl _
  have H := high_sp v l hb (by omega) h hv
  obtain ⟨_, ad, cap, rfl, hcap, _⟩ := id hv
  refine calls_enter Tryz.func121 rfl Tryz.ntmps121 rfl s ?_
  repeat' (first|(refine ycf ?_;apply ybk;(·first|(first|(refine qv_convert_int' rfl hw)|exact tk_)|(apply yae;(·rfl);(·exact hel _)));(·rfl);(·rfl))|refine t1_ ?_|(refine ta_ ?_;intro _)|((fail_if_success (refine ybi rfl ?_));refine ybj rfl ?_ ?_<;>(intro ht;rw [ht];first|replace ht := oet_ ht|replace ht := oef_ ht|skip))|(refine ych ?_;first|(refine ybw rfl ?_ ?_<;>intro ht)|(refine ybx rfl ?_ ?_<;>intro ht)))
  (refine ycn (ycp Tryz.func126 rfl (by kernel_rfl) rfl) (H) rfl rfl rfl ?_ ?_; (· (exact to_)))
  repeat' (first|(refine ycf ?_;apply ybk;(·first|(first|(refine qv_convert_int' rfl hw)|exact tk_)|(apply yae;(·rfl);(·exact hel _)));(·rfl);(·rfl))|refine t1_ ?_|(refine ta_ ?_;intro _)|((fail_if_success (refine ybi rfl ?_));refine ybj rfl ?_ ?_<;>(intro ht;rw [ht];first|replace ht := oet_ ht|replace ht := oef_ ht|skip))|(refine ych ?_;first|(refine ybw rfl ?_ ?_<;>intro ht)|(refine ybx rfl ?_ ?_<;>intro ht)))
  exact nx_ret2 rfl (rv_tmp rfl) (rv_tmp rfl) (fun w' s' => ⟨rfl, s'⟩)
def up32 (l : List W32) : List Value := l.map v32
def pad32 (n : Nat) (l : List W32) : List W32 := l ++ List.replicate (n - l.length) 0
theorem up32_len (l : List W32) : (up32 l).length = l.length := by simp [up32]
theorem pad32_len {n : Nat} {l : List W32} (h : l.length ≤ n) : (pad32 n l).length = n := by simp [pad32]; omega
theorem pad32_full {n : Nat} {l : List W32} (h : l.length = n) : pad32 n l = l := by simp [pad32, h]
theorem pad32_set {n k : Nat} {l : List W32} {x : W32} (hk : l.length = k) (h : k < n) : (pad32 n l).set k x = pad32 n (l ++ [x]) := by
  subst hk
  unfold pad32
  rw [List.set_append_right _ _ (Nat.le_refl _), Nat.sub_self, show n - l.length = (n - (l ++ [x]).length) + 1 by simp; omega, List.replicate_succ, List.set_cons_zero]
  simp
theorem pad32_at {n k : Nat} {l : List W32} (hk : k < l.length) : (pad32 n l)[k]? = some (l.getD k 0) := by
  unfold pad32
  rw [List.getElem?_append_left hk, List.getD_eq_getElem?_getD, List.getElem?_eq_getElem hk]
  rfl
theorem up32_at {l : List W32} {k : Nat} {x : W32} (h : l[k]? = some x) : (up32 l)[k]? = some (v32 x) := by
  unfold up32
  rw [List.getElem?_map, h]
  rfl
theorem cell_w {h : View} {L : List Res} {b k : Nat} {l : List W32} {x : W32} {i : Nat} (c : Cells h L ⟨b, 0, none⟩ (up32 l)) (hk : l[k]? = some x) (hi : i = k) : CellAt h L b i (v32 x) := by
  subst hi
  have := c.cell (up32_at hk)
  rwa [Nat.zero_add] at this
theorem spl_w {l : List W32} {x : W32} {i o : Nat} (ho : o = i) (hi : i < l.length) : spl (up32 l).toArray.toList o (v32 x).cells.toList = up32 (l.set i x) := by
  subst ho
  show spl (up32 l) o [v32 x] = _
  unfold spl up32
  rw [List.map_set, List.set_eq_take_append_cons_drop]
  simp [hi]
theorem fit_w {l : List W32} {x : W32} {n i o : Nat} (hu : l.length = n) (ho : o = i) (hi : i < n) : o + (v32 x).cells.size ≤ (up32 l).toArray.size := by
  subst ho
  show o + 1 ≤ (up32 l).toArray.size
  simp [up32_len, hu]
  omega
theorem w_sz {l : List W32} {n : Nat} (h : l.length = n) : (Value.agg (up32 l).toArray).cells.size = n := by
  show (up32 l).toArray.size = n
  simp [up32_len, h]
theorem w_fit {l : List W32} {cs : Array Value} {n : Nat} (h : l.length = n) (hc : cs.size = n) : 0 + (Value.agg (up32 l).toArray).cells.size ≤ cs.size := by rw [w_sz h, hc]; omega
theorem w_all {l : List W32} {cs : List Value} {n : Nat} (h : l.length = n) (hc : cs.length = n) : (Value.agg (up32 l).toArray).cells.toList.length = cs.length := by
  rw [hc]
  show (up32 l).length = n
  rw [up32_len, h]
theorem w_one (l : List W32) : (Value.agg (up32 l).toArray).cells.toList.all Value.oneCell' = true := by
  show (up32 l).all Value.oneCell' = true
  refine List.all_eq_true.2 fun x hx => ?_
  obtain ⟨a, _, rfl⟩ := List.mem_map.1 hx
  rfl
def nextW (w : List W32) : W32 := movedF (w.getD (w.length - 2) 0) 17 19 10 + w.getD (w.length - 7) 0 + movedF (w.getD (w.length - 15) 0) 7 18 3 + w.getD (w.length - 16) 0
def wsF (b : List Int) : Nat → List W32
  | 0 => []
  | k + 1 => wsF b k ++ [if k < 16 then hi32 ((b.drop (4 * k)).take 4) else nextW (wsF b k)]
theorem wsF_len (b : List Int) : ∀ k, (wsF b k).length = k
  | 0 => rfl
  | k + 1 => by simp [wsF, wsF_len b k]
section
variable {P : Program} {n : Nat} {F : List (Nat × Value)} {h : View} {L : List Res} {dst : Option Nat} {ty : Nat} {pos : String} {af : Array Edge} {gd : Option (Nat × Bool)}
theorem qv_slice_ij {T e k : Nat} {x y z : Operand} {ad : Option Addr} {len cap : Nat} (i jn : Nat) {i' j : Int} {ki kj : IntKind} [tu : TyU P T (.slice e)] [ts : TyS P e k] (hx : ev F x = some (.slice ad len cap)) (hy : ev F y = some (.int ki i')) (hz : ev F z = some (.int kj j)) (hi : i' = (i : Int)) (hj : j = (jn : Int)) (h1 : i ≤ jn) (h2 : jn ≤ cap) :
    QV P n F h L ⟨dst, .slice T x (some y) (some z) none, ty, pos, af, gd⟩ (.slice (cutF ad cap i k) (jn - i) (cap - i)) := .mk fun a w f s => by
  subst hi hj
  have h3 : (0 : Int) ≤ (i : Int) ∧ (i : Int) ≤ (jn : Int) := by omega
  have h4 : (0 : Int) ≤ (jn : Int) ∧ (jn : Int) ≤ (cap : Int) := by omega
  simp [execOp, f.ev hx, f.ev hy, f.ev hz, Instr.sliceAt, Instr.slice, Instr.sliceBounds, Instr.sliceBound, asIntOf, run_underlying tu.u, h1, h2, h3, h4, ts.s, cutF]
end
theorem bs_mid {h : View} {ad : Option Addr} {cap : Nat} {l : List Int} (s : Bs8 h (.slice ad l.length cap) l) {i j : Nat} (hij : i ≤ j) (hj : j ≤ l.length) : Bs8 h (.slice (cutF ad cap i 1) (j - i) (cap - i)) ((l.drop i).take (j - i)) := by
  have h1 := sc_drop s (by decide) (j := i) (by omega)
  have h2 := sc_take h1 (j := j - i) (by omega)
  unfold Bs8
  have e1 : ((l.drop i).take (j - i)).length = j - i := by simp; omega
  have e2 : bcs ((l.drop i).take (j - i)) = ((bcs l).drop (i * 1)).take ((j - i) * 1) := by simp [bcs]
  rw [e1, e2]
  exact h2
theorem wsF_next (b : List Int) {k : Nat} (hk : 16 ≤ k) : wsF b (k + 1) = wsF b k ++ [nextW (wsF b k)] := by
  show wsF b k ++ [_] = _
  rw [if_neg (by omega)]
theorem schedule_sp (v : Value) (b : List Int) (hb : Bytes b) (h64 : b.length = 64) (h : View) (hv : Bs8 h v b) (w : World) (s : St ⟨w, h, []⟩ h [] w) :
    Calls Tryz.prog 113 [v].toArray w fun e w' => e = .returned (.agg (up32 (wsF b 64)).toArray) ∧ St ⟨w, h, []⟩ h [] w' := by
  obtain ⟨_, ad, cap, rfl, hcap, _⟩ := id hv
  refine calls_enter Tryz.func113 rfl Tryz.ntmps113 rfl s ?_
  repeat' (first|(refine ycf ?_;apply ybk;(·first|(first|(refine qv_convert_int' rfl hw)|exact tk_)|(apply yae;(·rfl);(·exact hel _)));(·rfl);(·rfl))|refine t1_ ?_|(refine ta_ ?_;intro _)|((fail_if_success (refine ybi rfl ?_));refine ybj rfl ?_ ?_<;>(intro ht;rw [ht];first|replace ht := oet_ ht|replace ht := oef_ ht|skip))|(refine ych ?_;first|(refine ybw rfl ?_ ?_<;>intro ht)|(refine ybx rfl ?_ ?_<;>intro ht)))
  rename_i b2 b3
  refine cx_loop (X := Nat) (fun k => [(0, .slice ad b.length cap), (2, .pointer (some ⟨b2, 0, none⟩)), (3, .pointer (some ⟨b3, 0, none⟩)), (6, .int .i64 (k : Nat))]) (fun _ => h) (fun k => [Res.blk b3 (.cells (up32 (pad32 64 (wsF b k))).toArray 204 (0, 0)), Res.blk b2 (.cells (up32 (pad32 64 [])).toArray 204 (0, 0))]) (fun k => k ≤ 16) (fun k => 16 - k) 0 (Nat.zero_le _) ts_ (fun _ s => s) ?_
  intro k hk
  have hwl := wsF_len b k
  by_cases hk16 : k < 16
  · have hm : IntKind.i64.wrap (4 * (k : Int)) = 4 * (k : Int) := by rw [IntKind.wrap_i64]; omega
    have e4 : 4 * k + 4 - 4 * k = 4 := by omega
    have hB : Bs8 h (.slice (cutF ad cap (4 * k) 1) (4 * k + 4 - 4 * k) (cap - 4 * k)) ((b.drop (4 * k)).take 4) := by
      have := bs_mid hv (i := 4 * k) (j := 4 * k + 4) (by omega) (by omega)
      rw [e4] at this ⊢
      exact this
    have H := High32_sp _ _ (bytes_take (bytes_drop hb (4 * k)) 4) (by simp; omega) h hB
    have hst : (pad32 64 (wsF b k)).set k (hi32 ((b.drop (4 * k)).take 4)) = pad32 64 (wsF b (k + 1)) := by
      rw [pad32_set hwl (by omega)]
      show _ = pad32 64 (wsF b k ++ [_])
      rw [if_pos hk16]
    have hpl : (pad32 64 (wsF b k)).length = 64 := pad32_len (by omega)
    rw [show (4 : Int) * (k : Int) = ((4 * k : Nat) : Int) by omega] at hm
    repeat' (first|(refine ycf ?_;apply ybk;(·first|(first|exact tk_|(refine qv_mul' rfl rfl hm)|(refine qv_slice_ij (4 * k) (4 * k + 4) rfl rfl rfl rfl (by omega) (by omega) (by omega)))|(apply yae;(·rfl);(·exact hel _)));(·rfl);(·rfl))|refine t1_ ?_|(refine ta_ ?_;intro _)|((fail_if_success (refine ybi rfl ?_));refine ybj rfl ?_ ?_<;>(intro ht;rw [ht];first|replace ht := oet_ ht|replace ht := oef_ ht|skip))|(refine ych ?_;first|(refine ybw rfl ?_ ?_<;>intro ht)|(refine ybx rfl ?_ ?_<;>intro ht)))
    (refine ycn (ycp Tryz.func121 rfl (by kernel_rfl) rfl) (H) rfl rfl rfl ?_ ?_; (· (exact to_)))
    repeat' (first|(refine ycf ?_;apply ybk;(·first|(first|exact tk_|(refine qv_mul' rfl rfl hm)|(refine qv_slice_ij (4 * k) (4 * k + 4) rfl rfl rfl rfl (by omega) (by omega) (by omega)))|(apply yae;(·rfl);(·exact hel _)));(·rfl);(·rfl))|(refine ybg 0 rfl rfl rfl rfl (fit_w (n := 64) (i := k) hpl (by omega) (by omega)) rfl ((spl_w (i := k) (by omega) (by omega)).trans (congrArg up32 hst)) rfl rfl ?_ ?_ ?_;(·(exact to_));(·(exact to_)))|refine t1_ ?_|(refine ta_ ?_;intro _)|((fail_if_success (refine ybi rfl ?_));refine ybj rfl ?_ ?_<;>(intro ht;rw [ht];first|replace ht := oet_ ht|replace ht := oef_ ht|skip))|(refine ych ?_;first|(refine ybw rfl ?_ ?_<;>intro ht)|(refine ybx rfl ?_ ?_<;>intro ht)))
    exact nx_round (k + 1) (by show k + 1 ≤ 16; omega) (by show 16 - (k + 1) < 16 - k; omega) ts_ (fun _ s => s)
  · have ek : k = 16 := by omega
    subst ek
    repeat' (first|(refine ycf ?_;apply ybk;(·first|(exact tk_)|(apply yae;(·rfl);(·exact hel _)));(·rfl);(·rfl))|(refine ybg 0 rfl rfl rfl rfl (fit_w (n := 64) (i := k) hpl (by omega) (by omega)) rfl ((spl_w (i := k) (by omega) (by omega)).trans (congrArg up32 hst)) rfl rfl ?_ ?_ ?_;(·(exact to_));(·(exact to_)))|refine t1_ ?_|(refine ta_ ?_;intro _)|((fail_if_success (refine ybi rfl ?_));refine ybj rfl ?_ ?_<;>(intro ht;rw [ht];first|replace ht := oet_ ht|replace ht := oef_ ht|skip))|(refine ych ?_;first|(refine ybw rfl ?_ ?_<;>intro ht)|(refine ybx rfl ?_ ?_<;>intro ht)))
    refine cx_loop (X := Nat) (fun k => [(2, .pointer (some ⟨b2, 0, none⟩)), (3, .pointer (some ⟨b3, 0, none⟩)), (5, .int .i64 (16 + k : Nat))]) (fun _ => h) (fun k => [Res.blk b3 (.cells (up32 (pad32 64 (wsF b (16 + k)))).toArray 204 (0, 0)), Res.blk b2 (.cells (up32 (pad32 64 [])).toArray 204 (0, 0))]) (fun k => k ≤ 48) (fun k => 48 - k) 0 (Nat.zero_le _) ts_ (fun _ s => s) ?_
    intro k hk
    have hwl := wsF_len b (16 + k)
    by_cases hk48 : k < 48
    · have hst : (pad32 64 (wsF b (16 + k))).set (16 + k) (nextW (wsF b (16 + k))) = pad32 64 (wsF b (16 + (k + 1))) := by
        rw [pad32_set hwl (by omega), show 16 + (k + 1) = 16 + k + 1 by omega, wsF_next b (by omega)]
      have hpl : (pad32 64 (wsF b (16 + k))).length = 64 := pad32_len (by omega)
      have hnx : nextW (wsF b (16 + k)) = movedF ((wsF b (16 + k)).getD (16 + k - 2) 0) 17 19 10 + (wsF b (16 + k)).getD (16 + k - 7) 0 + movedF ((wsF b (16 + k)).getD (16 + k - 15) 0) 7 18 3 + (wsF b (16 + k)).getD (16 + k - 16) 0 := by
        unfold nextW
        rw [hwl]
      rw [hnx] at hst
      have c2 := pad32_at (n := 64) (l := wsF b (16 + k)) (k := 16 + k - 2) (by omega)
      have c7 := pad32_at (n := 64) (l := wsF b (16 + k)) (k := 16 + k - 7) (by omega)
      have c15 := pad32_at (n := 64) (l := wsF b (16 + k)) (k := 16 + k - 15) (by omega)
      have c16 := pad32_at (n := 64) (l := wsF b (16 + k)) (k := 16 + k - 16) (by omega)
      generalize (wsF b (16 + k)).getD (16 + k - 2) 0 = x2 at c2 hst
      generalize (wsF b (16 + k)).getD (16 + k - 7) 0 = x7 at c7 hst
      generalize (wsF b (16 + k)).getD (16 + k - 15) 0 = x15 at c15 hst
      generalize (wsF b (16 + k)).getD (16 + k - 16) 0 = x16 at c16 hst
      repeat' (first|(refine ycf ?_;apply ybk;(·first|(first|exact tk_|(apply qv_addw<;>rfl))|(apply yae;(·rfl);(·(first|exact cell_w (yaz 0 rfl) c2 (by omega)|exact cell_w (yaz 0 rfl) c7 (by omega)|exact cell_w (yaz 0 rfl) c15 (by omega)|exact cell_w (yaz 0 rfl) c16 (by omega)))));(·rfl);(·rfl))|(refine ybg 0 rfl rfl rfl rfl (fit_w (n := 64) (i := 16 + k) hpl (by omega) (by omega)) rfl ((spl_w (i := 16 + k) (by omega) (by omega)).trans (congrArg up32 hst)) rfl rfl ?_ ?_ ?_;(·(exact to_));(·(exact to_)))|refine t1_ ?_|(refine ta_ ?_;intro _)|((fail_if_success (refine ybi rfl ?_));refine ybj rfl ?_ ?_<;>(intro ht;rw [ht];first|replace ht := oet_ ht|replace ht := oef_ ht|skip))|(refine ych ?_;first|(refine ybw rfl ?_ ?_<;>intro ht)|(refine ybx rfl ?_ ?_<;>intro ht)))
      refine cx_region_draw' rfl (by kernel_rfl) ?_
      repeat' (refine ycf ?_;(first|(first|(apply ybm;(·(first|(first|exact tk_|(apply qv_addw<;>rfl))|(apply yae;(·rfl);(·(first|exact cell_w (yaz 0 rfl) c2 (by omega)|exact cell_w (yaz 0 rfl) c7 (by omega)|exact cell_w (yaz 0 rfl) c15 (by omega)|exact cell_w (yaz 0 rfl) c16 (by omega))))|exact tq_));(·rfl);(·rfl);(·(exact th_)))|refine ybl rfl rfl ?_|((fail_if_success (refine ybi rfl ?_));refine ybj rfl ?_ ?_<;>(intro ht;rw [ht];first|replace ht := oet_ ht|replace ht := oef_ ht|skip))|(refine tb_ ?_ ?_ ?_;(·(exact to_));(·intro _;(exact to_));intro _)|(first|(refine ybg 0 rfl rfl rfl rfl (fit_w (n := 64) (i := 16 + k) hpl (by omega) (by omega)) rfl ((spl_w (i := 16 + k) (by omega) (by omega)).trans (congrArg up32 hst)) rfl rfl ?_ ?_ ?_;(·(exact to_));(·(exact to_)))|(refine tqs_ ?_ ?_ ?_;(·(exact to_));(·(exact to_))))|(apply ybn;(·(first|(first|exact tk_|(apply qv_addw<;>rfl))|(apply yae;(·rfl);(·(first|exact cell_w (yaz 0 rfl) c2 (by omega)|exact cell_w (yaz 0 rfl) c7 (by omega)|exact cell_w (yaz 0 rfl) c15 (by omega)|exact cell_w (yaz 0 rfl) c16 (by omega))))|exact tq_));(·rfl);(·rfl);(·rfl);(·(exact to_))))|refine ycg ?_))
      (refine ycn (ycp Tryz.func122 rfl (by kernel_rfl) rfl) (moved_sp x2 17 19 10 (by omega) (by omega) h) rfl rfl rfl ?_ ?_; (· (exact to_)))
      repeat' (refine ycf ?_;(first|(first|(apply ybm;(·(first|(first|exact tk_|(apply qv_addw<;>rfl))|(apply yae;(·rfl);(·(first|exact cell_w (yaz 0 rfl) c2 (by omega)|exact cell_w (yaz 0 rfl) c7 (by omega)|exact cell_w (yaz 0 rfl) c15 (by omega)|exact cell_w (yaz 0 rfl) c16 (by omega))))|exact tq_));(·rfl);(·rfl);(·(exact th_)))|refine ybl rfl rfl ?_|((fail_if_success (refine ybi rfl ?_));refine ybj rfl ?_ ?_<;>(intro ht;rw [ht];first|replace ht := oet_ ht|replace ht := oef_ ht|skip))|(refine tb_ ?_ ?_ ?_;(·(exact to_));(·intro _;(exact to_));intro _)|(first|(refine ybg 0 rfl rfl rfl rfl (fit_w (n := 64) (i := 16 + k) hpl (by omega) (by omega)) rfl ((spl_w (i := 16 + k) (by omega) (by omega)).trans (congrArg up32 hst)) rfl rfl ?_ ?_ ?_;(·(exact to_));(·(exact to_)))|(refine tqs_ ?_ ?_ ?_;(·(exact to_));(·(exact to_))))|(apply ybn;(·(first|(first|exact tk_|(apply qv_addw<;>rfl))|(apply yae;(·rfl);(·(first|exact cell_w (yaz 0 rfl) c2 (by omega)|exact cell_w (yaz 0 rfl) c7 (by omega)|exact cell_w (yaz 0 rfl) c15 (by omega)|exact cell_w (yaz 0 rfl) c16 (by omega))))|exact tq_));(·rfl);(·rfl);(·rfl);(·(exact to_))))|refine ycg ?_))
      (refine ycn (ycp Tryz.func122 rfl (by kernel_rfl) rfl) (moved_sp x15 7 18 3 (by omega) (by omega) h) rfl rfl rfl ?_ ?_; (· (exact to_)))
      repeat' (refine ycf ?_;(first|(first|(apply ybm;(·(first|(first|exact tk_|(apply qv_addw<;>rfl))|(apply yae;(·rfl);(·(first|exact cell_w (yaz 0 rfl) c2 (by omega)|exact cell_w (yaz 0 rfl) c7 (by omega)|exact cell_w (yaz 0 rfl) c15 (by omega)|exact cell_w (yaz 0 rfl) c16 (by omega))))|exact tq_));(·rfl);(·rfl);(·(exact th_)))|refine ybl rfl rfl ?_|((fail_if_success (refine ybi rfl ?_));refine ybj rfl ?_ ?_<;>(intro ht;rw [ht];first|replace ht := oet_ ht|replace ht := oef_ ht|skip))|(refine tb_ ?_ ?_ ?_;(·(exact to_));(·intro _;(exact to_));intro _)|(first|(refine ybg 0 rfl rfl rfl rfl (fit_w (n := 64) (i := 16 + k) hpl (by omega) (by omega)) rfl ((spl_w (i := 16 + k) (by omega) (by omega)).trans (congrArg up32 hst)) rfl rfl ?_ ?_ ?_;(·(exact to_));(·(exact to_)))|(refine tqs_ ?_ ?_ ?_;(·(exact to_));(·(exact to_))))|(apply ybn;(·(first|(first|exact tk_|(apply qv_addw<;>rfl))|(apply yae;(·rfl);(·(first|exact cell_w (yaz 0 rfl) c2 (by omega)|exact cell_w (yaz 0 rfl) c7 (by omega)|exact cell_w (yaz 0 rfl) c15 (by omega)|exact cell_w (yaz 0 rfl) c16 (by omega))))|exact tq_));(·rfl);(·rfl);(·rfl);(·(exact to_))))|refine ycg ?_))
      repeat' (first|(refine ycf ?_;apply ybk;(·first|(first|exact tk_|(apply qv_addw<;>rfl)));(·rfl);(·rfl))|refine t1_ ?_|(refine ta_ ?_;intro _)|((fail_if_success (refine ybi rfl ?_));refine ybj rfl ?_ ?_<;>(intro ht;rw [ht];first|replace ht := oet_ ht|replace ht := oef_ ht|skip))|(refine ych ?_;first|(refine ybw rfl ?_ ?_<;>intro ht)|(refine ybx rfl ?_ ?_<;>intro ht)))
      exact nx_round (k + 1) (by show k + 1 ≤ 48; omega) (by show 48 - (k + 1) < 48 - k; omega) ts_ (fun _ s => s)
    · have ek : k = 48 := by omega
      subst ek
      have e64 : pad32 64 (wsF b (16 + 48)) = wsF b 64 := pad32_full (wsF_len b 64)
      rw [e64]
      have hl64 := wsF_len b 64
      generalize wsF b 64 = ws at hl64 ⊢
      repeat' (first|(refine ycf ?_;apply ybk;(·first|(first|exact tk_|(apply yad;(·rfl);(·exact yaz 0 rfl);(·simp [up32_len, hl64]))));(·rfl);(·rfl))|(refine ybg 1 rfl rfl rfl (w_sz hl64) (w_fit hl64 (by simp [up32_len, pad32])) (w_one ws) (ybh (w_all hl64 (by simp [up32_len, pad32]))) rfl rfl ?_ ?_ ?_;(·(exact to_));(·(exact to_)))|refine t1_ ?_|(refine ta_ ?_;intro _)|((fail_if_success (refine ybi rfl ?_));refine ybj rfl ?_ ?_<;>(intro ht;rw [ht];first|replace ht := oet_ ht|replace ht := oef_ ht|skip))|(refine ych ?_;first|(refine ybw rfl ?_ ?_<;>intro ht)|(refine ybx rfl ?_ ?_<;>intro ht)))
      exact nx_ret1 rfl (rv_cells rfl (yaz 1 rfl) (w_sz hl64)) (fun w' s' => ⟨rfl, s'.nil⟩)
end Go.Proofs.YtaofgcahmfailaaGreatDoor
end

section
namespace Go.Proofs.YtaofgcahmfailaaGreatDoor
open Go Go.Ck
set_option maxHeartbeats 4000000
def mixStep (v : List W32) (k w : W32) : List W32 :=
  let x := v.getD 7 0 + turnedF (v.getD 4 0) 6 11 25 + ((v.getD 4 0 &&& v.getD 5 0) ^^^ (~~~(v.getD 4 0) &&& v.getD 6 0)) + k + w
  let y := turnedF (v.getD 0 0) 2 13 22 + ((v.getD 0 0 &&& v.getD 1 0) ^^^ (v.getD 0 0 &&& v.getD 2 0) ^^^ (v.getD 1 0 &&& v.getD 2 0))
  [x + y, v.getD 0 0, v.getD 1 0, v.getD 2 0, v.getD 3 0 + x, v.getD 4 0, v.getD 5 0, v.getD 6 0]
def shK : List W32 := [1116352408, 1899447441, 3049323471, 3921009573, 961987163, 1508970993, 2453635748, 2870763221, 3624381080, 310598401, 607225278, 1426881987, 1925078388, 2162078206, 2614888103, 3248222580, 3835390401, 4022224774, 264347078, 604807628, 770255983, 1249150122, 1555081692, 1996064986, 2554220882, 2821834349, 2952996808, 3210313671, 3336571891, 3584528711, 113926993, 338241895, 666307205, 773529912, 1294757372, 1396182291, 1695183700, 1986661051, 2177026350, 2456956037, 2730485921, 2820302411, 3259730800, 3345764771, 3516065817, 3600352804, 4094571909, 275423344, 430227734, 506948616, 659060556, 883997877, 958139571, 1322822218, 1537002063, 1747873779, 1955562222, 2024104815, 2227730452, 2361852424, 2428436474, 2756734187, 3204031479, 3329325298]
def shH : List W32 := [1779033703, 3144134277, 1013904242, 2773480762, 1359893119, 2600822924, 528734635, 1541459225]
def roundsF (v ws : List W32) : Nat → List W32
  | 0 => v
  | k + 1 => mixStep (roundsF v ws k) (shK.getD k 0) (ws.getD k 0)
def mixF (v : List W32) (b : List Int) : List W32 := List.zipWith (· + ·) v (roundsF v (wsF b 64) 64)
theorem roundsF_len {v ws : List W32} (h : v.length = 8) : ∀ k, (roundsF v ws k).length = 8
  | 0 => h
  | k + 1 => rfl
theorem mixF_len {v : List W32} (b : List Int) (h : v.length = 8) : (mixF v b).length = 8 := by
  unfold mixF
  rw [List.length_zipWith, roundsF_len h, h]
  rfl
theorem list8 {α : Type} {l : List α} (h : l.length = 8) : ∃ a b c d e f g i, l = [a, b, c, d, e, f, g, i] := by
  match l, h with
  | [a, b, c, d, e, f, g, i], _ => exact ⟨a, b, c, d, e, f, g, i, rfl⟩
theorem shK_len : shK.length = 64 := rfl
def ShG (h : View) : Prop := (∃ e fz, h 1 = some (.cells (up32 shK).toArray e fz)) ∧ ∃ e fz, h 0 = some (.cells (up32 shH).toArray e fz)
theorem ShG.mono {h h' : View} (g : ShG h) (hl : Le h h') : ShG h' := by
  obtain ⟨⟨e, fz, g1⟩, e', fz', g2⟩ := g
  exact ⟨⟨e, fz, hl _ _ g1⟩, e', fz', hl _ _ g2⟩
theorem up32_one {l : List W32} : ∀ u ∈ up32 l, u.oneCell' = true := fun u hu => by
  obtain ⟨a, _, rfl⟩ := List.mem_map.1 hu
  rfl
def addF (v r : List W32) (i : Nat) : List W32 := List.zipWith (· + ·) (v.take i) (r.take i) ++ v.drop i
theorem addF_len {v r : List W32} {n : Nat} (h : v.length = n) (h2 : r.length = n) {i : Nat} (hi : i ≤ n) : (addF v r i).length = n := by
  simp [addF, h, h2]
  omega
theorem addF_at {v r : List W32} {n : Nat} (h : v.length = n) (h2 : r.length = n) {i : Nat} (hi : i < n) : (addF v r i)[i]? = some (v.getD i 0) := by
  unfold addF
  rw [List.getElem?_append_right (by simp; omega)]
  simp only [List.length_zipWith, List.length_take]
  rw [show min (min i v.length) (min i r.length) = i by omega, Nat.sub_self, List.getElem?_drop, Nat.add_zero, List.getD_eq_getElem?_getD, List.getElem?_eq_getElem (by omega)]
  rfl
theorem addF_set {v r : List W32} {n : Nat} (h : v.length = n) (h2 : r.length = n) {i : Nat} (hi : i < n) : (addF v r i).set i (v.getD i 0 + r.getD i 0) = addF v r (i + 1) := by
  have hz : (List.zipWith (· + ·) (v.take i) (r.take i)).length = i := by simp; omega
  have e1 : v.getD i 0 = v[i] := by simp [List.getD_eq_getElem?_getD, h, hi]
  have e2 : r.getD i 0 = r[i] := by simp [List.getD_eq_getElem?_getD, h2, hi]
  unfold addF
  rw [List.set_append_right _ _ (by omega), hz, Nat.sub_self, List.drop_eq_getElem_cons (by omega : i < v.length), List.set_cons_zero, List.take_succ_eq_append_getElem (by omega : i < v.length), List.take_succ_eq_append_getElem (by omega : i < r.length), List.zipWith_append (by simp; omega), e1, e2]
  simp
theorem addF_full {v r : List W32} {n : Nat} (h : v.length = n) (h2 : r.length = n) : addF v r n = List.zipWith (· + ·) v r := by
  unfold addF
  rw [List.take_of_length_le (by omega), List.take_of_length_le (by omega), List.drop_of_length_le (by omega), List.append_nil]
theorem getD_at {l : List W32} {i : Nat} (h : i < l.length) : l[i]? = some (l.getD i 0) := by
  rw [List.getD_eq_getElem?_getD, List.getElem?_eq_getElem h]
  rfl
theorem mix_sp (hv : List W32) (v : Value) (b : List Int) (h8 : hv.length = 8) (hb : Bytes b) (h64 : b.length = 64) (h : View) (hvv : Bs8 h v b) (hg : ShG h) (w : World) (s : St ⟨w, h, []⟩ h [] w) :
    Calls Tryz.prog 100 [.agg (up32 hv).toArray, v].toArray w fun e w' => e = .returned (.agg (up32 (mixF hv b)).toArray) ∧ St ⟨w, h, []⟩ h [] w' := by
  refine calls_enter Tryz.func100 rfl Tryz.ntmps100 rfl s ?_
  repeat' (first|refine tw_ ?_|(refine ta_ ?_;intro _)|((fail_if_success (refine ybi rfl ?_));refine ybj rfl ?_ ?_<;>(intro ht;rw [ht];first|replace ht := oet_ ht|replace ht := oef_ ht|skip))|(refine ych ?_;first|(refine ybw rfl ?_ ?_<;>intro ht)|(refine ybx rfl ?_ ?_<;>intro ht)))
  rename_i b4 b2
  (refine ycn (ycp Tryz.func113 rfl (by kernel_rfl) rfl) (schedule_sp v b hb h64 h hvv) rfl rfl rfl ?_ ?_; (· (exact to_)))
  have hl64 := wsF_len b 64
  obtain ⟨⟨eK, fzK, hgK⟩, _⟩ := hg
  have emix : mixF hv b = List.zipWith (· + ·) hv (roundsF hv (wsF b 64) 64) := rfl
  rw [emix]
  clear emix
  generalize wsF b 64 = ws at hl64 ⊢
  repeat' (first|(refine ycf ?_;apply ybk;(·first|(apply yad;(·rfl);(·exact yaz 2 rfl);(·exact w_sz h8)));(·rfl);(·rfl))|(first|(refine ybg 0 rfl rfl rfl (w_sz hl64) (w_fit hl64 (by rfl)) (w_one ws) (ybh (w_all hl64 (by rfl))) rfl rfl ?_ ?_ ?_;(·(exact to_));(·(exact to_)))|(refine ybg 0 rfl rfl rfl (w_sz h8) (w_fit h8 (by rfl)) (w_one hv) (ybh (w_all h8 (by rfl))) rfl rfl ?_ ?_ ?_;(·(exact to_));(·(exact to_))))|refine t1_ ?_|(refine ta_ ?_;intro _)|((fail_if_success (refine ybi rfl ?_));refine ybj rfl ?_ ?_<;>(intro ht;rw [ht];first|replace ht := oet_ ht|replace ht := oef_ ht|skip))|(refine ych ?_;first|(refine ybw rfl ?_ ?_<;>intro ht)|(refine ybx rfl ?_ ?_<;>intro ht)))
  rename_i b5 b6
  refine cx_loop (X := Nat) (fun k => [(2, .pointer (some ⟨b4, 0, none⟩)), (4, .pointer (some ⟨b2, 0, none⟩)), (5, .pointer (some ⟨b5, 0, none⟩)), (6, .pointer (some ⟨b6, 0, none⟩)), (14, .int .i64 (k : Nat))]) (fun _ => h)
    (fun k => [Res.blk b6 (.cells (up32 (roundsF hv ws k)).toArray 188 (0, 0)), Res.blk b5 (.cells (up32 ws).toArray 204 (0, 0)), Res.blk b2 (.cells (up32 (pad32 8 [])).toArray 188 (0, 0)), Res.blk b4 (.cells (up32 hv).toArray 188 (0, 0))])
    (fun k => k ≤ 64) (fun k => 64 - k) 0 (Nat.zero_le _) ts_ (fun _ s => s) ?_
  intro k hk
  have hrl := roundsF_len (ws := ws) h8 k
  by_cases hk64 : k < 64
  · have hKc : ∀ L, CellAt h L 1 (0 + ((k : Nat) : Int).toNat * 1) (v32 (shK.getD k 0)) := fun L => cell_view hgK (by
      rw [lget_eq]
      simp only [Int.toNat_natCast, Nat.mul_one, Nat.zero_add]
      refine up32_at ?_
      rw [List.getD_eq_getElem?_getD, List.getElem?_eq_getElem (by rw [shK_len]; exact hk64)]
      rfl)
    have hWc : ws[k]? = some (ws.getD k 0) := by
      rw [List.getD_eq_getElem?_getD, List.getElem?_eq_getElem (by omega)]
      rfl
    have hR : roundsF hv ws (k + 1) = mixStep (roundsF hv ws k) (shK.getD k 0) (ws.getD k 0) := rfl
    obtain ⟨a0, a1, a2, a3, a4, a5, a6, a7, er⟩ := list8 hrl
    rw [er] at hR ⊢
    generalize shK.getD k 0 = kk at hKc hR
    generalize ws.getD k 0 = wk at hWc hR
    repeat' (first|(refine ycf ?_;apply ybk;(·first|(first|exact tk_|(apply qv_addw<;>rfl)|(apply qv_andw<;>rfl)|(apply qv_xorw<;>rfl)|(apply qv_notw<;>rfl))|(apply yae;(·rfl);(·(first|exact hKc _|exact cell_w (yaz 1 rfl) hWc (by omega)))));(·rfl);(·rfl))|refine t1_ ?_|(refine ta_ ?_;intro _)|((fail_if_success (refine ybi rfl ?_));refine ybj rfl ?_ ?_<;>(intro ht;rw [ht];first|replace ht := oet_ ht|replace ht := oef_ ht|skip))|(refine ych ?_;first|(refine ybw rfl ?_ ?_<;>intro ht)|(refine ybx rfl ?_ ?_<;>intro ht)))
    refine cx_region_draw' rfl (by kernel_rfl) ?_
    repeat' (refine ycf ?_;(first|(first|(apply ybm;(·(first|(first|exact tk_|(apply qv_addw<;>rfl)|(apply qv_andw<;>rfl)|(apply qv_xorw<;>rfl)|(apply qv_notw<;>rfl))|(apply yae;(·rfl);(·(first|exact hKc _|exact cell_w (yaz 1 rfl) hWc (by omega))))|exact tq_));(·rfl);(·rfl);(·(exact th_)))|refine ybl rfl rfl ?_|((fail_if_success (refine ybi rfl ?_));refine ybj rfl ?_ ?_<;>(intro ht;rw [ht];first|replace ht := oet_ ht|replace ht := oef_ ht|skip))|(refine tb_ ?_ ?_ ?_;(·(exact to_));(·intro _;(exact to_));intro _)|(first|(refine tqs_ ?_ ?_ ?_;(·(exact to_));(·(exact to_))))|(apply ybn;(·(first|(first|exact tk_|(apply qv_addw<;>rfl)|(apply qv_andw<;>rfl)|(apply qv_xorw<;>rfl)|(apply qv_notw<;>rfl))|(apply yae;(·rfl);(·(first|exact hKc _|exact cell_w (yaz 1 rfl) hWc (by omega))))|exact tq_));(·rfl);(·rfl);(·rfl);(·(exact to_))))|refine ycg ?_))
    (refine ycn (ycp Tryz.func114 rfl (by kernel_rfl) rfl) (turned_sp a4 6 11 25 (by omega) (by omega) (by omega) h) rfl rfl rfl ?_ ?_; (· (exact to_)))
    repeat' (refine ycf ?_;(first|(first|(apply ybm;(·(first|(first|exact tk_|(apply qv_addw<;>rfl)|(apply qv_andw<;>rfl)|(apply qv_xorw<;>rfl)|(apply qv_notw<;>rfl))|(apply yae;(·rfl);(·(first|exact hKc _|exact cell_w (yaz 1 rfl) hWc (by omega))))|exact tq_));(·rfl);(·rfl);(·(exact th_)))|refine ybl rfl rfl ?_|((fail_if_success (refine ybi rfl ?_));refine ybj rfl ?_ ?_<;>(intro ht;rw [ht];first|replace ht := oet_ ht|replace ht := oef_ ht|skip))|(refine tb_ ?_ ?_ ?_;(·(exact to_));(·intro _;(exact to_));intro _)|(first|(refine tqs_ ?_ ?_ ?_;(·(exact to_));(·(exact to_))))|(apply ybn;(·(first|(first|exact tk_|(apply qv_addw<;>rfl)|(apply qv_andw<;>rfl)|(apply qv_xorw<;>rfl)|(apply qv_notw<;>rfl))|(apply yae;(·rfl);(·(first|exact hKc _|exact cell_w (yaz 1 rfl) hWc (by omega))))|exact tq_));(·rfl);(·rfl);(·rfl);(·(exact to_))))|refine ycg ?_))
    repeat' (first|(refine ycf ?_;apply ybk;(·first|(first|exact tk_|(apply qv_addw<;>rfl)|(apply qv_andw<;>rfl)|(apply qv_xorw<;>rfl)|(apply qv_notw<;>rfl))|(apply yae;(·rfl);(·(first|exact hKc _|exact cell_w (yaz 1 rfl) hWc (by omega)))));(·rfl);(·rfl))|refine t1_ ?_|(refine ta_ ?_;intro _)|((fail_if_success (refine ybi rfl ?_));refine ybj rfl ?_ ?_<;>(intro ht;rw [ht];first|replace ht := oet_ ht|replace ht := oef_ ht|skip))|(refine ych ?_;first|(refine ybw rfl ?_ ?_<;>intro ht)|(refine ybx rfl ?_ ?_<;>intro ht)))
    refine cx_region_draw' rfl (by kernel_rfl) ?_
    repeat' (refine ycf ?_;(first|(first|(apply ybm;(·(first|(first|exact tk_|(apply qv_addw<;>rfl)|(apply qv_andw<;>rfl)|(apply qv_xorw<;>rfl)|(apply qv_notw<;>rfl))|(apply yae;(·rfl);(·(first|exact hKc _|exact cell_w (yaz 1 rfl) hWc (by omega))))|exact tq_));(·rfl);(·rfl);(·(exact th_)))|refine ybl rfl rfl ?_|((fail_if_success (refine ybi rfl ?_));refine ybj rfl ?_ ?_<;>(intro ht;rw [ht];first|replace ht := oet_ ht|replace ht := oef_ ht|skip))|(refine tb_ ?_ ?_ ?_;(·(exact to_));(·intro _;(exact to_));intro _)|(first|(refine tqs_ ?_ ?_ ?_;(·(exact to_));(·(exact to_))))|(apply ybn;(·(first|(first|exact tk_|(apply qv_addw<;>rfl)|(apply qv_andw<;>rfl)|(apply qv_xorw<;>rfl)|(apply qv_notw<;>rfl))|(apply yae;(·rfl);(·(first|exact hKc _|exact cell_w (yaz 1 rfl) hWc (by omega))))|exact tq_));(·rfl);(·rfl);(·rfl);(·(exact to_))))|refine ycg ?_))
    (refine ycn (ycp Tryz.func114 rfl (by kernel_rfl) rfl) (turned_sp a0 2 13 22 (by omega) (by omega) (by omega) h) rfl rfl rfl ?_ ?_; (· (exact to_)))
    repeat' (refine ycf ?_;(first|(first|(apply ybm;(·(first|(first|exact tk_|(apply qv_addw<;>rfl)|(apply qv_andw<;>rfl)|(apply qv_xorw<;>rfl)|(apply qv_notw<;>rfl))|(apply yae;(·rfl);(·(first|exact hKc _|exact cell_w (yaz 1 rfl) hWc (by omega))))|exact tq_));(·rfl);(·rfl);(·(exact th_)))|refine ybl rfl rfl ?_|((fail_if_success (refine ybi rfl ?_));refine ybj rfl ?_ ?_<;>(intro ht;rw [ht];first|replace ht := oet_ ht|replace ht := oef_ ht|skip))|(refine tb_ ?_ ?_ ?_;(·(exact to_));(·intro _;(exact to_));intro _)|(first|(refine tqs_ ?_ ?_ ?_;(·(exact to_));(·(exact to_))))|(apply ybn;(·(first|(first|exact tk_|(apply qv_addw<;>rfl)|(apply qv_andw<;>rfl)|(apply qv_xorw<;>rfl)|(apply qv_notw<;>rfl))|(apply yae;(·rfl);(·(first|exact hKc _|exact cell_w (yaz 1 rfl) hWc (by omega))))|exact tq_));(·rfl);(·rfl);(·rfl);(·(exact to_))))|refine ycg ?_))
    repeat' (first|(refine ycf ?_;apply ybk;(·first|(first|exact tk_|(apply qv_addw<;>rfl)|(apply qv_andw<;>rfl)|(apply qv_xorw<;>rfl)|(apply qv_notw<;>rfl))|(apply yae;(·rfl);(·(first|exact hKc _|exact cell_w (yaz 1 rfl) hWc (by omega)))));(·rfl);(·rfl))|refine t1_ ?_|(refine ta_ ?_;intro _)|((fail_if_success (refine ybi rfl ?_));refine ybj rfl ?_ ?_<;>(intro ht;rw [ht];first|replace ht := oet_ ht|replace ht := oef_ ht|skip))|(refine ych ?_;first|(refine ybw rfl ?_ ?_<;>intro ht)|(refine ybx rfl ?_ ?_<;>intro ht)))
    refine cx_region_draw' rfl (by kernel_rfl) ?_
    repeat' (refine ycf ?_;(first|(first|(apply ybm;(·(first|(first|(refine qv_slice_arr_from (i := 1) rfl rfl (by omega))|(refine qv_slice_arr_to (j := 7) rfl rfl (by omega)))|(apply yae;(·rfl);(·(first|exact hKc _|exact cell_w (yaz 1 rfl) hWc (by omega))))|exact tq_));(·rfl);(·rfl);(·(exact th_)))|refine ybl rfl rfl ?_|((fail_if_success (refine ybi rfl ?_));refine ybj rfl ?_ ?_<;>(intro ht;rw [ht];first|replace ht := oet_ ht|replace ht := oef_ ht|skip))|(refine tb_ ?_ ?_ ?_;(·(exact to_));(·intro _;(exact to_));intro _)|(first|(refine tqs_ ?_ ?_ ?_;(·(exact to_));(·(exact to_))))|(apply ybn;(·(first|(first|(refine qv_slice_arr_from (i := 1) rfl rfl (by omega))|(refine qv_slice_arr_to (j := 7) rfl rfl (by omega)))|(apply yae;(·rfl);(·(first|exact hKc _|exact cell_w (yaz 1 rfl) hWc (by omega))))|exact tq_));(·rfl);(·rfl);(·rfl);(·(exact to_))))|refine ycg ?_))
    refine rx_copy (news := up32 [a0, a1, a2, a3, a4, a5, a6]) (cs' := up32 [a0, a0, a1, a2, a3, a4, a5, a6]) 0 rfl rfl rfl (Cells.take (vs := up32 [a0, a1, a2, a3, a4, a5, a6, a7]) (yaz (cs := (up32 [a0, a1, a2, a3, a4, a5, a6, a7]).toArray) 0 rfl) 7) rfl (by show 0 + 1 * 1 + 7 ≤ 8; omega) (fun u hu => up32_one u hu) rfl rfl rfl rfl ?_ ?_ ?_
    · (exact to_)
    · (exact to_)
    refine ycg ?_
    repeat' (first|(refine ycf ?_;apply ybk;(·first|(first|exact tk_|(apply qv_addw<;>rfl)));(·rfl);(·rfl))|refine t1_ ?_|(refine ta_ ?_;intro _)|((fail_if_success (refine ybi rfl ?_));refine ybj rfl ?_ ?_<;>(intro ht;rw [ht];first|replace ht := oet_ ht|replace ht := oef_ ht|skip))|(refine ych ?_;first|(refine ybw rfl ?_ ?_<;>intro ht)|(refine ybx rfl ?_ ?_<;>intro ht)))
    refine nx_round (k + 1) (by show k + 1 ≤ 64; omega) (by show 64 - (k + 1) < 64 - k; omega) ts_ (fun _ s => ?_)
    rw [hR]
    exact s
  · have ek : k = 64 := by omega
    subst ek
    obtain ⟨rr, hrr⟩ : ∃ rr, rr = roundsF hv ws 64 := ⟨_, rfl⟩
    rw [← hrr] at hrl ⊢
    repeat' (first|(refine ycf ?_;apply ybk;(·first|(exact tk_));(·rfl);(·rfl))|refine t1_ ?_|(refine ta_ ?_;intro _)|((fail_if_success (refine ybi rfl ?_));refine ybj rfl ?_ ?_<;>(intro ht;rw [ht];first|replace ht := oet_ ht|replace ht := oef_ ht|skip))|(refine ych ?_;first|(refine ybw rfl ?_ ?_<;>intro ht)|(refine ybx rfl ?_ ?_<;>intro ht)))
    refine cx_loop (X := Nat) (fun i => [(2, .pointer (some ⟨b4, 0, none⟩)), (4, .pointer (some ⟨b2, 0, none⟩)), (6, .pointer (some ⟨b6, 0, none⟩)), (78, .int .i64 (i : Nat))]) (fun _ => h)
      (fun i => [Res.blk b6 (.cells (up32 rr).toArray 188 (0, 0)), Res.blk b5 (.cells (up32 ws).toArray 204 (0, 0)), Res.blk b2 (.cells (up32 (pad32 8 [])).toArray 188 (0, 0)), Res.blk b4 (.cells (up32 (addF hv rr i)).toArray 188 (0, 0))])
      (fun i => i ≤ 8) (fun i => 8 - i) 0 (Nat.zero_le _) ts_ (fun _ s => s) ?_
    intro i hi
    have hal := addF_len h8 hrl hi
    by_cases hi8 : i < 8
    · have c1 := addF_at h8 hrl hi8
      have c2 := getD_at (l := rr) (i := i) (by omega)
      have hst := addF_set h8 hrl hi8
      generalize hv.getD i 0 = x1 at c1 hst
      generalize rr.getD i 0 = x2 at c2 hst
      repeat' (first|(refine ycf ?_;apply ybk;(·first|(first|exact tk_|(apply qv_addw<;>rfl))|(apply yae;(·rfl);(·(first|exact cell_w (yaz 3 rfl) c1 (by omega)|exact cell_w (yaz 0 rfl) c2 (by omega)))));(·rfl);(·rfl))|(refine ybg 3 rfl rfl rfl rfl (fit_w (n := 8) (i := i) hal (by omega) (by omega)) rfl ((spl_w (i := i) (by omega) (by omega)).trans (congrArg up32 hst)) rfl rfl ?_ ?_ ?_;(·(exact to_));(·(exact to_)))|refine t1_ ?_|(refine ta_ ?_;intro _)|((fail_if_success (refine ybi rfl ?_));refine ybj rfl ?_ ?_<;>(intro ht;rw [ht];first|replace ht := oet_ ht|replace ht := oef_ ht|skip))|(refine ych ?_;first|(refine ybw rfl ?_ ?_<;>intro ht)|(refine ybx rfl ?_ ?_<;>intro ht)))
      refine cx_region_draw' rfl (by kernel_rfl) ?_
      repeat' (refine ycf ?_;(first|(first|(apply ybm;(·(first|(first|exact tk_|(apply qv_addw<;>rfl))|(apply yae;(·rfl);(·(first|exact cell_w (yaz 3 rfl) c1 (by omega)|exact cell_w (yaz 0 rfl) c2 (by omega))))|exact tq_));(·rfl);(·rfl);(·(exact th_)))|refine ybl rfl rfl ?_|((fail_if_success (refine ybi rfl ?_));refine ybj rfl ?_ ?_<;>(intro ht;rw [ht];first|replace ht := oet_ ht|replace ht := oef_ ht|skip))|(refine tb_ ?_ ?_ ?_;(·(exact to_));(·intro _;(exact to_));intro _)|(first|(refine ybg 3 rfl rfl rfl rfl (fit_w (n := 8) (i := i) hal (by omega) (by omega)) rfl ((spl_w (i := i) (by omega) (by omega)).trans (congrArg up32 hst)) rfl rfl ?_ ?_ ?_;(·(exact to_));(·(exact to_)))|(refine tqs_ ?_ ?_ ?_;(·(exact to_));(·(exact to_))))|(apply ybn;(·(first|(first|exact tk_|(apply qv_addw<;>rfl))|(apply yae;(·rfl);(·(first|exact cell_w (yaz 3 rfl) c1 (by omega)|exact cell_w (yaz 0 rfl) c2 (by omega))))|exact tq_));(·rfl);(·rfl);(·rfl);(·(exact to_))))|refine ycg ?_))
      repeat' (first|(refine ycf ?_;apply ybk;(·first|(first|exact tk_|(apply qv_addw<;>rfl)));(·rfl);(·rfl))|refine t1_ ?_|(refine ta_ ?_;intro _)|((fail_if_success (refine ybi rfl ?_));refine ybj rfl ?_ ?_<;>(intro ht;rw [ht];first|replace ht := oet_ ht|replace ht := oef_ ht|skip))|(refine ych ?_;first|(refine ybw rfl ?_ ?_<;>intro ht)|(refine ybx rfl ?_ ?_<;>intro ht)))
      exact nx_round (i + 1) (by show i + 1 ≤ 8; omega) (by show 8 - (i + 1) < 8 - i; omega) ts_ (fun _ s => s)
    · have ei : i = 8 := by omega
      subst ei
      rw [addF_full h8 hrl, hrr]
      have hml : (List.zipWith (· + ·) hv (roundsF hv ws 64)).length = 8 := by rw [← hrr, List.length_zipWith, hrl, h8]; rfl
      rw [← hrr] at hml ⊢
      generalize List.zipWith (· + ·) hv rr = mm at hml ⊢
      repeat' (first|(refine ycf ?_;apply ybk;(·first|(first|exact tk_|(apply yad;(·rfl);(·exact yaz 3 rfl);(·exact w_sz hml))));(·rfl);(·rfl))|(refine ybg 2 rfl rfl rfl (w_sz hml) (w_fit hml (by rfl)) (w_one mm) (ybh (w_all hml (by rfl))) rfl rfl ?_ ?_ ?_;(·(exact to_));(·(exact to_)))|refine t1_ ?_|(refine ta_ ?_;intro _)|((fail_if_success (refine ybi rfl ?_));refine ybj rfl ?_ ?_<;>(intro ht;rw [ht];first|replace ht := oet_ ht|replace ht := oef_ ht|skip))|(refine ych ?_;first|(refine ybw rfl ?_ ?_<;>intro ht)|(refine ybx rfl ?_ ?_<;>intro ht)))
      exact nx_ret1 rfl (rv_cells rfl (yaz 2 rfl) (w_sz hml)) (fun w' s' => ⟨rfl, s'.nil⟩)
end Go.Proofs.YtaofgcahmfailaaGreatDoor
end

section
namespace Go.Proofs.YtaofgcahmfailaaGreatDoor
open Go Go.Ck
set_option maxHeartbeats 4000000
def qstep (s : List W32) (a b c d : Nat) (x y : Int) : List W32 :=
  let s := s.set a (s.getD a 0 + s.getD b 0)
  let s := s.set d (rotL (s.getD d 0 ^^^ s.getD a 0) (turnK x))
  let s := s.set c (s.getD c 0 + s.getD d 0)
  s.set b (rotL (s.getD b 0 ^^^ s.getD c 0) (turnK y))
theorem qstep_len (s : List W32) (a b c d : Nat) (x y : Int) : (qstep s a b c d x y).length = s.length := by simp [qstep]
def quarterF (s : List W32) (a b c d : Nat) : List W32 := qstep (qstep s a b c d 16 12) a b c d 8 7
theorem quarterF_len (s : List W32) (a b c d : Nat) : (quarterF s a b c d).length = s.length := by simp [quarterF, qstep_len]
section
variable {P : Program} {n : Nat} {F : List (Nat × Value)} {h : View} {L : List Res} {dst : Option Nat} {ty : Nat} {pos : String} {af : Array Edge} {gd : Option (Nat × Bool)}
theorem qv_index_agg {T : Nat} {x y : Operand} {cs vs : Array Value} {len : Nat} {ki : IntKind} {i : Int} {e k : Nat} [tu : TyU P T (.array len e)] [ta : TyA P e true] [ts : TyS P e k] (hx : ev F x = some (.agg cs)) (hy : ev F y = some (.int ki i))
    (h0 : 0 ≤ i) (h1 : i < len) (hv : cs.extract (i.toNat * k) (i.toNat * k + k) = vs) : QV P n F h L ⟨dst, .index T x y, ty, pos, af, gd⟩ (.agg vs) := .mk fun a w f s => by
  simp [execOp, f.ev hx, f.ev hy, Instr.index, asIntOf, run_underlying tu.u, h0, h1, ts.s, part, ta.a, hv]
end
def qby (k : Nat) : Int × Int := if k = 0 then (16, 12) else (8, 7)
def qF (st : List W32) (a b c d : Nat) : Nat → List W32
  | 0 => st
  | k + 1 => qstep (qF st a b c d k) a b c d (qby k).1 (qby k).2
theorem qF_len (st : List W32) (a b c d : Nat) : ∀ k, (qF st a b c d k).length = st.length
  | 0 => rfl
  | k + 1 => by rw [qF, qstep_len, qF_len st a b c d k]
theorem quarter_sp (bs : Nat) (e : TypeId) (st : List W32) (a b c d : Nat) (h16 : st.length = 16) (ha : a < 16) (hb : b < 16) (hc : c < 16) (hd : d < 16) (h : View) (w : World) (s : St ⟨w, h, doms [Res.blk bs (.cells (up32 st).toArray e (0, 0))]⟩ h [Res.blk bs (.cells (up32 st).toArray e (0, 0))] w) :
    Calls Tryz.prog 118 [.pointer (some ⟨bs, 0, none⟩), .int .i64 (a : Nat), .int .i64 (b : Nat), .int .i64 (c : Nat), .int .i64 (d : Nat)].toArray w fun r w' => r = .returned (.tuple #[]) ∧ St ⟨w, h, doms [Res.blk bs (.cells (up32 st).toArray e (0, 0))]⟩ h [Res.blk bs (.cells (up32 (quarterF st a b c d)).toArray e (0, 0))] w' := by
  refine calls_enter Tryz.func118 rfl Tryz.ntmps118 rfl s ?_
  repeat' (first|(refine ycf ?_;apply ybk;(·first|(apply qv_build_arr<;>rfl));(·rfl);(·rfl))|refine t1_ ?_|(refine ta_ ?_;intro _)|((fail_if_success (refine ybi rfl ?_));refine ybj rfl ?_ ?_<;>(intro ht;rw [ht];first|replace ht := oet_ ht|replace ht := oef_ ht|skip))|(refine ych ?_;first|(refine ybw rfl ?_ ?_<;>intro ht)|(refine ybx rfl ?_ ?_<;>intro ht)))
  refine cx_loop (X := Nat) (fun k => [(0, .pointer (some ⟨bs, 0, none⟩)), (1, .int .i64 (a : Nat)), (2, .int .i64 (b : Nat)), (3, .int .i64 (c : Nat)), (4, .int .i64 (d : Nat)), (14, .agg #[.int .i64 16, .int .i64 12, .int .i64 8, .int .i64 7]), (15, .int .i64 (k : Nat))]) (fun _ => h)
    (fun k => [Res.blk bs (.cells (up32 (qF st a b c d k)).toArray e (0, 0))]) (fun k => k ≤ 2) (fun k => 2 - k) 0 (Nat.zero_le _) ts_ (fun _ s => s) ?_
  intro k hk
  have l0 : (qF st a b c d k).length = 16 := by rw [qF_len, h16]
  by_cases hk2 : k < 2
  · have hix : (#[Value.int .i64 16, .int .i64 12, .int .i64 8, .int .i64 7] : Array Value).extract ((k : Int).toNat * 2) ((k : Int).toNat * 2 + 2) = #[.int .i64 (qby k).1, .int .i64 (qby k).2] := by
      rcases (by omega : k = 0 ∨ k = 1) with rfl | rfl <;> rfl
    have hnx : qF st a b c d (k + 1) = qstep (qF st a b c d k) a b c d (qby k).1 (qby k).2 := rfl
    generalize qF st a b c d k = s0 at l0 hnx ⊢
    generalize (qby k).1 = x at hix hnx
    generalize (qby k).2 = y at hix hnx
    have ca := getD_at (l := s0) (i := a) (by omega)
    have cb := getD_at (l := s0) (i := b) (by omega)
    obtain ⟨s1, e1⟩ : ∃ s1, s1 = s0.set a (s0.getD a 0 + s0.getD b 0) := ⟨_, rfl⟩
    have l1 : s1.length = 16 := by rw [e1, List.length_set, l0]
    have cd1 := getD_at (l := s1) (i := d) (by omega)
    have ca1 := getD_at (l := s1) (i := a) (by omega)
    obtain ⟨s2, e2⟩ : ∃ s2, s2 = s1.set d (rotL (s1.getD d 0 ^^^ s1.getD a 0) (turnK x)) := ⟨_, rfl⟩
    have l2 : s2.length = 16 := by rw [e2, List.length_set, l1]
    have cc2 := getD_at (l := s2) (i := c) (by omega)
    have cd2 := getD_at (l := s2) (i := d) (by omega)
    obtain ⟨s3, e3⟩ : ∃ s3, s3 = s2.set c (s2.getD c 0 + s2.getD d 0) := ⟨_, rfl⟩
    have l3 : s3.length = 16 := by rw [e3, List.length_set, l2]
    have cb3 := getD_at (l := s3) (i := b) (by omega)
    have cc3 := getD_at (l := s3) (i := c) (by omega)
    obtain ⟨s4, e4⟩ : ∃ s4, s4 = s3.set b (rotL (s3.getD b 0 ^^^ s3.getD c 0) (turnK y)) := ⟨_, rfl⟩
    have e5 : qstep s0 a b c d x y = s4 := by rw [e4, e3, e2, e1]; rfl
    rw [e5] at hnx
    repeat' (first|(refine ycf ?_;apply ybk;(·first|(first|exact tk_|(apply qv_addw<;>rfl)|(apply qv_xorw<;>rfl)|(refine qv_index_agg rfl rfl (by omega) (by omega) hix))|(apply yae;(·rfl);(·(first|exact cell_w (yaz 1 rfl) ca (by omega)|exact cell_w (yaz 1 rfl) cb (by omega)))));(·rfl);(·rfl))|(refine ybg 1 rfl rfl rfl rfl (fit_w (n := 16) (i := a) l0 (by omega) (by omega)) rfl ((spl_w (i := a) (by omega) (by omega)).trans (congrArg up32 e1.symm)) rfl rfl ?_ ?_ ?_;(·(exact to_));(·(exact to_)))|refine t1_ ?_|(refine ta_ ?_;intro _)|((fail_if_success (refine ybi rfl ?_));refine ybj rfl ?_ ?_<;>(intro ht;rw [ht];first|replace ht := oet_ ht|replace ht := oef_ ht|skip))|(refine ych ?_;first|(refine ybw rfl ?_ ?_<;>intro ht)|(refine ybx rfl ?_ ?_<;>intro ht)))
    refine cx_region_draw' rfl (by kernel_rfl) ?_
    repeat' (refine ycf ?_;(first|(first|(apply ybm;(·(first|(first|exact tk_|(apply qv_addw<;>rfl)|(apply qv_xorw<;>rfl)|(refine qv_index_agg rfl rfl (by omega) (by omega) hix))|(apply yae;(·rfl);(·(first|exact cell_w (yaz 1 rfl) ca (by omega)|exact cell_w (yaz 1 rfl) cb (by omega))))|exact tq_));(·rfl);(·rfl);(·(exact th_)))|refine ybl rfl rfl ?_|((fail_if_success (refine ybi rfl ?_));refine ybj rfl ?_ ?_<;>(intro ht;rw [ht];first|replace ht := oet_ ht|replace ht := oef_ ht|skip))|(refine tb_ ?_ ?_ ?_;(·(exact to_));(·intro _;(exact to_));intro _)|(first|(refine ybg 1 rfl rfl rfl rfl (fit_w (n := 16) (i := a) l0 (by omega) (by omega)) rfl ((spl_w (i := a) (by omega) (by omega)).trans (congrArg up32 e1.symm)) rfl rfl ?_ ?_ ?_;(·(exact to_));(·(exact to_)))|(refine tqs_ ?_ ?_ ?_;(·(exact to_));(·(exact to_))))|(apply ybn;(·(first|(first|exact tk_|(apply qv_addw<;>rfl)|(apply qv_xorw<;>rfl)|(refine qv_index_agg rfl rfl (by omega) (by omega) hix))|(apply yae;(·rfl);(·(first|exact cell_w (yaz 1 rfl) ca (by omega)|exact cell_w (yaz 1 rfl) cb (by omega))))|exact tq_));(·rfl);(·rfl);(·rfl);(·(exact to_))))|refine ycg ?_))
    repeat' (first|(refine ycf ?_;apply ybk;(·first|(first|exact tk_|(apply qv_addw<;>rfl)|(apply qv_xorw<;>rfl)|(refine qv_index_agg rfl rfl (by omega) (by omega) hix))|(apply yae;(·rfl);(·(first|exact cell_w (yaz 1 rfl) ca1 (by omega)|exact cell_w (yaz 1 rfl) cd1 (by omega)))));(·rfl);(·rfl))|(refine ybg 1 rfl rfl rfl rfl (fit_w (n := 16) (i := d) l1 (by omega) (by omega)) rfl ((spl_w (i := d) (by omega) (by omega)).trans (congrArg up32 e2.symm)) rfl rfl ?_ ?_ ?_;(·(exact to_));(·(exact to_)))|refine t1_ ?_|(refine ta_ ?_;intro _)|((fail_if_success (refine ybi rfl ?_));refine ybj rfl ?_ ?_<;>(intro ht;rw [ht];first|replace ht := oet_ ht|replace ht := oef_ ht|skip))|(refine ych ?_;first|(refine ybw rfl ?_ ?_<;>intro ht)|(refine ybx rfl ?_ ?_<;>intro ht)))
    refine cx_region_draw' rfl (by kernel_rfl) ?_
    repeat' (refine ycf ?_;(first|(first|(apply ybm;(·(first|(first|exact tk_|(apply qv_addw<;>rfl)|(apply qv_xorw<;>rfl)|(refine qv_index_agg rfl rfl (by omega) (by omega) hix))|(apply yae;(·rfl);(·(first|exact cell_w (yaz 1 rfl) ca1 (by omega)|exact cell_w (yaz 1 rfl) cd1 (by omega))))|exact tq_));(·rfl);(·rfl);(·(exact th_)))|refine ybl rfl rfl ?_|((fail_if_success (refine ybi rfl ?_));refine ybj rfl ?_ ?_<;>(intro ht;rw [ht];first|replace ht := oet_ ht|replace ht := oef_ ht|skip))|(refine tb_ ?_ ?_ ?_;(·(exact to_));(·intro _;(exact to_));intro _)|(first|(refine ybg 1 rfl rfl rfl rfl (fit_w (n := 16) (i := d) l1 (by omega) (by omega)) rfl ((spl_w (i := d) (by omega) (by omega)).trans (congrArg up32 e2.symm)) rfl rfl ?_ ?_ ?_;(·(exact to_));(·(exact to_)))|(refine tqs_ ?_ ?_ ?_;(·(exact to_));(·(exact to_))))|(apply ybn;(·(first|(first|exact tk_|(apply qv_addw<;>rfl)|(apply qv_xorw<;>rfl)|(refine qv_index_agg rfl rfl (by omega) (by omega) hix))|(apply yae;(·rfl);(·(first|exact cell_w (yaz 1 rfl) ca1 (by omega)|exact cell_w (yaz 1 rfl) cd1 (by omega))))|exact tq_));(·rfl);(·rfl);(·rfl);(·(exact to_))))|refine ycg ?_))
    (refine ycn (ycp Tryz.func123 rfl (by kernel_rfl) rfl) (Left_sp (s1.getD d 0 ^^^ s1.getD a 0) x h) rfl rfl rfl ?_ ?_; (· (exact to_)))
    repeat' (refine ycf ?_;(first|(first|(apply ybm;(·(first|(first|exact tk_|(apply qv_addw<;>rfl)|(apply qv_xorw<;>rfl)|(refine qv_index_agg rfl rfl (by omega) (by omega) hix))|(apply yae;(·rfl);(·(first|exact cell_w (yaz 1 rfl) ca1 (by omega)|exact cell_w (yaz 1 rfl) cd1 (by omega))))|exact tq_));(·rfl);(·rfl);(·(exact th_)))|refine ybl rfl rfl ?_|((fail_if_success (refine ybi rfl ?_));refine ybj rfl ?_ ?_<;>(intro ht;rw [ht];first|replace ht := oet_ ht|replace ht := oef_ ht|skip))|(refine tb_ ?_ ?_ ?_;(·(exact to_));(·intro _;(exact to_));intro _)|(first|(refine ybg 1 rfl rfl rfl rfl (fit_w (n := 16) (i := d) l1 (by omega) (by omega)) rfl ((spl_w (i := d) (by omega) (by omega)).trans (congrArg up32 e2.symm)) rfl rfl ?_ ?_ ?_;(·(exact to_));(·(exact to_)))|(refine tqs_ ?_ ?_ ?_;(·(exact to_));(·(exact to_))))|(apply ybn;(·(first|(first|exact tk_|(apply qv_addw<;>rfl)|(apply qv_xorw<;>rfl)|(refine qv_index_agg rfl rfl (by omega) (by omega) hix))|(apply yae;(·rfl);(·(first|exact cell_w (yaz 1 rfl) ca1 (by omega)|exact cell_w (yaz 1 rfl) cd1 (by omega))))|exact tq_));(·rfl);(·rfl);(·rfl);(·(exact to_))))|refine ycg ?_))
    repeat' (first|(refine ycf ?_;apply ybk;(·first|(first|exact tk_|(apply qv_addw<;>rfl)|(apply qv_xorw<;>rfl)|(refine qv_index_agg rfl rfl (by omega) (by omega) hix))|(apply yae;(·rfl);(·(first|exact cell_w (yaz 1 rfl) cc2 (by omega)|exact cell_w (yaz 1 rfl) cd2 (by omega)))));(·rfl);(·rfl))|(refine ybg 1 rfl rfl rfl rfl (fit_w (n := 16) (i := c) l2 (by omega) (by omega)) rfl ((spl_w (i := c) (by omega) (by omega)).trans (congrArg up32 e3.symm)) rfl rfl ?_ ?_ ?_;(·(exact to_));(·(exact to_)))|refine t1_ ?_|(refine ta_ ?_;intro _)|((fail_if_success (refine ybi rfl ?_));refine ybj rfl ?_ ?_<;>(intro ht;rw [ht];first|replace ht := oet_ ht|replace ht := oef_ ht|skip))|(refine ych ?_;first|(refine ybw rfl ?_ ?_<;>intro ht)|(refine ybx rfl ?_ ?_<;>intro ht)))
    refine cx_region_draw' rfl (by kernel_rfl) ?_
    repeat' (refine ycf ?_;(first|(first|(apply ybm;(·(first|(first|exact tk_|(apply qv_addw<;>rfl)|(apply qv_xorw<;>rfl)|(refine qv_index_agg rfl rfl (by omega) (by omega) hix))|(apply yae;(·rfl);(·(first|exact cell_w (yaz 1 rfl) cc2 (by omega)|exact cell_w (yaz 1 rfl) cd2 (by omega))))|exact tq_));(·rfl);(·rfl);(·(exact th_)))|refine ybl rfl rfl ?_|((fail_if_success (refine ybi rfl ?_));refine ybj rfl ?_ ?_<;>(intro ht;rw [ht];first|replace ht := oet_ ht|replace ht := oef_ ht|skip))|(refine tb_ ?_ ?_ ?_;(·(exact to_));(·intro _;(exact to_));intro _)|(first|(refine ybg 1 rfl rfl rfl rfl (fit_w (n := 16) (i := c) l2 (by omega) (by omega)) rfl ((spl_w (i := c) (by omega) (by omega)).trans (congrArg up32 e3.symm)) rfl rfl ?_ ?_ ?_;(·(exact to_));(·(exact to_)))|(refine tqs_ ?_ ?_ ?_;(·(exact to_));(·(exact to_))))|(apply ybn;(·(first|(first|exact tk_|(apply qv_addw<;>rfl)|(apply qv_xorw<;>rfl)|(refine qv_index_agg rfl rfl (by omega) (by omega) hix))|(apply yae;(·rfl);(·(first|exact cell_w (yaz 1 rfl) cc2 (by omega)|exact cell_w (yaz 1 rfl) cd2 (by omega))))|exact tq_));(·rfl);(·rfl);(·rfl);(·(exact to_))))|refine ycg ?_))
    repeat' (first|(refine ycf ?_;apply ybk;(·first|(first|exact tk_|(apply qv_addw<;>rfl)|(apply qv_xorw<;>rfl)|(refine qv_index_agg rfl rfl (by omega) (by omega) hix))|(apply yae;(·rfl);(·(first|exact cell_w (yaz 1 rfl) cb3 (by omega)|exact cell_w (yaz 1 rfl) cc3 (by omega)))));(·rfl);(·rfl))|(refine ybg 1 rfl rfl rfl rfl (fit_w (n := 16) (i := b) l3 (by omega) (by omega)) rfl ((spl_w (i := b) (by omega) (by omega)).trans (congrArg up32 e4.symm)) rfl rfl ?_ ?_ ?_;(·(exact to_));(·(exact to_)))|refine t1_ ?_|(refine ta_ ?_;intro _)|((fail_if_success (refine ybi rfl ?_));refine ybj rfl ?_ ?_<;>(intro ht;rw [ht];first|replace ht := oet_ ht|replace ht := oef_ ht|skip))|(refine ych ?_;first|(refine ybw rfl ?_ ?_<;>intro ht)|(refine ybx rfl ?_ ?_<;>intro ht)))
    refine cx_region_draw' rfl (by kernel_rfl) ?_
    repeat' (refine ycf ?_;(first|(first|(apply ybm;(·(first|(first|exact tk_|(apply qv_addw<;>rfl)|(apply qv_xorw<;>rfl)|(refine qv_index_agg rfl rfl (by omega) (by omega) hix))|(apply yae;(·rfl);(·(first|exact cell_w (yaz 1 rfl) cb3 (by omega)|exact cell_w (yaz 1 rfl) cc3 (by omega))))|exact tq_));(·rfl);(·rfl);(·(exact th_)))|refine ybl rfl rfl ?_|((fail_if_success (refine ybi rfl ?_));refine ybj rfl ?_ ?_<;>(intro ht;rw [ht];first|replace ht := oet_ ht|replace ht := oef_ ht|skip))|(refine tb_ ?_ ?_ ?_;(·(exact to_));(·intro _;(exact to_));intro _)|(first|(refine ybg 1 rfl rfl rfl rfl (fit_w (n := 16) (i := b) l3 (by omega) (by omega)) rfl ((spl_w (i := b) (by omega) (by omega)).trans (congrArg up32 e4.symm)) rfl rfl ?_ ?_ ?_;(·(exact to_));(·(exact to_)))|(refine tqs_ ?_ ?_ ?_;(·(exact to_));(·(exact to_))))|(apply ybn;(·(first|(first|exact tk_|(apply qv_addw<;>rfl)|(apply qv_xorw<;>rfl)|(refine qv_index_agg rfl rfl (by omega) (by omega) hix))|(apply yae;(·rfl);(·(first|exact cell_w (yaz 1 rfl) cb3 (by omega)|exact cell_w (yaz 1 rfl) cc3 (by omega))))|exact tq_));(·rfl);(·rfl);(·rfl);(·(exact to_))))|refine ycg ?_))
    (refine ycn (ycp Tryz.func123 rfl (by kernel_rfl) rfl) (Left_sp (s3.getD b 0 ^^^ s3.getD c 0) y h) rfl rfl rfl ?_ ?_; (· (exact to_)))
    repeat' (refine ycf ?_;(first|(first|(apply ybm;(·(first|(first|exact tk_|(apply qv_addw<;>rfl)|(apply qv_xorw<;>rfl)|(refine qv_index_agg rfl rfl (by omega) (by omega) hix))|(apply yae;(·rfl);(·(first|exact cell_w (yaz 1 rfl) cb3 (by omega)|exact cell_w (yaz 1 rfl) cc3 (by omega))))|exact tq_));(·rfl);(·rfl);(·(exact th_)))|refine ybl rfl rfl ?_|((fail_if_success (refine ybi rfl ?_));refine ybj rfl ?_ ?_<;>(intro ht;rw [ht];first|replace ht := oet_ ht|replace ht := oef_ ht|skip))|(refine tb_ ?_ ?_ ?_;(·(exact to_));(·intro _;(exact to_));intro _)|(first|(refine ybg 1 rfl rfl rfl rfl (fit_w (n := 16) (i := b) l3 (by omega) (by omega)) rfl ((spl_w (i := b) (by omega) (by omega)).trans (congrArg up32 e4.symm)) rfl rfl ?_ ?_ ?_;(·(exact to_));(·(exact to_)))|(refine tqs_ ?_ ?_ ?_;(·(exact to_));(·(exact to_))))|(apply ybn;(·(first|(first|exact tk_|(apply qv_addw<;>rfl)|(apply qv_xorw<;>rfl)|(refine qv_index_agg rfl rfl (by omega) (by omega) hix))|(apply yae;(·rfl);(·(first|exact cell_w (yaz 1 rfl) cb3 (by omega)|exact cell_w (yaz 1 rfl) cc3 (by omega))))|exact tq_));(·rfl);(·rfl);(·rfl);(·(exact to_))))|refine ycg ?_))
    repeat' (first|(refine ycf ?_;apply ybk;(·first|(first|exact tk_|(apply qv_addw<;>rfl)|(apply qv_xorw<;>rfl)|(refine qv_index_agg rfl rfl (by omega) (by omega) hix)));(·rfl);(·rfl))|refine t1_ ?_|(refine ta_ ?_;intro _)|((fail_if_success (refine ybi rfl ?_));refine ybj rfl ?_ ?_<;>(intro ht;rw [ht];first|replace ht := oet_ ht|replace ht := oef_ ht|skip))|(refine ych ?_;first|(refine ybw rfl ?_ ?_<;>intro ht)|(refine ybx rfl ?_ ?_<;>intro ht)))
    refine nx_round (k + 1) (by show k + 1 ≤ 2; omega) (by show 2 - (k + 1) < 2 - k; omega) ts_ (fun _ s => ?_)
    rw [hnx]
    exact s.tl
  · have ek : k = 2 := by omega
    subst ek
    repeat' (first|(refine ycf ?_;apply ybk;(·first|(exact tk_));(·rfl);(·rfl))|refine t1_ ?_|(refine ta_ ?_;intro _)|((fail_if_success (refine ybi rfl ?_));refine ybj rfl ?_ ?_<;>(intro ht;rw [ht];first|replace ht := oet_ ht|replace ht := oef_ ht|skip))|(refine ych ?_;first|(refine ybw rfl ?_ ?_<;>intro ht)|(refine ybx rfl ?_ ?_<;>intro ht)))
    exact nx_end0 rfl (fun w' s' => ⟨rfl, s'⟩)
theorem quarter_spi (ia ib ic id' : Int) (bs : Nat) (e : TypeId) (st : List W32) (a b c d : Nat) (h16 : st.length = 16) (ha : a < 16) (hb : b < 16) (hc : c < 16) (hd : d < 16) (ea : ia = (a : Nat)) (eb : ib = (b : Nat)) (ec : ic = (c : Nat)) (ed : id' = (d : Nat)) (h : View) (w : World) (s : St ⟨w, h, doms [Res.blk bs (.cells (up32 st).toArray e (0, 0))]⟩ h [Res.blk bs (.cells (up32 st).toArray e (0, 0))] w) :
    Calls Tryz.prog 118 [.pointer (some ⟨bs, 0, none⟩), .int .i64 ia, .int .i64 ib, .int .i64 ic, .int .i64 id'].toArray w fun r w' => ∃ x : Unit, r = .returned ((fun _ => .tuple #[]) x) ∧ St ⟨w, h, doms [Res.blk bs (.cells (up32 st).toArray e (0, 0))]⟩ ((fun _ => h) x) ((fun _ => [Res.blk bs (.cells (up32 (quarterF st a b c d)).toArray e (0, 0))]) x) w' ∧ (fun _ => True) x := by
  subst ea eb ec ed
  exact (quarter_sp bs e st a b c d h16 ha hb hc hd h w s).mono fun r w' ⟨h1, h2⟩ => ⟨(), h1, h2, trivial⟩
def colsF (s : List W32) : Nat → List W32
  | 0 => s
  | i + 1 => quarterF (colsF s i) i (4 + i) (8 + i) (12 + i)
def diaF (s : List W32) : Nat → List W32
  | 0 => s
  | i + 1 => quarterF (diaF s i) i (4 + (i + 1) % 4) (8 + (i + 2) % 4) (12 + (i + 3) % 4)
def roundF (s : List W32) : List W32 := diaF (colsF s 4) 4
theorem colsF_len (s : List W32) : ∀ k, (colsF s k).length = s.length
  | 0 => rfl
  | k + 1 => by rw [colsF, quarterF_len, colsF_len s k]
theorem diaF_len (s : List W32) : ∀ k, (diaF s k).length = s.length
  | 0 => rfl
  | k + 1 => by rw [diaF, quarterF_len, diaF_len s k]
theorem roundF_len (s : List W32) : (roundF s).length = s.length := by rw [roundF, diaF_len, colsF_len]
theorem rounds_sp (bs : Nat) (e : TypeId) (st : List W32) (h16 : st.length = 16) (h : View) (w : World) (s : St ⟨w, h, doms [Res.blk bs (.cells (up32 st).toArray e (0, 0))]⟩ h [Res.blk bs (.cells (up32 st).toArray e (0, 0))] w) :
    Calls Tryz.prog 103 [.pointer (some ⟨bs, 0, none⟩)].toArray w fun r w' => r = .returned (.tuple #[]) ∧ St ⟨w, h, doms [Res.blk bs (.cells (up32 st).toArray e (0, 0))]⟩ h [Res.blk bs (.cells (up32 (roundF st)).toArray e (0, 0))] w' := by
  refine calls_enter Tryz.func103 rfl Tryz.ntmps103 rfl s ?_
  repeat' (first|(refine ycf ?_;apply ybk;(·first|(exact tk_));(·rfl);(·rfl))|refine t1_ ?_|(refine ta_ ?_;intro _)|((fail_if_success (refine ybi rfl ?_));refine ybj rfl ?_ ?_<;>(intro ht;rw [ht];first|replace ht := oet_ ht|replace ht := oef_ ht|skip))|(refine ych ?_;first|(refine ybw rfl ?_ ?_<;>intro ht)|(refine ybx rfl ?_ ?_<;>intro ht)))
  refine cx_loop (X := Nat) (fun k => [(0, .pointer (some ⟨bs, 0, none⟩)), (4, .int .i64 (k : Nat))]) (fun _ => h) (fun k => [Res.blk bs (.cells (up32 (colsF st k)).toArray e (0, 0))]) (fun k => k ≤ 4) (fun k => 4 - k) 0 (Nat.zero_le _) ts_ (fun _ s => s) ?_
  intro k hk
  have hl := (colsF_len st k).trans h16
  by_cases hk4 : k < 4
  · --(exact tk_):= (exact tk_)
    repeat' (first|(refine ycf ?_;apply ybk;(·first|(exact tk_));(·rfl);(·rfl))|refine t1_ ?_|(refine ta_ ?_;intro _)|((fail_if_success (refine ybi rfl ?_));refine ybj rfl ?_ ?_<;>(intro ht;rw [ht];first|replace ht := oet_ ht|replace ht := oef_ ht|skip))|(refine ych ?_;first|(refine ybw rfl ?_ ?_<;>intro ht)|(refine ybx rfl ?_ ?_<;>intro ht)))
    (refine rx_call_m (ycp Tryz.func118 rfl (by kernel_rfl) rfl) (perm_at (k := 0) rfl) (quarter_spi (k : Nat) (4 + (k : Nat)) (8 + (k : Nat)) (12 + (k : Nat)) bs e (colsF st k) k (4 + k) (8 + k) (12 + k) hl (by omega) (by omega) (by omega) (by omega) rfl (by omega) (by omega) (by omega) h) rfl rfl rfl ?_ ?_ ?_; (· (exact to_)); (· intro _ _ hle; (exact to_)); intro x px hle)
    repeat' (first|(refine ycf ?_;apply ybk;(·first|(exact tk_));(·rfl);(·rfl))|refine t1_ ?_|(refine ta_ ?_;intro _)|((fail_if_success (refine ybi rfl ?_));refine ybj rfl ?_ ?_<;>(intro ht;rw [ht];first|replace ht := oet_ ht|replace ht := oef_ ht|skip))|(refine ych ?_;first|(refine ybw rfl ?_ ?_<;>intro ht)|(refine ybx rfl ?_ ?_<;>intro ht)))
    exact nx_round (k + 1) (by show k + 1 ≤ 4; omega) (by show 4 - (k + 1) < 4 - k; omega) ts_ (fun _ s => s)
  · have ek : k = 4 := by omega
    subst ek
    have hl0 := hl
    obtain ⟨s0, hs0⟩ : ∃ s0, s0 = colsF st 4 := ⟨_, rfl⟩
    have hR : roundF st = diaF s0 4 := by rw [hs0]; rfl
    rw [← hs0] at hl0
    rw [← hs0, hR]
    repeat' (first|(refine ycf ?_;apply ybk;(·first|(exact tk_));(·rfl);(·rfl))|refine t1_ ?_|(refine ta_ ?_;intro _)|((fail_if_success (refine ybi rfl ?_));refine ybj rfl ?_ ?_<;>(intro ht;rw [ht];first|replace ht := oet_ ht|replace ht := oef_ ht|skip))|(refine ych ?_;first|(refine ybw rfl ?_ ?_<;>intro ht)|(refine ybx rfl ?_ ?_<;>intro ht)))
    refine cx_loop (X := Nat) (fun k => [(0, .pointer (some ⟨bs, 0, none⟩)), (17, .int .i64 (k : Nat))]) (fun _ => h) (fun k => [Res.blk bs (.cells (up32 (diaF s0 k)).toArray e (0, 0))]) (fun k => k ≤ 4) (fun k => 4 - k) 0 (Nat.zero_le _) ts_ (fun _ s => s) ?_
    intro k hk
    have hl := (diaF_len s0 k).trans hl0
    by_cases hk4 : k < 4
    · have m1 : ((k : Int) + 1).tmod 4 = ((k + 1) % 4 : Nat) := by rw [Int.tmod_eq_emod_of_nonneg (by omega)]; omega
      have m2 : ((k : Int) + 2).tmod 4 = ((k + 2) % 4 : Nat) := by rw [Int.tmod_eq_emod_of_nonneg (by omega)]; omega
      have m3 : ((k : Int) + 3).tmod 4 = ((k + 3) % 4 : Nat) := by rw [Int.tmod_eq_emod_of_nonneg (by omega)]; omega
      repeat' (first|(refine ycf ?_;apply ybk;(·first|(first|exact tk_|(refine qv_remr rfl rfl (by decide) m1)|(refine qv_remr rfl rfl (by decide) m2)|(refine qv_remr rfl rfl (by decide) m3)));(·rfl);(·rfl))|refine t1_ ?_|(refine ta_ ?_;intro _)|((fail_if_success (refine ybi rfl ?_));refine ybj rfl ?_ ?_<;>(intro ht;rw [ht];first|replace ht := oet_ ht|replace ht := oef_ ht|skip))|(refine ych ?_;first|(refine ybw rfl ?_ ?_<;>intro ht)|(refine ybx rfl ?_ ?_<;>intro ht)))
      (refine rx_call_m (ycp Tryz.func118 rfl (by kernel_rfl) rfl) (perm_at (k := 0) rfl) (quarter_spi (k : Nat) (4 + ((k + 1) % 4 : Nat)) (8 + ((k + 2) % 4 : Nat)) (12 + ((k + 3) % 4 : Nat)) bs e (diaF s0 k) k (4 + (k + 1) % 4) (8 + (k + 2) % 4) (12 + (k + 3) % 4) hl (by omega) (by omega) (by omega) (by omega) rfl (by omega) (by omega) (by omega) h) rfl rfl rfl ?_ ?_ ?_; (· (exact to_)); (· intro _ _ hle; (exact to_)); intro x px hle)
      repeat' (first|(refine ycf ?_;apply ybk;(·first|(first|exact tk_|(refine qv_remr rfl rfl (by decide) m1)|(refine qv_remr rfl rfl (by decide) m2)|(refine qv_remr rfl rfl (by decide) m3)));(·rfl);(·rfl))|refine t1_ ?_|(refine ta_ ?_;intro _)|((fail_if_success (refine ybi rfl ?_));refine ybj rfl ?_ ?_<;>(intro ht;rw [ht];first|replace ht := oet_ ht|replace ht := oef_ ht|skip))|(refine ych ?_;first|(refine ybw rfl ?_ ?_<;>intro ht)|(refine ybx rfl ?_ ?_<;>intro ht)))
      exact nx_round (k + 1) (by show k + 1 ≤ 4; omega) (by show 4 - (k + 1) < 4 - k; omega) ts_ (fun _ s => s)
    · have ek : k = 4 := by omega
      subst ek
      repeat' (first|(refine ycf ?_;apply ybk;(·first|(exact tk_));(·rfl);(·rfl))|refine t1_ ?_|(refine ta_ ?_;intro _)|((fail_if_success (refine ybi rfl ?_));refine ybj rfl ?_ ?_<;>(intro ht;rw [ht];first|replace ht := oet_ ht|replace ht := oef_ ht|skip))|(refine ych ?_;first|(refine ybw rfl ?_ ?_<;>intro ht)|(refine ybx rfl ?_ ?_<;>intro ht)))
      exact nx_end0 rfl (fun w' s' => ⟨rfl, s'⟩)
end Go.Proofs.YtaofgcahmfailaaGreatDoor
end
