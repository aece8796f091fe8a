/-
  Part 5 of a proof: ShB ShC ChA ChB ChC.
  Conditions: each theorem states its own.
-/
import Derived.Test.YtgeepceieckooaaGreatDoorSeEPM4
set_option maxRecDepth 100000
set_option linter.unusedVariables false
set_option linter.unusedSimpArgs false
section
namespace Go.Proofs.YtgeepceieckooaaGreatDoor
open Go Go.Ck
set_option maxHeartbeats 2000000
theorem high_sp (v : Value) (l : List Int) (hb : Bytes l) (h8 : l.length ≤ 8) (h : View) (hv : Bs8 h v l) (w : World) (s : St ⟨w, h, []⟩ h [] w) :
    Calls Tryz.prog 148 [v].toArray w fun e w' => e = .returned (.int .u64 (valB l)) ∧ St ⟨w, h, []⟩ h [] w' := by
  obtain ⟨_, ad, cap, rfl, hcap, _⟩ := id hv
  refine calls_enter Tryz.func148 rfl Tryz.ntmps148 rfl s ?_
  repeat' (first|refine tw_ ?_|(refine ta_ ?_;intro _)|(refine zk0 ?_ ?_<;>intro ht)|fail)
  refine cx_loop (X := Nat) (fun k => [(3, .int .u64 (valB (l.take k))), (6, .slice ad l.length cap), (7, .int .i64 (l.length : Nat)), (8, .int .i64 (k : Nat))]) (fun _ => h) (fun _ => []) (fun k => k ≤ l.length) (fun k => l.length - k) 0 (Nat.zero_le _) ts_ (fun _ s => s) ?_
  intro k hk
  by_cases hkl : k < l.length
  · obtain ⟨bs, o, rfl⟩ := hv.ad (by omega) (by omega)
    have hbd := valB_bd hb k (by omega)
    have hp : (256 : Int) ^ k ≤ 256 ^ 7 := p256 (by omega)
    have e7 : (256 : Int) ^ 7 = 72057594037927936 := by decide
    rw [e7] at hp
    have hc := hb l[k] (List.getElem_mem _)
    have hel : ∀ L, CellAt h L bs (o + k * 1) (.int .u8 l[k]) := fun L => (hv.cells (L := L)).cell (by simp [bcs, hkl])
    have hsh : IntKind.u64.wrap (valB (l.take k) * 2 ^ 8) = valB (l.take k) * 256 := by
      have e : (2 : Int) ^ 8 = 256 := by decide
      rw [e]
      exact wrap_u64 (by omega) (by omega)
    have hcw : IntKind.u64.wrap l[k] = l[k] := wrap_u64 hc.1 (by omega)
    have hnext := (valB_succ hkl).symm
    repeat' (first|refine zw27 ?_|(refine ta_ ?_;intro _)|(refine zk0 ?_ ?_<;>intro ht)|fail)
    exact nx_round (k + 1) (by show k + 1 ≤ _; omega) (by show l.length - (k + 1) < l.length - k; omega) ts_ (fun _ s => s)
  · have ek : k = l.length := by omega
    subst ek
    rw [List.take_length]
    repeat' (first|refine zw28 ?_|(refine ta_ ?_;intro _)|(refine zk0 ?_ ?_<;>intro ht)|fail)
    exact nx_ret1 rfl (rv_tmp rfl) (fun w' s' => ⟨rfl, s'⟩)
def hi32 (l : List Int) : W32 := BitVec.ofInt 32 (valB l)
theorem High32_sp (v : Value) (l : List Int) (hb : Bytes l) (h4 : l.length = 4) (h : View) (hv : Bs8 h v l) (w : World) (s : St ⟨w, h, []⟩ h [] w) :
    Calls Tryz.prog 143 [v].toArray w fun e w' => e = .returned (.tuple #[v32 (hi32 l), .bool true]) ∧ St ⟨w, h, []⟩ h [] w' := by
  have hw : IntKind.u32.wrap (valB l) = ((hi32 l).toNat : Int) := wrapw rfl rfl _
  have H := high_sp v l hb (by omega) h hv
  obtain ⟨_, ad, cap, rfl, hcap, _⟩ := id hv
  refine calls_enter Tryz.func143 rfl Tryz.ntmps143 rfl s ?_
  repeat' (first|refine zw29 ?_|(refine ta_ ?_;intro _)|(refine zk0 ?_ ?_<;>intro ht)|fail)
  (refine ycn (ycp Tryz.func148 rfl (by kernel_rfl) rfl) (H) rfl rfl rfl ?_ ?_; (· (exact to_)))
  repeat' (first|refine zw29 ?_|(refine ta_ ?_;intro _)|(refine zk0 ?_ ?_<;>intro ht)|fail)
  exact nx_ret2 rfl (rv_tmp rfl) (rv_tmp rfl) (fun w' s' => ⟨rfl, s'⟩)
def up32 (l : List W32) : List Value := l.map v32
def pad32 (n : Nat) (l : List W32) : List W32 := l ++ List.replicate (n - l.length) 0
theorem up32_len (l : List W32) : (up32 l).length = l.length := by simp [up32]
theorem pad32_len {n : Nat} {l : List W32} (h : l.length ≤ n) : (pad32 n l).length = n := by simp [pad32]; omega
theorem pad32_full {n : Nat} {l : List W32} (h : l.length = n) : pad32 n l = l := by simp [pad32, h]
theorem pad32_set {n k : Nat} {l : List W32} {x : W32} (hk : l.length = k) (h : k < n) : (pad32 n l).set k x = pad32 n (l ++ [x]) := by
  subst hk
  unfold pad32
  rw [List.set_append_right _ _ (Nat.le_refl _), Nat.sub_self, show n - l.length = (n - (l ++ [x]).length) + 1 by simp; omega, List.replicate_succ, List.set_cons_zero]
  simp
theorem pad32_at {n k : Nat} {l : List W32} (hk : k < l.length) : (pad32 n l)[k]? = some (l.getD k 0) := by
  unfold pad32
  rw [List.getElem?_append_left hk, List.getD_eq_getElem?_getD, List.getElem?_eq_getElem hk]
  rfl
theorem up32_at {l : List W32} {k : Nat} {x : W32} (h : l[k]? = some x) : (up32 l)[k]? = some (v32 x) := by
  unfold up32
  rw [List.getElem?_map, h]
  rfl
theorem cell_w {h : View} {L : List Res} {b k : Nat} {l : List W32} {x : W32} {i : Nat} (c : Cells h L ⟨b, 0, none⟩ (up32 l)) (hk : l[k]? = some x) (hi : i = k) : CellAt h L b i (v32 x) := by
  subst hi
  have := c.cell (up32_at hk)
  rwa [Nat.zero_add] at this
theorem spl_w {l : List W32} {x : W32} {i o : Nat} (ho : o = i) (hi : i < l.length) : spl (up32 l).toArray.toList o (v32 x).cells.toList = up32 (l.set i x) := by
  subst ho
  show spl (up32 l) o [v32 x] = _
  unfold spl up32
  rw [List.map_set, List.set_eq_take_append_cons_drop]
  simp [hi]
theorem fit_w {l : List W32} {x : W32} {n i o : Nat} (hu : l.length = n) (ho : o = i) (hi : i < n) : o + (v32 x).cells.size ≤ (up32 l).toArray.size := by
  subst ho
  show o + 1 ≤ (up32 l).toArray.size
  simp [up32_len, hu]
  omega
theorem w_sz {l : List W32} {n : Nat} (h : l.length = n) : (Value.agg (up32 l).toArray).cells.size = n := by
  show (up32 l).toArray.size = n
  simp [up32_len, h]
theorem w_fit {l : List W32} {cs : Array Value} {n : Nat} (h : l.length = n) (hc : cs.size = n) : 0 + (Value.agg (up32 l).toArray).cells.size ≤ cs.size := by rw [w_sz h, hc]; omega
theorem w_all {l : List W32} {cs : List Value} {n : Nat} (h : l.length = n) (hc : cs.length = n) : (Value.agg (up32 l).toArray).cells.toList.length = cs.length := by
  rw [hc]
  show (up32 l).length = n
  rw [up32_len, h]
theorem w_one (l : List W32) : (Value.agg (up32 l).toArray).cells.toList.all Value.oneCell' = true := by
  show (up32 l).all Value.oneCell' = true
  refine List.all_eq_true.2 fun x hx => ?_
  obtain ⟨a, _, rfl⟩ := List.mem_map.1 hx
  rfl
def nextW (w : List W32) : W32 := movedF (w.getD (w.length - 2) 0) 17 19 10 + w.getD (w.length - 7) 0 + movedF (w.getD (w.length - 15) 0) 7 18 3 + w.getD (w.length - 16) 0
def wsF (b : List Int) : Nat → List W32
  | 0 => []
  | k + 1 => wsF b k ++ [if k < 16 then hi32 ((b.drop (4 * k)).take 4) else nextW (wsF b k)]
theorem wsF_len (b : List Int) : ∀ k, (wsF b k).length = k
  | 0 => rfl
  | k + 1 => by simp [wsF, wsF_len b k]
section
variable {P : Program} {n : Nat} {F : List (Nat × Value)} {h : View} {L : List Res} {dst : Option Nat} {ty : Nat} {pos : String} {af : Array Edge} {gd : Option (Nat × Bool)}
theorem qv_slice_ij {T e k : Nat} {x y z : Operand} {ad : Option Addr} {len cap : Nat} (i jn : Nat) {i' j : Int} {ki kj : IntKind} [tu : TyU P T (.slice e)] [ts : TyS P e k] (hx : ev F x = some (.slice ad len cap)) (hy : ev F y = some (.int ki i')) (hz : ev F z = some (.int kj j)) (hi : i' = (i : Int)) (hj : j = (jn : Int)) (h1 : i ≤ jn) (h2 : jn ≤ cap) :
    QV P n F h L ⟨dst, .slice T x (some y) (some z) none, ty, pos, af, gd⟩ (.slice (cutF ad cap i k) (jn - i) (cap - i)) := .mk fun a w f s => by
  subst hi hj
  have h3 : (0 : Int) ≤ (i : Int) ∧ (i : Int) ≤ (jn : Int) := by omega
  have h4 : (0 : Int) ≤ (jn : Int) ∧ (jn : Int) ≤ (cap : Int) := by omega
  simp [execOp, f.ev hx, f.ev hy, f.ev hz, Instr.sliceAt, Instr.slice, Instr.sliceBounds, Instr.sliceBound, asIntOf, run_underlying tu.u, h1, h2, h3, h4, ts.s, cutF]
end
theorem bs_mid {h : View} {ad : Option Addr} {cap : Nat} {l : List Int} (s : Bs8 h (.slice ad l.length cap) l) {i j : Nat} (hij : i ≤ j) (hj : j ≤ l.length) : Bs8 h (.slice (cutF ad cap i 1) (j - i) (cap - i)) ((l.drop i).take (j - i)) := by
  have h1 := sc_drop s (by decide) (j := i) (by omega)
  have h2 := sc_take h1 (j := j - i) (by omega)
  unfold Bs8
  have e1 : ((l.drop i).take (j - i)).length = j - i := by simp; omega
  have e2 : bcs ((l.drop i).take (j - i)) = ((bcs l).drop (i * 1)).take ((j - i) * 1) := by simp [bcs]
  rw [e1, e2]
  exact h2
theorem wsF_next (b : List Int) {k : Nat} (hk : 16 ≤ k) : wsF b (k + 1) = wsF b k ++ [nextW (wsF b k)] := by
  show wsF b k ++ [_] = _
  rw [if_neg (by omega)]
theorem schedule_sp (v : Value) (b : List Int) (hb : Bytes b) (h64 : b.length = 64) (h : View) (hv : Bs8 h v b) (w : World) (s : St ⟨w, h, []⟩ h [] w) :
    Calls Tryz.prog 132 [v].toArray w fun e w' => e = .returned (.agg (up32 (wsF b 64)).toArray) ∧ St ⟨w, h, []⟩ h [] w' := by
  obtain ⟨_, ad, cap, rfl, hcap, _⟩ := id hv
  refine calls_enter Tryz.func132 rfl Tryz.ntmps132 rfl s ?_
  repeat' (first|refine zw29 ?_|(refine ta_ ?_;intro _)|(refine zk0 ?_ ?_<;>intro ht)|fail)
  rename_i b2 b3
  refine cx_loop (X := Nat) (fun k => [(0, .slice ad b.length cap), (2, .pointer (some ⟨b2, 0, none⟩)), (3, .pointer (some ⟨b3, 0, none⟩)), (6, .int .i64 (k : Nat))]) (fun _ => h) (fun k => [Res.blk b3 (.cells (up32 (pad32 64 (wsF b k))).toArray 179 (0, 0)), Res.blk b2 (.cells (up32 (pad32 64 [])).toArray 179 (0, 0))]) (fun k => k ≤ 16) (fun k => 16 - k) 0 (Nat.zero_le _) ts_ (fun _ s => s) ?_
  intro k hk
  have hwl := wsF_len b k
  by_cases hk16 : k < 16
  · have hm : IntKind.i64.wrap (4 * (k : Int)) = 4 * (k : Int) := by rw [IntKind.wrap_i64]; omega
    have e4 : 4 * k + 4 - 4 * k = 4 := by omega
    have hB : Bs8 h (.slice (cutF ad cap (4 * k) 1) (4 * k + 4 - 4 * k) (cap - 4 * k)) ((b.drop (4 * k)).take 4) := by
      have := bs_mid hv (i := 4 * k) (j := 4 * k + 4) (by omega) (by omega)
      rw [e4] at this ⊢
      exact this
    have H := High32_sp _ _ (bytes_take (bytes_drop hb (4 * k)) 4) (by simp; omega) h hB
    have hst : (pad32 64 (wsF b k)).set k (hi32 ((b.drop (4 * k)).take 4)) = pad32 64 (wsF b (k + 1)) := by
      rw [pad32_set hwl (by omega)]
      show _ = pad32 64 (wsF b k ++ [_])
      rw [if_pos hk16]
    have hpl : (pad32 64 (wsF b k)).length = 64 := pad32_len (by omega)
    rw [show (4 : Int) * (k : Int) = ((4 * k : Nat) : Int) by omega] at hm
    repeat' (first|refine zw30 ?_|(refine ta_ ?_;intro _)|(refine zk0 ?_ ?_<;>intro ht)|fail)
    (refine ycn (ycp Tryz.func143 rfl (by kernel_rfl) rfl) (H) rfl rfl rfl ?_ ?_; (· (exact to_)))
    repeat' (first|refine zw31 ?_|(refine ta_ ?_;intro _)|(refine zk0 ?_ ?_<;>intro ht)|fail)
    exact nx_round (k + 1) (by show k + 1 ≤ 16; omega) (by show 16 - (k + 1) < 16 - k; omega) ts_ (fun _ s => s)
  · have ek : k = 16 := by omega
    subst ek
    repeat' (first|refine zw32 ?_|(refine ta_ ?_;intro _)|(refine zk0 ?_ ?_<;>intro ht)|fail)
    refine cx_loop (X := Nat) (fun k => [(2, .pointer (some ⟨b2, 0, none⟩)), (3, .pointer (some ⟨b3, 0, none⟩)), (5, .int .i64 (16 + k : Nat))]) (fun _ => h) (fun k => [Res.blk b3 (.cells (up32 (pad32 64 (wsF b (16 + k)))).toArray 179 (0, 0)), Res.blk b2 (.cells (up32 (pad32 64 [])).toArray 179 (0, 0))]) (fun k => k ≤ 48) (fun k => 48 - k) 0 (Nat.zero_le _) ts_ (fun _ s => s) ?_
    intro k hk
    have hwl := wsF_len b (16 + k)
    by_cases hk48 : k < 48
    · have hst : (pad32 64 (wsF b (16 + k))).set (16 + k) (nextW (wsF b (16 + k))) = pad32 64 (wsF b (16 + (k + 1))) := by
        rw [pad32_set hwl (by omega), show 16 + (k + 1) = 16 + k + 1 by omega, wsF_next b (by omega)]
      have hpl : (pad32 64 (wsF b (16 + k))).length = 64 := pad32_len (by omega)
      have hnx : nextW (wsF b (16 + k)) = movedF ((wsF b (16 + k)).getD (16 + k - 2) 0) 17 19 10 + (wsF b (16 + k)).getD (16 + k - 7) 0 + movedF ((wsF b (16 + k)).getD (16 + k - 15) 0) 7 18 3 + (wsF b (16 + k)).getD (16 + k - 16) 0 := by
        unfold nextW
        rw [hwl]
      rw [hnx] at hst
      have c2 := pad32_at (n := 64) (l := wsF b (16 + k)) (k := 16 + k - 2) (by omega)
      have c7 := pad32_at (n := 64) (l := wsF b (16 + k)) (k := 16 + k - 7) (by omega)
      have c15 := pad32_at (n := 64) (l := wsF b (16 + k)) (k := 16 + k - 15) (by omega)
      have c16 := pad32_at (n := 64) (l := wsF b (16 + k)) (k := 16 + k - 16) (by omega)
      generalize (wsF b (16 + k)).getD (16 + k - 2) 0 = x2 at c2 hst
      generalize (wsF b (16 + k)).getD (16 + k - 7) 0 = x7 at c7 hst
      generalize (wsF b (16 + k)).getD (16 + k - 15) 0 = x15 at c15 hst
      generalize (wsF b (16 + k)).getD (16 + k - 16) 0 = x16 at c16 hst
      repeat' (first|refine zw33 ?_|(refine ta_ ?_;intro _)|(refine zk0 ?_ ?_<;>intro ht)|fail)
      refine cx_region_draw' rfl (by kernel_rfl) ?_
      repeat' (first|refine zw34 ?_|(refine ycf ?_;(first|(refine zg0 ?_ ?_<;>intro ht)|(refine tb_ ?_ ?_ ?_;(·(exact to_));(·intro _;(exact to_));intro _)))|fail)
      (refine ycn (ycp Tryz.func144 rfl (by kernel_rfl) rfl) (moved_sp x2 17 19 10 (by omega) (by omega) h) rfl rfl rfl ?_ ?_; (· (exact to_)))
      repeat' (first|refine zw34 ?_|(refine ycf ?_;(first|(refine zg0 ?_ ?_<;>intro ht)|(refine tb_ ?_ ?_ ?_;(·(exact to_));(·intro _;(exact to_));intro _)))|fail)
      (refine ycn (ycp Tryz.func144 rfl (by kernel_rfl) rfl) (moved_sp x15 7 18 3 (by omega) (by omega) h) rfl rfl rfl ?_ ?_; (· (exact to_)))
      repeat' (first|refine zw34 ?_|(refine ycf ?_;(first|(refine zg0 ?_ ?_<;>intro ht)|(refine tb_ ?_ ?_ ?_;(·(exact to_));(·intro _;(exact to_));intro _)))|fail)
      repeat' (first|refine zw35 ?_|(refine ta_ ?_;intro _)|(refine zk0 ?_ ?_<;>intro ht)|fail)
      exact nx_round (k + 1) (by show k + 1 ≤ 48; omega) (by show 48 - (k + 1) < 48 - k; omega) ts_ (fun _ s => s)
    · have ek : k = 48 := by omega
      subst ek
      have e64 : pad32 64 (wsF b (16 + 48)) = wsF b 64 := pad32_full (wsF_len b 64)
      rw [e64]
      have hl64 := wsF_len b 64
      generalize wsF b 64 = ws at hl64 ⊢
      repeat' (first|refine zw36 ?_|(refine ta_ ?_;intro _)|(refine zk0 ?_ ?_<;>intro ht)|fail)
      exact nx_ret1 rfl (rv_cells rfl (yaz 1 rfl) (w_sz hl64)) (fun w' s' => ⟨rfl, s'.nil⟩)
end Go.Proofs.YtgeepceieckooaaGreatDoor
end

section
namespace Go.Proofs.YtgeepceieckooaaGreatDoor
open Go Go.Ck
set_option maxHeartbeats 4000000
def mixStep (v : List W32) (k w : W32) : List W32 :=
  let x := v.getD 7 0 + turnedF (v.getD 4 0) 6 11 25 + ((v.getD 4 0 &&& v.getD 5 0) ^^^ (~~~(v.getD 4 0) &&& v.getD 6 0)) + k + w
  let y := turnedF (v.getD 0 0) 2 13 22 + ((v.getD 0 0 &&& v.getD 1 0) ^^^ (v.getD 0 0 &&& v.getD 2 0) ^^^ (v.getD 1 0 &&& v.getD 2 0))
  [x + y, v.getD 0 0, v.getD 1 0, v.getD 2 0, v.getD 3 0 + x, v.getD 4 0, v.getD 5 0, v.getD 6 0]
def shK : List W32 := [1116352408, 1899447441, 3049323471, 3921009573, 961987163, 1508970993, 2453635748, 2870763221, 3624381080, 310598401, 607225278, 1426881987, 1925078388, 2162078206, 2614888103, 3248222580, 3835390401, 4022224774, 264347078, 604807628, 770255983, 1249150122, 1555081692, 1996064986, 2554220882, 2821834349, 2952996808, 3210313671, 3336571891, 3584528711, 113926993, 338241895, 666307205, 773529912, 1294757372, 1396182291, 1695183700, 1986661051, 2177026350, 2456956037, 2730485921, 2820302411, 3259730800, 3345764771, 3516065817, 3600352804, 4094571909, 275423344, 430227734, 506948616, 659060556, 883997877, 958139571, 1322822218, 1537002063, 1747873779, 1955562222, 2024104815, 2227730452, 2361852424, 2428436474, 2756734187, 3204031479, 3329325298]
def shH : List W32 := [1779033703, 3144134277, 1013904242, 2773480762, 1359893119, 2600822924, 528734635, 1541459225]
def roundsF (v ws : List W32) : Nat → List W32
  | 0 => v
  | k + 1 => mixStep (roundsF v ws k) (shK.getD k 0) (ws.getD k 0)
def mixF (v : List W32) (b : List Int) : List W32 := List.zipWith (· + ·) v (roundsF v (wsF b 64) 64)
theorem mixStep_len (v : List W32) (k w : W32) : (mixStep v k w).length = 8 := rfl
theorem roundsF_len {v ws : List W32} (h : v.length = 8) : ∀ k, (roundsF v ws k).length = 8
  | 0 => h
  | k + 1 => rfl
theorem mixF_len {v : List W32} (b : List Int) (h : v.length = 8) : (mixF v b).length = 8 := by
  unfold mixF
  rw [List.length_zipWith, roundsF_len h, h]
  rfl
theorem list8 {α : Type} {l : List α} (h : l.length = 8) : ∃ a b c d e f g i, l = [a, b, c, d, e, f, g, i] := by
  match l, h with
  | [a, b, c, d, e, f, g, i], _ => exact ⟨a, b, c, d, e, f, g, i, rfl⟩
theorem shK_len : shK.length = 64 := rfl
def ShG (h : View) : Prop := (∃ e fz, h 1 = some (.cells (up32 shK).toArray e fz)) ∧ ∃ e fz, h 0 = some (.cells (up32 shH).toArray e fz)
theorem ShG.mono {h h' : View} (g : ShG h) (hl : Le h h') : ShG h' := by
  obtain ⟨⟨e, fz, g1⟩, e', fz', g2⟩ := g
  exact ⟨⟨e, fz, hl _ _ g1⟩, e', fz', hl _ _ g2⟩
theorem up32_one {l : List W32} : ∀ u ∈ up32 l, u.oneCell' = true := fun u hu => by
  obtain ⟨a, _, rfl⟩ := List.mem_map.1 hu
  rfl
def addF (v r : List W32) (i : Nat) : List W32 := List.zipWith (· + ·) (v.take i) (r.take i) ++ v.drop i
theorem addF_len {v r : List W32} {n : Nat} (h : v.length = n) (h2 : r.length = n) {i : Nat} (hi : i ≤ n) : (addF v r i).length = n := by
  simp [addF, h, h2]
  omega
theorem addF_at {v r : List W32} {n : Nat} (h : v.length = n) (h2 : r.length = n) {i : Nat} (hi : i < n) : (addF v r i)[i]? = some (v.getD i 0) := by
  unfold addF
  rw [List.getElem?_append_right (by simp; omega)]
  simp only [List.length_zipWith, List.length_take]
  rw [show min (min i v.length) (min i r.length) = i by omega, Nat.sub_self, List.getElem?_drop, Nat.add_zero, List.getD_eq_getElem?_getD, List.getElem?_eq_getElem (by omega)]
  rfl
theorem addF_set {v r : List W32} {n : Nat} (h : v.length = n) (h2 : r.length = n) {i : Nat} (hi : i < n) : (addF v r i).set i (v.getD i 0 + r.getD i 0) = addF v r (i + 1) := by
  have hz : (List.zipWith (· + ·) (v.take i) (r.take i)).length = i := by simp; omega
  have e1 : v.getD i 0 = v[i] := by simp [List.getD_eq_getElem?_getD, h, hi]
  have e2 : r.getD i 0 = r[i] := by simp [List.getD_eq_getElem?_getD, h2, hi]
  unfold addF
  rw [List.set_append_right _ _ (by omega), hz, Nat.sub_self, List.drop_eq_getElem_cons (by omega : i < v.length), List.set_cons_zero, List.take_succ_eq_append_getElem (by omega : i < v.length), List.take_succ_eq_append_getElem (by omega : i < r.length), List.zipWith_append (by simp; omega), e1, e2]
  simp
theorem addF_full {v r : List W32} {n : Nat} (h : v.length = n) (h2 : r.length = n) : addF v r n = List.zipWith (· + ·) v r := by
  unfold addF
  rw [List.take_of_length_le (by omega), List.take_of_length_le (by omega), List.drop_of_length_le (by omega), List.append_nil]
theorem getD_at {l : List W32} {i : Nat} (h : i < l.length) : l[i]? = some (l.getD i 0) := by
  rw [List.getD_eq_getElem?_getD, List.getElem?_eq_getElem h]
  rfl
theorem mix_sp (hv : List W32) (v : Value) (b : List Int) (h8 : hv.length = 8) (hb : Bytes b) (h64 : b.length = 64) (h : View) (hvv : Bs8 h v b) (hg : ShG h) (w : World) (s : St ⟨w, h, []⟩ h [] w) :
    Calls Tryz.prog 115 [.agg (up32 hv).toArray, v].toArray w fun e w' => e = .returned (.agg (up32 (mixF hv b)).toArray) ∧ St ⟨w, h, []⟩ h [] w' := by
  refine calls_enter Tryz.func115 rfl Tryz.ntmps115 rfl s ?_
  repeat' (first|refine tw_ ?_|(refine ta_ ?_;intro _)|(refine zk0 ?_ ?_<;>intro ht)|fail)
  rename_i b4 b2
  (refine ycn (ycp Tryz.func132 rfl (by kernel_rfl) rfl) (schedule_sp v b hb h64 h hvv) rfl rfl rfl ?_ ?_; (· (exact to_)))
  have hl64 := wsF_len b 64
  obtain ⟨⟨eK, fzK, hgK⟩, _⟩ := hg
  have emix : mixF hv b = List.zipWith (· + ·) hv (roundsF hv (wsF b 64) 64) := rfl
  rw [emix]
  clear emix
  generalize wsF b 64 = ws at hl64 ⊢
  repeat' (first|refine zw37 ?_|(refine ta_ ?_;intro _)|(refine zk0 ?_ ?_<;>intro ht)|fail)
  rename_i b5 b6
  refine cx_loop (X := Nat) (fun k => [(2, .pointer (some ⟨b4, 0, none⟩)), (4, .pointer (some ⟨b2, 0, none⟩)), (5, .pointer (some ⟨b5, 0, none⟩)), (6, .pointer (some ⟨b6, 0, none⟩)), (14, .int .i64 (k : Nat))]) (fun _ => h)
    (fun k => [Res.blk b6 (.cells (up32 (roundsF hv ws k)).toArray 164 (0, 0)), Res.blk b5 (.cells (up32 ws).toArray 179 (0, 0)), Res.blk b2 (.cells (up32 (pad32 8 [])).toArray 164 (0, 0)), Res.blk b4 (.cells (up32 hv).toArray 164 (0, 0))])
    (fun k => k ≤ 64) (fun k => 64 - k) 0 (Nat.zero_le _) ts_ (fun _ s => s) ?_
  intro k hk
  have hrl := roundsF_len (ws := ws) h8 k
  by_cases hk64 : k < 64
  · have hKc : ∀ L, CellAt h L 1 (0 + ((k : Nat) : Int).toNat * 1) (v32 (shK.getD k 0)) := fun L => cell_view hgK (by
      rw [lget_eq]
      simp only [Int.toNat_natCast, Nat.mul_one, Nat.zero_add]
      refine up32_at ?_
      rw [List.getD_eq_getElem?_getD, List.getElem?_eq_getElem (by rw [shK_len]; exact hk64)]
      rfl)
    have hWc : ws[k]? = some (ws.getD k 0) := by
      rw [List.getD_eq_getElem?_getD, List.getElem?_eq_getElem (by omega)]
      rfl
    have hR : roundsF hv ws (k + 1) = mixStep (roundsF hv ws k) (shK.getD k 0) (ws.getD k 0) := rfl
    obtain ⟨a0, a1, a2, a3, a4, a5, a6, a7, er⟩ := list8 hrl
    rw [er] at hR ⊢
    generalize shK.getD k 0 = kk at hKc hR
    generalize ws.getD k 0 = wk at hWc hR
    repeat' (first|refine zw38 ?_|(refine ta_ ?_;intro _)|(refine zk0 ?_ ?_<;>intro ht)|fail)
    refine cx_region_draw' rfl (by kernel_rfl) ?_
    repeat' (first|refine zw39 ?_|(refine ycf ?_;(first|(refine zg0 ?_ ?_<;>intro ht)|(refine tb_ ?_ ?_ ?_;(·(exact to_));(·intro _;(exact to_));intro _)))|fail)
    (refine ycn (ycp Tryz.func133 rfl (by kernel_rfl) rfl) (turned_sp a4 6 11 25 (by omega) (by omega) (by omega) h) rfl rfl rfl ?_ ?_; (· (exact to_)))
    repeat' (first|refine zw39 ?_|(refine ycf ?_;(first|(refine zg0 ?_ ?_<;>intro ht)|(refine tb_ ?_ ?_ ?_;(·(exact to_));(·intro _;(exact to_));intro _)))|fail)
    repeat' (first|refine zw38 ?_|(refine ta_ ?_;intro _)|(refine zk0 ?_ ?_<;>intro ht)|fail)
    refine cx_region_draw' rfl (by kernel_rfl) ?_
    repeat' (first|refine zw39 ?_|(refine ycf ?_;(first|(refine zg0 ?_ ?_<;>intro ht)|(refine tb_ ?_ ?_ ?_;(·(exact to_));(·intro _;(exact to_));intro _)))|fail)
    (refine ycn (ycp Tryz.func133 rfl (by kernel_rfl) rfl) (turned_sp a0 2 13 22 (by omega) (by omega) (by omega) h) rfl rfl rfl ?_ ?_; (· (exact to_)))
    repeat' (first|refine zw39 ?_|(refine ycf ?_;(first|(refine zg0 ?_ ?_<;>intro ht)|(refine tb_ ?_ ?_ ?_;(·(exact to_));(·intro _;(exact to_));intro _)))|fail)
    repeat' (first|refine zw38 ?_|(refine ta_ ?_;intro _)|(refine zk0 ?_ ?_<;>intro ht)|fail)
    refine cx_region_draw' rfl (by kernel_rfl) ?_
    repeat' (first|refine zw40 ?_|(refine ycf ?_;(first|(refine zg0 ?_ ?_<;>intro ht)|(refine tb_ ?_ ?_ ?_;(·(exact to_));(·intro _;(exact to_));intro _)))|fail)
    refine rx_copy (news := up32 [a0, a1, a2, a3, a4, a5, a6]) (cs' := up32 [a0, a0, a1, a2, a3, a4, a5, a6]) 0 rfl rfl rfl (Cells.take (vs := up32 [a0, a1, a2, a3, a4, a5, a6, a7]) (yaz (cs := (up32 [a0, a1, a2, a3, a4, a5, a6, a7]).toArray) 0 rfl) 7) rfl (by show 0 + 1 * 1 + 7 ≤ 8; omega) (fun u hu => up32_one u hu) rfl rfl rfl rfl ?_ ?_ ?_
    · (exact to_)
    · (exact to_)
    refine ycg ?_
    repeat' (first|refine zw35 ?_|(refine ta_ ?_;intro _)|(refine zk0 ?_ ?_<;>intro ht)|fail)
    refine nx_round (k + 1) (by show k + 1 ≤ 64; omega) (by show 64 - (k + 1) < 64 - k; omega) ts_ (fun _ s => ?_)
    rw [hR]
    exact s
  · have ek : k = 64 := by omega
    subst ek
    obtain ⟨rr, hrr⟩ : ∃ rr, rr = roundsF hv ws 64 := ⟨_, rfl⟩
    rw [← hrr] at hrl ⊢
    repeat' (first|refine zw3 ?_|(refine ta_ ?_;intro _)|(refine zk0 ?_ ?_<;>intro ht)|fail)
    refine cx_loop (X := Nat) (fun i => [(2, .pointer (some ⟨b4, 0, none⟩)), (4, .pointer (some ⟨b2, 0, none⟩)), (6, .pointer (some ⟨b6, 0, none⟩)), (78, .int .i64 (i : Nat))]) (fun _ => h)
      (fun i => [Res.blk b6 (.cells (up32 rr).toArray 164 (0, 0)), Res.blk b5 (.cells (up32 ws).toArray 179 (0, 0)), Res.blk b2 (.cells (up32 (pad32 8 [])).toArray 164 (0, 0)), Res.blk b4 (.cells (up32 (addF hv rr i)).toArray 164 (0, 0))])
      (fun i => i ≤ 8) (fun i => 8 - i) 0 (Nat.zero_le _) ts_ (fun _ s => s) ?_
    intro i hi
    have hal := addF_len h8 hrl hi
    by_cases hi8 : i < 8
    · have c1 := addF_at h8 hrl hi8
      have c2 := getD_at (l := rr) (i := i) (by omega)
      have hst := addF_set h8 hrl hi8
      generalize hv.getD i 0 = x1 at c1 hst
      generalize rr.getD i 0 = x2 at c2 hst
      repeat' (first|refine zw41 ?_|(refine ta_ ?_;intro _)|(refine zk0 ?_ ?_<;>intro ht)|fail)
      refine cx_region_draw' rfl (by kernel_rfl) ?_
      repeat' (first|refine zw42 ?_|(refine ycf ?_;(first|(refine zg0 ?_ ?_<;>intro ht)|(refine tb_ ?_ ?_ ?_;(·(exact to_));(·intro _;(exact to_));intro _)))|fail)
      repeat' (first|refine zw35 ?_|(refine ta_ ?_;intro _)|(refine zk0 ?_ ?_<;>intro ht)|fail)
      exact nx_round (i + 1) (by show i + 1 ≤ 8; omega) (by show 8 - (i + 1) < 8 - i; omega) ts_ (fun _ s => s)
    · have ei : i = 8 := by omega
      subst ei
      rw [addF_full h8 hrl, hrr]
      have hml : (List.zipWith (· + ·) hv (roundsF hv ws 64)).length = 8 := by rw [← hrr, List.length_zipWith, hrl, h8]; rfl
      rw [← hrr] at hml ⊢
      generalize List.zipWith (· + ·) hv rr = mm at hml ⊢
      repeat' (first|refine zw43 ?_|(refine ta_ ?_;intro _)|(refine zk0 ?_ ?_<;>intro ht)|fail)
      exact nx_ret1 rfl (rv_cells rfl (yaz 2 rfl) (w_sz hml)) (fun w' s' => ⟨rfl, s'.nil⟩)
end Go.Proofs.YtgeepceieckooaaGreatDoor
end

section
namespace Go.Proofs.YtgeepceieckooaaGreatDoor
open Go Go.Ck
set_option maxHeartbeats 4000000
def qstep (s : List W32) (a b c d : Nat) (x y : Int) : List W32 :=
  let s := s.set a (s.getD a 0 + s.getD b 0)
  let s := s.set d (rotL (s.getD d 0 ^^^ s.getD a 0) (turnK x))
  let s := s.set c (s.getD c 0 + s.getD d 0)
  s.set b (rotL (s.getD b 0 ^^^ s.getD c 0) (turnK y))
theorem qstep_len (s : List W32) (a b c d : Nat) (x y : Int) : (qstep s a b c d x y).length = s.length := by simp [qstep]
def quarterF (s : List W32) (a b c d : Nat) : List W32 := qstep (qstep s a b c d 16 12) a b c d 8 7
theorem quarterF_len (s : List W32) (a b c d : Nat) : (quarterF s a b c d).length = s.length := by simp [quarterF, qstep_len]
section
variable {P : Program} {n : Nat} {F : List (Nat × Value)} {h : View} {L : List Res} {dst : Option Nat} {ty : Nat} {pos : String} {af : Array Edge} {gd : Option (Nat × Bool)}
theorem qv_index_agg {T : Nat} {x y : Operand} {cs vs : Array Value} {len : Nat} {ki : IntKind} {i : Int} {e k : Nat} [tu : TyU P T (.array len e)] [ta : TyA P e true] [ts : TyS P e k] (hx : ev F x = some (.agg cs)) (hy : ev F y = some (.int ki i))
    (h0 : 0 ≤ i) (h1 : i < len) (hv : cs.extract (i.toNat * k) (i.toNat * k + k) = vs) : QV P n F h L ⟨dst, .index T x y, ty, pos, af, gd⟩ (.agg vs) := .mk fun a w f s => by
  simp [execOp, f.ev hx, f.ev hy, Instr.index, asIntOf, run_underlying tu.u, h0, h1, ts.s, part, ta.a, hv]
end
def qby (k : Nat) : Int × Int := if k = 0 then (16, 12) else (8, 7)
def qF (st : List W32) (a b c d : Nat) : Nat → List W32
  | 0 => st
  | k + 1 => qstep (qF st a b c d k) a b c d (qby k).1 (qby k).2
theorem qF_len (st : List W32) (a b c d : Nat) : ∀ k, (qF st a b c d k).length = st.length
  | 0 => rfl
  | k + 1 => by rw [qF, qstep_len, qF_len st a b c d k]
theorem quarter_sp (bs : Nat) (e : TypeId) (st : List W32) (a b c d : Nat) (h16 : st.length = 16) (ha : a < 16) (hb : b < 16) (hc : c < 16) (hd : d < 16) (h : View) (w : World) (s : St ⟨w, h, doms [Res.blk bs (.cells (up32 st).toArray e (0, 0))]⟩ h [Res.blk bs (.cells (up32 st).toArray e (0, 0))] w) :
    Calls Tryz.prog 137 [.pointer (some ⟨bs, 0, none⟩), .int .i64 (a : Nat), .int .i64 (b : Nat), .int .i64 (c : Nat), .int .i64 (d : Nat)].toArray w fun r w' => r = .returned (.tuple #[]) ∧ St ⟨w, h, doms [Res.blk bs (.cells (up32 st).toArray e (0, 0))]⟩ h [Res.blk bs (.cells (up32 (quarterF st a b c d)).toArray e (0, 0))] w' := by
  refine calls_enter Tryz.func137 rfl Tryz.ntmps137 rfl s ?_
  repeat' (first|refine zw44 ?_|(refine ta_ ?_;intro _)|(refine zk0 ?_ ?_<;>intro ht)|fail)
  refine cx_loop (X := Nat) (fun k => [(0, .pointer (some ⟨bs, 0, none⟩)), (1, .int .i64 (a : Nat)), (2, .int .i64 (b : Nat)), (3, .int .i64 (c : Nat)), (4, .int .i64 (d : Nat)), (14, .agg #[.int .i64 16, .int .i64 12, .int .i64 8, .int .i64 7]), (15, .int .i64 (k : Nat))]) (fun _ => h)
    (fun k => [Res.blk bs (.cells (up32 (qF st a b c d k)).toArray e (0, 0))]) (fun k => k ≤ 2) (fun k => 2 - k) 0 (Nat.zero_le _) ts_ (fun _ s => s) ?_
  intro k hk
  have l0 : (qF st a b c d k).length = 16 := by rw [qF_len, h16]
  by_cases hk2 : k < 2
  · have hix : (#[Value.int .i64 16, .int .i64 12, .int .i64 8, .int .i64 7] : Array Value).extract ((k : Int).toNat * 2) ((k : Int).toNat * 2 + 2) = #[.int .i64 (qby k).1, .int .i64 (qby k).2] := by
      rcases (by omega : k = 0 ∨ k = 1) with rfl | rfl <;> rfl
    have hnx : qF st a b c d (k + 1) = qstep (qF st a b c d k) a b c d (qby k).1 (qby k).2 := rfl
    generalize qF st a b c d k = s0 at l0 hnx ⊢
    generalize (qby k).1 = x at hix hnx
    generalize (qby k).2 = y at hix hnx
    have ca := getD_at (l := s0) (i := a) (by omega)
    have cb := getD_at (l := s0) (i := b) (by omega)
    obtain ⟨s1, e1⟩ : ∃ s1, s1 = s0.set a (s0.getD a 0 + s0.getD b 0) := ⟨_, rfl⟩
    have l1 : s1.length = 16 := by rw [e1, List.length_set, l0]
    have cd1 := getD_at (l := s1) (i := d) (by omega)
    have ca1 := getD_at (l := s1) (i := a) (by omega)
    obtain ⟨s2, e2⟩ : ∃ s2, s2 = s1.set d (rotL (s1.getD d 0 ^^^ s1.getD a 0) (turnK x)) := ⟨_, rfl⟩
    have l2 : s2.length = 16 := by rw [e2, List.length_set, l1]
    have cc2 := getD_at (l := s2) (i := c) (by omega)
    have cd2 := getD_at (l := s2) (i := d) (by omega)
    obtain ⟨s3, e3⟩ : ∃ s3, s3 = s2.set c (s2.getD c 0 + s2.getD d 0) := ⟨_, rfl⟩
    have l3 : s3.length = 16 := by rw [e3, List.length_set, l2]
    have cb3 := getD_at (l := s3) (i := b) (by omega)
    have cc3 := getD_at (l := s3) (i := c) (by omega)
    obtain ⟨s4, e4⟩ : ∃ s4, s4 = s3.set b (rotL (s3.getD b 0 ^^^ s3.getD c 0) (turnK y)) := ⟨_, rfl⟩
    have e5 : qstep s0 a b c d x y = s4 := by rw [e4, e3, e2, e1]; rfl
    rw [e5] at hnx
    repeat' (first|refine zw45 ?_|(refine ta_ ?_;intro _)|(refine zk0 ?_ ?_<;>intro ht)|fail)
    refine cx_region_draw' rfl (by kernel_rfl) ?_
    repeat' (first|refine zw46 ?_|(refine ycf ?_;(first|(refine zg0 ?_ ?_<;>intro ht)|(refine tb_ ?_ ?_ ?_;(·(exact to_));(·intro _;(exact to_));intro _)))|fail)
    repeat' (first|refine zw47 ?_|(refine ta_ ?_;intro _)|(refine zk0 ?_ ?_<;>intro ht)|fail)
    refine cx_region_draw' rfl (by kernel_rfl) ?_
    repeat' (first|refine zw48 ?_|(refine ycf ?_;(first|(refine zg0 ?_ ?_<;>intro ht)|(refine tb_ ?_ ?_ ?_;(·(exact to_));(·intro _;(exact to_));intro _)))|fail)
    (refine ycn (ycp Tryz.func145 rfl (by kernel_rfl) rfl) (Left_sp (s1.getD d 0 ^^^ s1.getD a 0) x h) rfl rfl rfl ?_ ?_; (· (exact to_)))
    repeat' (first|refine zw48 ?_|(refine ycf ?_;(first|(refine zg0 ?_ ?_<;>intro ht)|(refine tb_ ?_ ?_ ?_;(·(exact to_));(·intro _;(exact to_));intro _)))|fail)
    repeat' (first|refine zw49 ?_|(refine ta_ ?_;intro _)|(refine zk0 ?_ ?_<;>intro ht)|fail)
    refine cx_region_draw' rfl (by kernel_rfl) ?_
    repeat' (first|refine zw50 ?_|(refine ycf ?_;(first|(refine zg0 ?_ ?_<;>intro ht)|(refine tb_ ?_ ?_ ?_;(·(exact to_));(·intro _;(exact to_));intro _)))|fail)
    repeat' (first|refine zw51 ?_|(refine ta_ ?_;intro _)|(refine zk0 ?_ ?_<;>intro ht)|fail)
    refine cx_region_draw' rfl (by kernel_rfl) ?_
    repeat' (first|refine zw52 ?_|(refine ycf ?_;(first|(refine zg0 ?_ ?_<;>intro ht)|(refine tb_ ?_ ?_ ?_;(·(exact to_));(·intro _;(exact to_));intro _)))|fail)
    (refine ycn (ycp Tryz.func145 rfl (by kernel_rfl) rfl) (Left_sp (s3.getD b 0 ^^^ s3.getD c 0) y h) rfl rfl rfl ?_ ?_; (· (exact to_)))
    repeat' (first|refine zw52 ?_|(refine ycf ?_;(first|(refine zg0 ?_ ?_<;>intro ht)|(refine tb_ ?_ ?_ ?_;(·(exact to_));(·intro _;(exact to_));intro _)))|fail)
    repeat' (first|refine zw53 ?_|(refine ta_ ?_;intro _)|(refine zk0 ?_ ?_<;>intro ht)|fail)
    refine nx_round (k + 1) (by show k + 1 ≤ 2; omega) (by show 2 - (k + 1) < 2 - k; omega) ts_ (fun _ s => ?_)
    rw [hnx]
    exact s.tl
  · have ek : k = 2 := by omega
    subst ek
    repeat' (first|refine zw3 ?_|(refine ta_ ?_;intro _)|(refine zk0 ?_ ?_<;>intro ht)|fail)
    exact nx_end0 rfl (fun w' s' => ⟨rfl, s'⟩)
theorem quarter_spi (ia ib ic id' : Int) (bs : Nat) (e : TypeId) (st : List W32) (a b c d : Nat) (h16 : st.length = 16) (ha : a < 16) (hb : b < 16) (hc : c < 16) (hd : d < 16) (ea : ia = (a : Nat)) (eb : ib = (b : Nat)) (ec : ic = (c : Nat)) (ed : id' = (d : Nat)) (h : View) (w : World) (s : St ⟨w, h, doms [Res.blk bs (.cells (up32 st).toArray e (0, 0))]⟩ h [Res.blk bs (.cells (up32 st).toArray e (0, 0))] w) :
    Calls Tryz.prog 137 [.pointer (some ⟨bs, 0, none⟩), .int .i64 ia, .int .i64 ib, .int .i64 ic, .int .i64 id'].toArray w fun r w' => ∃ x : Unit, r = .returned ((fun _ => .tuple #[]) x) ∧ St ⟨w, h, doms [Res.blk bs (.cells (up32 st).toArray e (0, 0))]⟩ ((fun _ => h) x) ((fun _ => [Res.blk bs (.cells (up32 (quarterF st a b c d)).toArray e (0, 0))]) x) w' ∧ (fun _ => True) x := by
  subst ea eb ec ed
  exact (quarter_sp bs e st a b c d h16 ha hb hc hd h w s).mono fun r w' ⟨h1, h2⟩ => ⟨(), h1, h2, trivial⟩
def colsF (s : List W32) : Nat → List W32
  | 0 => s
  | i + 1 => quarterF (colsF s i) i (4 + i) (8 + i) (12 + i)
def diaF (s : List W32) : Nat → List W32
  | 0 => s
  | i + 1 => quarterF (diaF s i) i (4 + (i + 1) % 4) (8 + (i + 2) % 4) (12 + (i + 3) % 4)
def roundF (s : List W32) : List W32 := diaF (colsF s 4) 4
theorem colsF_len (s : List W32) : ∀ k, (colsF s k).length = s.length
  | 0 => rfl
  | k + 1 => by rw [colsF, quarterF_len, colsF_len s k]
theorem diaF_len (s : List W32) : ∀ k, (diaF s k).length = s.length
  | 0 => rfl
  | k + 1 => by rw [diaF, quarterF_len, diaF_len s k]
theorem roundF_len (s : List W32) : (roundF s).length = s.length := by rw [roundF, diaF_len, colsF_len]
theorem rounds_sp (bs : Nat) (e : TypeId) (st : List W32) (h16 : st.length = 16) (h : View) (w : World) (s : St ⟨w, h, doms [Res.blk bs (.cells (up32 st).toArray e (0, 0))]⟩ h [Res.blk bs (.cells (up32 st).toArray e (0, 0))] w) :
    Calls Tryz.prog 118 [.pointer (some ⟨bs, 0, none⟩)].toArray w fun r w' => r = .returned (.tuple #[]) ∧ St ⟨w, h, doms [Res.blk bs (.cells (up32 st).toArray e (0, 0))]⟩ h [Res.blk bs (.cells (up32 (roundF st)).toArray e (0, 0))] w' := by
  refine calls_enter Tryz.func118 rfl Tryz.ntmps118 rfl s ?_
  repeat' (first|refine zw3 ?_|(refine ta_ ?_;intro _)|(refine zk0 ?_ ?_<;>intro ht)|fail)
  refine cx_loop (X := Nat) (fun k => [(0, .pointer (some ⟨bs, 0, none⟩)), (4, .int .i64 (k : Nat))]) (fun _ => h) (fun k => [Res.blk bs (.cells (up32 (colsF st k)).toArray e (0, 0))]) (fun k => k ≤ 4) (fun k => 4 - k) 0 (Nat.zero_le _) ts_ (fun _ s => s) ?_
  intro k hk
  have hl := (colsF_len st k).trans h16
  by_cases hk4 : k < 4
  · --(exact tk_):= (exact tk_)
    repeat' (first|refine zw3 ?_|(refine ta_ ?_;intro _)|(refine zk0 ?_ ?_<;>intro ht)|fail)
    (refine rx_call_m (ycp Tryz.func137 rfl (by kernel_rfl) rfl) (perm_at (k := 0) rfl) (quarter_spi (k : Nat) (4 + (k : Nat)) (8 + (k : Nat)) (12 + (k : Nat)) bs e (colsF st k) k (4 + k) (8 + k) (12 + k) hl (by omega) (by omega) (by omega) (by omega) rfl (by omega) (by omega) (by omega) h) rfl rfl rfl ?_ ?_ ?_; (· (exact to_)); (·exact zc148); intro x px hle)
    repeat' (first|refine zw3 ?_|(refine ta_ ?_;intro _)|(refine zk0 ?_ ?_<;>intro ht)|fail)
    exact nx_round (k + 1) (by show k + 1 ≤ 4; omega) (by show 4 - (k + 1) < 4 - k; omega) ts_ (fun _ s => s)
  · have ek : k = 4 := by omega
    subst ek
    have hl0 := hl
    obtain ⟨s0, hs0⟩ : ∃ s0, s0 = colsF st 4 := ⟨_, rfl⟩
    have hR : roundF st = diaF s0 4 := by rw [hs0]; rfl
    rw [← hs0] at hl0
    rw [← hs0, hR]
    repeat' (first|refine zw3 ?_|(refine ta_ ?_;intro _)|(refine zk0 ?_ ?_<;>intro ht)|fail)
    refine cx_loop (X := Nat) (fun k => [(0, .pointer (some ⟨bs, 0, none⟩)), (17, .int .i64 (k : Nat))]) (fun _ => h) (fun k => [Res.blk bs (.cells (up32 (diaF s0 k)).toArray e (0, 0))]) (fun k => k ≤ 4) (fun k => 4 - k) 0 (Nat.zero_le _) ts_ (fun _ s => s) ?_
    intro k hk
    have hl := (diaF_len s0 k).trans hl0
    by_cases hk4 : k < 4
    · have m1 : ((k : Int) + 1).tmod 4 = ((k + 1) % 4 : Nat) := by rw [Int.tmod_eq_emod_of_nonneg (by omega)]; omega
      have m2 : ((k : Int) + 2).tmod 4 = ((k + 2) % 4 : Nat) := by rw [Int.tmod_eq_emod_of_nonneg (by omega)]; omega
      have m3 : ((k : Int) + 3).tmod 4 = ((k + 3) % 4 : Nat) := by rw [Int.tmod_eq_emod_of_nonneg (by omega)]; omega
      repeat' (first|refine zw54 ?_|(refine ta_ ?_;intro _)|(refine zk0 ?_ ?_<;>intro ht)|fail)
      (refine rx_call_m (ycp Tryz.func137 rfl (by kernel_rfl) rfl) (perm_at (k := 0) rfl) (quarter_spi (k : Nat) (4 + ((k + 1) % 4 : Nat)) (8 + ((k + 2) % 4 : Nat)) (12 + ((k + 3) % 4 : Nat)) bs e (diaF s0 k) k (4 + (k + 1) % 4) (8 + (k + 2) % 4) (12 + (k + 3) % 4) hl (by omega) (by omega) (by omega) (by omega) rfl (by omega) (by omega) (by omega) h) rfl rfl rfl ?_ ?_ ?_; (· (exact to_)); (·exact zc148); intro x px hle)
      repeat' (first|refine zw54 ?_|(refine ta_ ?_;intro _)|(refine zk0 ?_ ?_<;>intro ht)|fail)
      exact nx_round (k + 1) (by show k + 1 ≤ 4; omega) (by show 4 - (k + 1) < 4 - k; omega) ts_ (fun _ s => s)
    · have ek : k = 4 := by omega
      subst ek
      repeat' (first|refine zw3 ?_|(refine ta_ ?_;intro _)|(refine zk0 ?_ ?_<;>intro ht)|fail)
      exact nx_end0 rfl (fun w' s' => ⟨rfl, s'⟩)
end Go.Proofs.YtgeepceieckooaaGreatDoor
end

section
namespace Go.Ck
open Go
section
variable {P : Program} {n : Nat} {F : List (Nat × Value)} {h : View} {L : List Res} {dst : Option Nat} {ty : Nat} {pos : String} {af : Array Edge} {gd : Option (Nat × Bool)}
theorem or_lo {x j c : Int} {m : Nat} (hj : j = c * 2 ^ m) (h0 : 0 ≤ x) (hx : x < 2 ^ m) (hc : 0 ≤ c) (hb : x + j < 18446744073709551616) : IntKind.u64.wrap (((BitVec.ofInt 64 x) ||| (BitVec.ofInt 64 j)).toNat : Int) = x + j := by
  obtain ⟨a, rfl⟩ := Int.eq_ofNat_of_zero_le h0
  obtain ⟨b, rfl⟩ := Int.eq_ofNat_of_zero_le hc
  have hp : ((2 : Int) ^ m) = ((2 ^ m : Nat) : Int) := by simp
  rw [hp] at hj hx
  have hj2 : j = ((b * 2 ^ m : Nat) : Int) := by rw [hj, Int.natCast_mul]
  subst hj2
  have ha : a < 2 ^ m := by omega
  have e1 : BitVec.ofInt 64 (a : Int) = BitVec.ofNat 64 a := BitVec.ofInt_natCast 64 _
  have e2 : BitVec.ofInt 64 ((b * 2 ^ m : Nat) : Int) = BitVec.ofNat 64 (b * 2 ^ m) := BitVec.ofInt_natCast 64 _
  have hor : a ||| b * 2 ^ m = a + b * 2 ^ m := by
    have := Nat.two_pow_add_eq_or_of_lt (i := m) (b := a) ha b
    rw [Nat.mul_comm b, Nat.or_comm, ← this, Nat.add_comm]
  rw [e1, e2, BitVec.toNat_or, BitVec.toNat_ofNat, BitVec.toNat_ofNat, Nat.mod_eq_of_lt (by omega), Nat.mod_eq_of_lt (by omega), hor]
  have hw : ∀ n : Int, IntKind.u64.wrap n = n % 18446744073709551616 := fun n => by simp [IntKind.wrap, IntKind.bits, IntKind.signed]
  rw [hw]
  clear hor e1 e2 hj hp hw
  generalize b * 2 ^ m = q at hb ⊢
  omega
theorem qv_or_lo {T T' : Nat} {x y : Operand} {i j c r : Int} (m : Nat) (hx : ev F x = some (.int .u64 i)) (hy : ev F y = some (.int .u64 j)) (hj : j = c * 2 ^ m) (h0 : 0 ≤ i) (h1 : i < 2 ^ m) (hc : 0 ≤ c) (hb : i + j < 18446744073709551616) (hr : i + j = r) :
    QV P n F h L ⟨dst, .binOp .or T x y T', ty, pos, af, gd⟩ (.int .u64 r) := by
  subst hr
  have := or_lo hj h0 h1 hc hb
  refine .mk fun a w f s => ?_
  simp only [execOp, f.ev hx, f.ev hy, Sem.run_bind, run_guard_int, Result.andThen_ok, binOp, Op.intBits]
  simp only [IntKind.bits] at this ⊢
  simp
  exact this
end
end Go.Ck
namespace Go.Proofs.YtgeepceieckooaaGreatDoor
open Go Go.Ck
set_option maxHeartbeats 4000000
theorem foldB (r : List Int) : ∀ x, r.foldl (fun x c => x * 256 + c) x = x * 256 ^ r.length + valB r := by
  induction r with
  | nil => intro x; simp [valB]
  | cons c r ih =>
    intro x
    unfold valB
    simp only [List.foldl_cons, List.length_cons]
    rw [ih, ih (0 * 256 + c), Int.pow_succ, Int.zero_mul, Int.zero_add, Int.add_mul, Int.add_assoc]
    congr 1
    rw [Int.mul_assoc, Int.mul_comm 256]
theorem valB_cons (c : Int) (r : List Int) : valB (c :: r) = c * 256 ^ r.length + valB r := by
  show r.foldl _ (0 * 256 + c) = _
  rw [foldB, Int.zero_mul, Int.zero_add]
def valL (l : List Int) : Int := valB l.reverse
theorem valL_succ {l : List Int} {k : Nat} (hk : k < l.length) : valL (l.take (k + 1)) = valL (l.take k) + l[k] * 256 ^ k := by
  unfold valL
  rw [List.take_succ_eq_append_getElem hk, List.reverse_append, List.reverse_singleton, List.singleton_append, valB_cons, List.length_reverse, List.length_take, Nat.min_eq_left (by omega), Int.add_comm]
theorem valL_bd {l : List Int} (hb : Bytes l) (k : Nat) (hk : k ≤ l.length) : 0 ≤ valL (l.take k) ∧ valL (l.take k) < 256 ^ k := by
  have hb2 : Bytes (l.take k).reverse := fun x hx => hb x (List.mem_of_mem_take (List.mem_reverse.1 hx))
  have := valB_bd hb2 k (by simp; omega)
  rw [List.take_of_length_le (by simp; omega)] at this
  exact this
theorem two8 : ∀ k : Nat, (2 : Int) ^ (8 * k) = 256 ^ k
  | 0 => rfl
  | k + 1 => by
    rw [show 8 * (k + 1) = 8 * k + 8 by omega, Int.pow_add, two8 k, Int.pow_succ]
    rfl
theorem low_sp (v : Value) (l : List Int) (hb : Bytes l) (h8 : l.length ≤ 8) (h : View) (hv : Bs8 h v l) (w : World) (s : St ⟨w, h, []⟩ h [] w) :
    Calls Tryz.prog 138 [v].toArray w fun e w' => e = .returned (.int .u64 (valL l)) ∧ St ⟨w, h, []⟩ h [] w' := by
  obtain ⟨_, ad, cap, rfl, hcap, _⟩ := id hv
  refine calls_enter Tryz.func138 rfl Tryz.ntmps138 rfl s ?_
  repeat' (first|refine tw_ ?_|(refine ta_ ?_;intro _)|(refine zk0 ?_ ?_<;>intro ht)|fail)
  refine cx_loop (X := Nat) (fun k => [(3, .int .u64 (valL (l.take k))), (6, .slice ad l.length cap), (7, .int .i64 (l.length : Nat)), (8, .int .i64 (k : Nat))]) (fun _ => h) (fun _ => []) (fun k => k ≤ l.length) (fun k => l.length - k) 0 (Nat.zero_le _) ts_ (fun _ s => s) ?_
  intro k hk
  by_cases hkl : k < l.length
  · obtain ⟨bs, o, rfl⟩ := hv.ad (by omega) (by omega)
    have hbd := valL_bd hb k (by omega)
    have hbd1 := valL_bd hb (k + 1) (by omega)
    have hp : (256 : Int) ^ (k + 1) ≤ 256 ^ 8 := p256 (by omega)
    have e8 : (256 : Int) ^ 8 = 18446744073709551616 := by decide
    rw [e8] at hp
    have hc := hb l[k] (List.getElem_mem _)
    have hel : ∀ L, CellAt h L bs (o + k * 1) (.int .u8 l[k]) := fun L => (hv.cells (L := L)).cell (by simp [bcs, hkl])
    have hnext := (valL_succ hkl).symm
    have hm : IntKind.i64.wrap (8 * (k : Int)) = ((8 * k : Nat) : Int) := by rw [IntKind.wrap_i64]<;>omega
    have hpos : (0 : Int) < 256 ^ k := Int.pow_pos (by omega)
    have hge : 0 ≤ l[k] * 256 ^ k := Int.mul_nonneg hc.1 (by omega)
    have hsh : IntKind.u64.wrap (l[k] * 2 ^ (8 * k)) = l[k] * 256 ^ k := by
      rw [two8]
      exact wrap_u64 hge (by omega)
    have hcw : IntKind.u64.wrap l[k] = l[k] := wrap_u64 hc.1 (by omega)
    have hsz : 8 * k < IntKind.u64.bits := by show 8 * k < 64; omega
    have h2 : l[k] * 256 ^ k = l[k] * 2 ^ (8 * k) := by rw [two8]
    have h3 : valL (l.take k) < 2 ^ (8 * k) := by rw [two8]; exact hbd.2
    repeat' (first|refine zw55 ?_|(refine ta_ ?_;intro _)|(refine zk0 ?_ ?_<;>intro ht)|fail)
    exact nx_round (k + 1) (by show k + 1 ≤ _; omega) (by show l.length - (k + 1) < l.length - k; omega) ts_ (fun _ s => s)
  · have ek : k = l.length := by omega
    subst ek
    rw [List.take_length]
    repeat' (first|refine zw28 ?_|(refine ta_ ?_;intro _)|(refine zk0 ?_ ?_<;>intro ht)|fail)
    exact nx_ret1 rfl (rv_tmp rfl) (fun w' s' => ⟨rfl, s'⟩)
def lo32 (l : List Int) : W32 := BitVec.ofInt 32 (valL l)
theorem Low32_sp (v : Value) (l : List Int) (hb : Bytes l) (h4 : l.length = 4) (h : View) (hv : Bs8 h v l) (w : World) (s : St ⟨w, h, []⟩ h [] w) :
    Calls Tryz.prog 136 [v].toArray w fun e w' => e = .returned (.tuple #[v32 (lo32 l), .bool true]) ∧ St ⟨w, h, []⟩ h [] w' := by
  have hw : IntKind.u32.wrap (valL l) = ((lo32 l).toNat : Int) := wrapw rfl rfl _
  have H := low_sp v l hb (by omega) h hv
  obtain ⟨_, ad, cap, rfl, hcap, _⟩ := id hv
  refine calls_enter Tryz.func136 rfl Tryz.ntmps136 rfl s ?_
  repeat' (first|refine zw29 ?_|(refine ta_ ?_;intro _)|(refine zk0 ?_ ?_<;>intro ht)|fail)
  (refine ycn (ycp Tryz.func138 rfl (by kernel_rfl) rfl) (H) rfl rfl rfl ?_ ?_; (· (exact to_)))
  repeat' (first|refine zw29 ?_|(refine ta_ ?_;intro _)|(refine zk0 ?_ ?_<;>intro ht)|fail)
  exact nx_ret2 rfl (rv_tmp rfl) (rv_tmp rfl) (fun w' s' => ⟨rfl, s'⟩)
theorem bs_blk {h : View} {b : Nat} {l : List Int} {e : TypeId} {fz : Nat × Nat} (hb : h b = some (.cells (bcs l).toArray e fz)) {i j o m c : Nat} (hij : i ≤ j) (hj : j ≤ l.length) (ho : o = i) (hm : m = j - i) (hc : m ≤ c) : Bs8 h (.slice (some ⟨b, o, none⟩) m c) ((l.drop i).take (j - i)) := by
  subst ho hm
  have e1 : ((l.drop o).take (j - o)).length = j - o := by simp; omega
  unfold Bs8
  rw [e1]
  refine ⟨by simp [bcs]; omega, _, _, rfl, hc, .inr ⟨b, o, _, e, fz, rfl, hb, fun k u hu => ?_⟩⟩
  simp only [bcs, List.getElem?_map, List.getElem?_take, List.getElem?_drop] at hu
  simp only [List.getElem?_toArray, bcs, List.getElem?_map]
  split at hu
  · exact hu
  · simp at hu
def keyW (key : List Int) : Nat → List W32
  | 0 => []
  | k + 1 => keyW key k ++ [lo32 ((key.drop (4 * k)).take 4)]
theorem keyW_len (key : List Int) : ∀ k, (keyW key k).length = k
  | 0 => rfl
  | k + 1 => by simp [keyW, keyW_len key k]
def chHead : List W32 := [1634760805, 857760878, 2036477234, 1797285236]
def beginF (key : List Int) (n : W32) (nonce : List Int) : List W32 := chHead ++ keyW key 8 ++ [n] ++ keyW nonce 3
theorem beginF_len (key : List Int) (n : W32) (nonce : List Int) : (beginF key n nonce).length = 16 := by simp [beginF, keyW_len, chHead]
theorem begin_sp (key : List Int) (n : W32) (nonce : List Int) (hk : Bytes key) (hn : Bytes nonce) (hk32 : key.length = 32) (hn12 : nonce.length = 12) (h : View) (w : World) (s : St ⟨w, h, []⟩ h [] w) :
    Calls Tryz.prog 117 [.agg (bcs key).toArray, v32 n, .agg (bcs nonce).toArray].toArray w fun e w' => e = .returned (.agg (up32 (beginF key n nonce)).toArray) ∧ St ⟨w, h, []⟩ h [] w' := by
  refine calls_enter Tryz.func117 rfl Tryz.ntmps117 rfl s ?_
  repeat' (first|refine zw56 ?_|(refine ta_ ?_;intro _)|(refine zk0 ?_ ?_<;>intro ht)|fail)
  rename_i bk bn br bs
  have hpl : ∀ l : List W32, l.length ≤ 16 → (pad32 16 l).length = 16 := fun l hl => pad32_len hl
  refine cx_perm (List.reverse_perm _).symm ?_
  refine cx_bpersist rfl ?_
  intro hnk
  refine cx_bpersist rfl ?_
  intro hnn
  obtain ⟨h2, hh⟩ : ∃ h2, h2 = addV (addV h bk (.cells (Value.agg (bcs key).toArray).cells 33)) bn (.cells (Value.agg (bcs nonce).toArray).cells 117) := ⟨_, rfl⟩
  rw [← hh]
  have hne : bk ≠ bn := fun e => by subst e; simp [addV] at hnn
  have hK : h2 bk = some (.cells (bcs key).toArray 33 (0, 0)) := by rw [hh]; simp [addV, hne]; rfl
  have hN : h2 bn = some (.cells (bcs nonce).toArray 117 (0, 0)) := by rw [hh]; simp [addV]; rfl
  refine cx_loop (X := Nat) (fun k => [(1, v32 n), (5, .pointer (some ⟨bn, 0, none⟩)), (3, .pointer (some ⟨bk, 0, none⟩)), (6, .pointer (some ⟨br, 0, none⟩)), (7, .pointer (some ⟨bs, 0, none⟩)), (11, .int .i64 (k : Nat))]) (fun _ => h2) (fun k => [Res.blk br (.cells (up32 (pad32 16 [])).toArray 167 (0, 0)), Res.blk bs (.cells (up32 (pad32 16 (chHead ++ keyW key k))).toArray 167 (0, 0))]) (fun k => k ≤ 8) (fun k => 8 - k) 0 (Nat.zero_le _) ts_ (fun _ s => s) ?_
  intro k hk8
  have hwl : (chHead ++ keyW key k).length = 4 + k := by simp [keyW_len, chHead]; omega
  by_cases hkl : k < 8
  · have hm : IntKind.i64.wrap (4 * (k : Int)) = ((4 * k : Nat) : Int) := by rw [IntKind.wrap_i64]<;>omega
    have H := Low32_sp _ _ (bytes_take (bytes_drop hk (4 * k)) (4 * k + 4 - 4 * k)) (by simp; omega) h2 (bs_blk (o := 0 + 4 * k * 1) (m := 4 * k + 4 - 4 * k) (c := 32 - 4 * k) hK (i := 4 * k) (j := 4 * k + 4) (by omega) (by omega) (by omega) rfl (by omega))
    rw [show 4 * k + 4 - 4 * k = 4 by omega] at H
    have hst : (pad32 16 (chHead ++ keyW key k)).set (4 + k) (lo32 ((key.drop (4 * k)).take 4)) = pad32 16 (chHead ++ keyW key (k + 1)) := by
      rw [pad32_set hwl (by omega), keyW, List.append_assoc]
    have hpl := pad32_len (n := 16) (l := chHead ++ keyW key k) (by omega)
    repeat' (first|refine zw57 ?_|(refine ta_ ?_;intro _)|(refine zk0 ?_ ?_<;>intro ht)|fail)
    rw [show 4 * k + 4 - 4 * k = 4 by omega]
    (refine ycn (ycp Tryz.func136 rfl (by kernel_rfl) rfl) (H) rfl rfl rfl ?_ ?_; (· (exact to_)))
    repeat' (first|refine zw58 ?_|(refine ta_ ?_;intro _)|(refine zk0 ?_ ?_<;>intro ht)|fail)
    exact nx_round (k + 1) (by show k + 1 ≤ 8; omega) (by show 8 - (k + 1) < 8 - k; omega) ts_ (fun _ s => s)
  · have ek : k = 8 := by omega
    subst ek
    have hst : (pad32 16 (chHead ++ keyW key 8)).set 12 n = pad32 16 (chHead ++ keyW key 8 ++ [n]) := pad32_set hwl (by omega)
    have hpl := pad32_len (n := 16) (l := chHead ++ keyW key 8) (by omega)
    repeat' (first|refine zw59 ?_|(refine ta_ ?_;intro _)|(refine zk0 ?_ ?_<;>intro ht)|fail)
    refine cx_loop (X := Nat) (fun k => [(5, .pointer (some ⟨bn, 0, none⟩)), (6, .pointer (some ⟨br, 0, none⟩)), (7, .pointer (some ⟨bs, 0, none⟩)), (30, .int .i64 (k : Nat))]) (fun _ => h2) (fun k => [Res.blk br (.cells (up32 (pad32 16 [])).toArray 167 (0, 0)), Res.blk bs (.cells (up32 (pad32 16 (chHead ++ keyW key 8 ++ [n] ++ keyW nonce k))).toArray 167 (0, 0))]) (fun k => k ≤ 3) (fun k => 3 - k) 0 (Nat.zero_le _) ts_ (fun _ s => by rw [keyW, List.append_nil]; exact s) ?_
    intro k hk3
    have hwl : (chHead ++ keyW key 8 ++ [n] ++ keyW nonce k).length = 13 + k := by simp [keyW_len, chHead]; omega
    by_cases hkl : k < 3
    · have hm : IntKind.i64.wrap (4 * (k : Int)) = ((4 * k : Nat) : Int) := by rw [IntKind.wrap_i64]<;>omega
      have H := Low32_sp _ _ (bytes_take (bytes_drop hn (4 * k)) (4 * k + 4 - 4 * k)) (by simp; omega) h2 (bs_blk (o := 0 + 4 * k * 1) (m := 4 * k + 4 - 4 * k) (c := 12 - 4 * k) hN (i := 4 * k) (j := 4 * k + 4) (by omega) (by omega) (by omega) rfl (by omega))
      rw [show 4 * k + 4 - 4 * k = 4 by omega] at H
      have hst : (pad32 16 (chHead ++ keyW key 8 ++ [n] ++ keyW nonce k)).set (13 + k) (lo32 ((nonce.drop (4 * k)).take 4)) = pad32 16 (chHead ++ keyW key 8 ++ [n] ++ keyW nonce (k + 1)) := by
        rw [pad32_set hwl (by omega), List.append_assoc]
        rfl
      have hpl := pad32_len (n := 16) (l := chHead ++ keyW key 8 ++ [n] ++ keyW nonce k) (by omega)
      generalize chHead ++ keyW key 8 ++ [n] ++ keyW nonce k = w0 at hwl hst hpl ⊢
      repeat' (first|refine zw57 ?_|(refine ta_ ?_;intro _)|(refine zk0 ?_ ?_<;>intro ht)|fail)
      rw [show 4 * k + 4 - 4 * k = 4 by omega]
      (refine ycn (ycp Tryz.func136 rfl (by kernel_rfl) rfl) (H) rfl rfl rfl ?_ ?_; (· (exact to_)))
      repeat' (first|refine zw60 ?_|(refine ta_ ?_;intro _)|(refine zk0 ?_ ?_<;>intro ht)|fail)
      exact nx_round (k + 1) (by show k + 1 ≤ 3; omega) (by show 3 - (k + 1) < 3 - k; omega) ts_ (fun _ s => s)
    · have ek : k = 3 := by omega
      subst ek
      have e1 : pad32 16 (chHead ++ keyW key 8 ++ [n] ++ keyW nonce 3) = beginF key n nonce := pad32_full hwl
      have hml := beginF_len key n nonce
      rw [e1]
      generalize beginF key n nonce = mm at hml ⊢
      repeat' (first|refine zw61 ?_|(refine ta_ ?_;intro _)|(refine zk0 ?_ ?_<;>intro ht)|fail)
      exact nx_ret1 rfl (rv_cells rfl (yaz 0 rfl) (w_sz hml)) (fun w' s' => ⟨rfl, s'.nil.base⟩)
def outF (st : List W32) : Nat → List Int
  | 0 => []
  | k + 1 => outF st k ++ putLow 4 ((st.getD k 0).toNat : Int)
theorem outF_len (st : List W32) : ∀ k, (outF st k).length = 4 * k
  | 0 => rfl
  | k + 1 => by rw [outF, List.length_append, outF_len st k, putLow_len]; omega
theorem l4drop (a b c d e f : Res) : ([a, b, c, d, e, f] : List Res).Perm [e, f, a, b, c, d] := List.perm_append_comm (l₁ := [a, b, c, d]) (l₂ := [e, f])
def wkF (s : List W32) : Nat → List W32
  | 0 => s
  | k + 1 => roundF (wkF s k)
theorem wkF_len (s : List W32) : ∀ k, (wkF s k).length = s.length
  | 0 => rfl
  | k + 1 => by rw [wkF, roundF_len, wkF_len s k]
def blockF (key : List Int) (n : W32) (nonce : List Int) : List Int := outF (List.zipWith (· + ·) (wkF (beginF key n nonce) 10) (beginF key n nonce)) 16
theorem rounds_spu (bs : Nat) (e : TypeId) (st : List W32) (h16 : st.length = 16) (h : View) (w : World) (s : St ⟨w, h, doms [Res.blk bs (.cells (up32 st).toArray e (0, 0))]⟩ h [Res.blk bs (.cells (up32 st).toArray e (0, 0))] w) :
    Calls Tryz.prog 118 [.pointer (some ⟨bs, 0, none⟩)].toArray w fun r w' => ∃ x : Unit, r = .returned ((fun _ => .tuple #[]) x) ∧ St ⟨w, h, doms [Res.blk bs (.cells (up32 st).toArray e (0, 0))]⟩ ((fun _ => h) x) ((fun _ => [Res.blk bs (.cells (up32 (roundF st)).toArray e (0, 0))]) x) w' ∧ (fun _ => True) x :=
  (rounds_sp bs e st h16 h w s).mono fun r w' ⟨h1, h2⟩ => ⟨(), h1, h2, trivial⟩
theorem Block_sp (key : List Int) (n : W32) (nonce : List Int) (hk : Bytes key) (hn : Bytes nonce) (hk32 : key.length = 32) (hn12 : nonce.length = 12) (h : View) (w : World) (s : St ⟨w, h, []⟩ h [] w) :
    Calls Tryz.prog 104 [.agg (bcs key).toArray, v32 n, .agg (bcs nonce).toArray].toArray w fun e w' => e = .returned (.agg (bcs (blockF key n nonce)).toArray) ∧ St ⟨w, h, []⟩ h [] w' := by
  have k1 : (bcs key).length = 32 := by rw [bcs_len, hk32]
  have k2 : (bcs nonce).length = 12 := by rw [bcs_len, hn12]
  refine calls_enter Tryz.func104 rfl Tryz.ntmps104 rfl s ?_
  repeat' (first|refine zw62 ?_|(refine ta_ ?_;intro _)|(refine zk0 ?_ ?_<;>intro ht)|fail)
  (refine ycn (ycp Tryz.func117 rfl (by kernel_rfl) rfl) (begin_sp key n nonce hk hn hk32 hn12 h) rfl rfl rfl ?_ ?_; (· (exact to_)))
  have eB : blockF key n nonce = outF (List.zipWith (· + ·) (wkF (beginF key n nonce) 10) (beginF key n nonce)) 16 := rfl
  have l1 := beginF_len key n nonce
  rw [eB]
  clear eB
  generalize beginF key n nonce = s0 at l1 ⊢
  repeat' (first|refine zw63 ?_|(refine ta_ ?_;intro _)|(refine zk0 ?_ ?_<;>intro ht)|fail)
  rename_i bk bn br b7 b8
  refine cx_loop (X := Nat) (fun k => [(6, .pointer (some ⟨br, 0, none⟩)), (7, .pointer (some ⟨b7, 0, none⟩)), (8, .pointer (some ⟨b8, 0, none⟩)), (17, .int .i64 (k : Nat))]) (fun _ => h) (fun k => [Res.blk b8 (.cells (up32 (wkF s0 k)).toArray 167 (0, 0)), Res.blk b7 (.cells (up32 s0).toArray 167 (0, 0)), Res.blk br (.cells (bcs (List.replicate 64 0)).toArray 158 (0, 0)), Res.blk bn (.cells (bcs nonce).toArray 117 (0, 0)), Res.blk bk (.cells (bcs key).toArray 33 (0, 0))]) (fun k => k ≤ 10) (fun k => 10 - k) 0 (Nat.zero_le _) ts_ (fun _ s => s) ?_
  intro k hk10
  have hwl := (wkF_len s0 k).trans l1
  by_cases hkl : k < 10
  · repeat' (first|refine zw28 ?_|(refine ta_ ?_;intro _)|(refine zk0 ?_ ?_<;>intro ht)|fail)
    (refine rx_call_m (ycp Tryz.func118 rfl (by kernel_rfl) rfl) (perm_at (k := 0) rfl) (rounds_spu b8 _ (wkF s0 k) hwl h) rfl rfl rfl ?_ ?_ ?_; (· (exact to_)); (·exact zc148); intro x px hle)
    repeat' (first|refine zw28 ?_|(refine ta_ ?_;intro _)|(refine zk0 ?_ ?_<;>intro ht)|fail)
    exact nx_round (k + 1) (by show k + 1 ≤ 10; omega) (by show 10 - (k + 1) < 10 - k; omega) ts_ (fun _ s => s)
  · have ek : k = 10 := by omega
    subst ek
    generalize wkF s0 10 = s1 at hwl ⊢
    repeat' (first|refine zw64 ?_|(refine ta_ ?_;intro _)|(refine zk0 ?_ ?_<;>intro ht)|fail)
    refine cx_row 5 1 ?_
    refine cx_loop (X := Nat × Value) (fun y => [(6, .pointer (some ⟨br, 0, none⟩)), (7, .pointer (some ⟨b7, 0, none⟩)), (9, y.2), (21, .agg (up32 s1).toArray), (22, .int .i64 (y.1 : Nat))]) (fun _ => h) (fun y => [rowB y.2 (outF (List.zipWith (· + ·) s1 s0) y.1), Res.blk b8 (.cells (up32 s1).toArray 167 (0, 0)), Res.blk b7 (.cells (up32 s0).toArray 167 (0, 0)), Res.blk br (.cells (bcs (List.replicate 64 0)).toArray 158 (0, 0))]) (fun y => y.1 ≤ 16) (fun y => 16 - y.1) (0, .slice none 0 0) (Nat.zero_le _) ts_ (fun _ s => (s.perm (l4drop _ _ _ _ _ _)).tl.tl) ?_
    rintro ⟨i, v⟩ hi
    replace hi : i ≤ 16 := hi
    dsimp only
    have hzl : (List.zipWith (· + ·) s1 s0).length = 16 := by rw [List.length_zipWith, hwl, l1]; rfl
    have hfl := outF_len (List.zipWith (· + ·) s1 s0) i
    by_cases hi16 : i < 16
    · have g1 := getD_at (l := s1) (i := i) (by omega)
      have g0 := getD_at (l := s0) (i := i) (by omega)
      have hfs : outF (List.zipWith (· + ·) s1 s0) (i + 1) = outF (List.zipWith (· + ·) s1 s0) i ++ putLow 4 ((s1.getD i 0 + s0.getD i 0).toNat : Int) := by
        rw [outF]
        congr 4
        rw [List.getD_eq_getElem?_getD, List.getElem?_zipWith, g1, g0]
        rfl
      generalize s1.getD i 0 = x1 at g1 hfs
      generalize s0.getD i 0 = x0 at g0 hfs
      have hidx : (up32 s1).toArray[((i : Int)).toNat * 1]? = some (v32 x1) := by
        rw [Nat.mul_one, Int.toNat_natCast, List.getElem?_toArray]
        exact up32_at g1
      have hx32 := (x1 + x0).isLt
      have hp4 := putLow_len 4 ((x1 + x0).toNat : Int)
      repeat' (first|refine zw65 ?_|(refine ta_ ?_;intro _)|(refine zk0 ?_ ?_<;>intro ht)|fail)
      (refine yco (ycp Tryz.func102 rfl (by kernel_rfl) rfl) (PutLow_sp ((x1 + x0).toNat : Int) 4 ⟨by omega, by omega⟩ (by omega) h) rfl rfl rfl ?_ ?_ ?_; (· (exact to_)); (·exact zc148); intro x px hle)
      refine rx_rowform 0 rfl (fun _ h1 _ => (by rw [putLow_len] at h1; omega)) ?_
      rintro g4 cap4 rfl
      repeat' (first|refine tw_ ?_|(refine ta_ ?_;intro _)|(refine zk0 ?_ ?_<;>intro ht)|fail)
      refine rx_append (sz := 1) 1 rfl rfl rfl (row_cells 0 rfl) (by rw [bcs_len, Nat.mul_one]) (bcs_one _) rfl (by omega) (by unfold maxLen; omega) (by omega) rfl rfl rfl ybf (fun _ => ybf) ?_
      intro v5 _
      repeat' (first|refine tw_ ?_|(refine ta_ ?_;intro _)|(refine zk0 ?_ ?_<;>intro ht)|fail)
      refine nx_round (i + 1, v5) (by show i + 1 ≤ 16; omega) (by show 16 - (i + 1) < 16 - i; omega) ts_ (fun _ s => ?_)
      dsimp only
      rw [hfs]
      unfold rowB
      rw [List.length_append, bcs_app]
      exact s.tl
    · have ei : i = 16 := by omega
      subst ei
      repeat' (first|refine zw3 ?_|(refine ta_ ?_;intro _)|(refine zk0 ?_ ?_<;>intro ht)|fail)
      refine rx_rowform 0 rfl (fun _ h1 _ => (by omega)) ?_
      rintro g6 cap6 rfl
      generalize outF (List.zipWith (· + ·) s1 s0) 16 = out at hfl ⊢
      have hol : (bcs out).length = 64 := by rw [bcs_len]; omega
      repeat' (first|refine zw66 ?_|(refine ta_ ?_;intro _)|(refine zk0 ?_ ?_<;>intro ht)|fail)
      exact nx_ret1 rfl (rv_cells rfl (yaz 3 rfl) (by show (bcs out).toArray.toList.length = 64; simpa using hol)) (fun w' s' => ⟨rfl, s'.nil.base⟩)
end Go.Proofs.YtgeepceieckooaaGreatDoor
end

section
namespace Go.Ck
open Go
section
variable {P : Program} {n : Nat} {F : List (Nat × Value)} {h : View} {L : List Res} {dst : Option Nat} {ty : Nat} {pos : String} {af : Array Edge} {gd : Option (Nat × Bool)}
def bx (a b : Int) : Int := ((BitVec.ofInt 8 a ^^^ BitVec.ofInt 8 b).toNat : Int)
theorem of8 {a : Int} (h : 0 ≤ a ∧ a < 256) : ((BitVec.ofInt 8 a).toNat : Int) = a := by
  rw [BitVec.toNat_ofInt]
  omega
theorem qv_bx {T T' : Nat} {x y : Operand} {a b : Int} (hx : ev F x = some (.int .u8 a)) (hy : ev F y = some (.int .u8 b)) (ha : 0 ≤ a ∧ a < 256) (hb : 0 ≤ b ∧ b < 256) : QV P n F h L ⟨dst, .binOp .xor T x y T', ty, pos, af, gd⟩ (.int .u8 (bx a b)) :=
  qv_xorw (m := 8) (by rw [hx, of8 ha]) (by rw [hy, of8 hb]) rfl rfl
theorem bx_by (a b : Int) : 0 ≤ bx a b ∧ bx a b < 256 := by
  have := (BitVec.ofInt 8 a ^^^ BitVec.ofInt 8 b).isLt
  unfold bx
  omega
end
theorem St.baseL {K : Bs} {h : View} {L : List Res} {w : World} (s : St K h L w) : St K K.h0 L w :=
  ⟨s.os, s.tape, s.output, s.drawn, s.size, s.keep, ⟨fun b o hb => s.hd.view b o (s.grow b o hb), s.hd.own⟩, s.nd, s.src, Le.refl _, fun _ _ hb => hb, fun b hb => by
    cases hx : K.h0 b with
    | none => rfl
    | some o =>
      have := s.grow b o hx
      rw [s.dis b hb] at this
      cases this⟩
end Go.Ck
namespace Go.Proofs.YtgeepceieckooaaGreatDoor
open Go Go.Ck
set_option maxHeartbeats 4000000
def mixB (a b : List Int) : List Int := List.zipWith bx a b
theorem mixB_by (a b : List Int) : Bytes (mixB a b) := fun x hx => by
  unfold mixB at hx
  obtain ⟨i, hi, rfl⟩ := List.mem_iff_getElem.1 hx
  rw [List.getElem_zipWith]
  exact bx_by _ _
theorem mixB_len (a b : List Int) : (mixB a b).length = min a.length b.length := by simp [mixB]
theorem Mix_sp (va vb : Value) (a b : List Int) (h : View) (ha : Bs8 h va a) (hb : Bs8 h vb b) (ya : Bytes a) (yb : Bytes b) (hl : a.length ≤ 900000) (w : World) (s : St ⟨w, h, []⟩ h [] w) :
    Calls Tryz.prog 105 [va, vb].toArray w fun e w' => ∃ v, e = .returned v ∧ St ⟨w, h, []⟩ h [rowB v (mixB a b)] w' ∧ True := by
  obtain ⟨_, ada, capa, rfl, hcapa, _⟩ := id ha
  obtain ⟨_, adb, capb, rfl, hcapb, _⟩ := id hb
  have hmin : (if (b.length : Int) < (a.length : Int) then (b.length : Int) else (a.length : Int)) = ((min a.length b.length : Nat) : Int) := by split<;>omega
  refine calls_enter Tryz.func105 rfl Tryz.ntmps105 rfl s ?_
  repeat' (first|refine zw67 ?_|(refine ta_ ?_;intro _)|(refine zk0 ?_ ?_<;>intro ht)|fail)
  refine cx_row 5 1 ?_
  refine cx_loop (X := Nat × Value) (fun y => [(0, .slice ada a.length capa), (1, .slice adb b.length capb), (5, y.2), (11, .int .i64 (min a.length b.length : Nat)), (12, .int .i64 (y.1 : Nat))]) (fun _ => h) (fun y => [rowB y.2 ((mixB a b).take y.1)]) (fun y => y.1 ≤ min a.length b.length) (fun y => min a.length b.length - y.1) (0, .slice none 0 0) (Nat.zero_le _) ts_ (fun _ s => s) ?_
  rintro ⟨k, v⟩ hk
  replace hk : k ≤ min a.length b.length := hk
  dsimp only
  have hml := mixB_len a b
  by_cases hkm : k < min a.length b.length
  · obtain ⟨ba, oa, rfl⟩ := ha.ad (by omega) (by omega)
    obtain ⟨bb, ob, rfl⟩ := hb.ad (by omega) (by omega)
    have hea : ∀ L, CellAt h L ba (oa + k * 1) (.int .u8 a[k]) := fun L => (ha.cells (L := L)).cell (by simp [bcs])
    have heb : ∀ L, CellAt h L bb (ob + k * 1) (.int .u8 b[k]) := fun L => (hb.cells (L := L)).cell (by simp [bcs])
    have ha8 := ya a[k] (List.getElem_mem _)
    have hb8 := yb b[k] (List.getElem_mem _)
    have hnx : (mixB a b).take (k + 1) = (mixB a b).take k ++ [bx a[k] b[k]] := by
      rw [List.take_succ_eq_append_getElem (by omega)]
      simp [mixB]
    have htl : ((mixB a b).take k).length = k := by rw [List.length_take]; omega
    repeat' (first|refine zw68 ?_|(refine ta_ ?_;intro _)|(refine zk0 ?_ ?_<;>intro ht)|fail)
    refine cx_region_draw' rfl (by kernel_rfl) ?_
    repeat' (first|refine zw69 ?_|(refine ycf ?_;(first|(refine zg0 ?_ ?_<;>intro ht)|(refine tb_ ?_ ?_ ?_;(·(exact to_));(·intro _;(exact to_));intro _)))|fail)
    refine rx_append (sz := 1) 1 rfl rfl rfl (yaz 0 rfl) rfl (bcs_one [bx a[k] b[k]]) rfl (by omega) (by unfold maxLen; omega) (by omega) rfl rfl rfl ?_ ?_ ?_
    · (exact to_)
    · intro v'; (exact to_)
    intro v2 _
    repeat' (first|refine zw69 ?_|(refine ycf ?_;(first|(refine zg0 ?_ ?_<;>intro ht)|(refine tb_ ?_ ?_ ?_;(·(exact to_));(·intro _;(exact to_));intro _)))|fail)
    repeat' (first|refine tw_ ?_|(refine ta_ ?_;intro _)|(refine zk0 ?_ ?_<;>intro ht)|fail)
    refine nx_round (k + 1, v2) (by show k + 1 ≤ min a.length b.length; omega) (by show min a.length b.length - (k + 1) < min a.length b.length - k; omega) ts_ (fun _ s => ?_)
    dsimp only
    rw [hnx]
    unfold rowB
    rw [List.length_append, bcs_app]
    exact s.tl
  · have ek : k = min a.length b.length := by omega
    subst ek
    rw [List.take_of_length_le (by omega)]
    repeat' (first|refine zw3 ?_|(refine ta_ ?_;intro _)|(refine zk0 ?_ ?_<;>intro ht)|fail)
    refine nx_ret1 rfl (rv_tmp rfl) (fun w' s' => ⟨_, rfl, ?_, trivial⟩)
    exact s'
def strmF (key : List Int) (n : W32) (nonce b : List Int) : Nat → List Int
  | 0 => []
  | k + 1 => strmF key n nonce b k ++ mixB (blockF key (n + BitVec.ofNat 32 k) nonce) (b.drop (64 * k))
def streamF (key : List Int) (n : W32) (nonce b : List Int) : List Int := strmF key n nonce b ((b.length + 63) / 64)
theorem blockF_len (key : List Int) (n : W32) (nonce : List Int) : (blockF key n nonce).length = 64 := outF_len _ 16
theorem strmF_len (key : List Int) (n : W32) (nonce b : List Int) : ∀ k, (strmF key n nonce b k).length = min (64 * k) b.length
  | 0 => by simp [strmF]
  | k + 1 => by
    rw [strmF, List.length_append, strmF_len key n nonce b k, mixB_len, blockF_len, List.length_drop]
    omega
theorem streamF_len (key : List Int) (n : W32) (nonce b : List Int) : (streamF key n nonce b).length = b.length := by
  rw [streamF, strmF_len]
  omega
theorem cbytes_app {a b : List Int} (ha : Bytes a) (hb : Bytes b) : Bytes (a ++ b) := fun x hx => (List.mem_append.1 hx).elim (ha x) (hb x)
theorem outF_by (st : List W32) : ∀ k, Bytes (outF st k)
  | 0 => fun x hx => by cases hx
  | k + 1 => cbytes_app (outF_by st k) (fun x hx => putLow_bytes' 4 _ x (List.mem_reverse.2 hx))
theorem strmF_by (key : List Int) (n : W32) (nonce b : List Int) : ∀ k, Bytes (strmF key n nonce b k)
  | 0 => fun x hx => by cases hx
  | k + 1 => cbytes_app (strmF_by key n nonce b k) (mixB_by _ _)
theorem Stream_sp (key : List Int) (n : W32) (nonce : List Int) (v : Value) (b : List Int) (hk : Bytes key) (hn : Bytes nonce) (hk32 : key.length = 32) (hn12 : nonce.length = 12) (hl : b.length ≤ 900000) (yb : Bytes b) (h : View) (hb : Bs8 h v b) (w : World) (s : St ⟨w, h, []⟩ h [] w) :
    Calls Tryz.prog 89 [.agg (bcs key).toArray, v32 n, .agg (bcs nonce).toArray, v].toArray w fun e w' => ∃ v, e = .returned v ∧ St ⟨w, h, []⟩ h [rowB v (streamF key n nonce b)] w' ∧ True := by
  obtain ⟨_, ad, cap, rfl, hcap, _⟩ := id hb
  have k1 : (bcs key).length = 32 := by rw [bcs_len, hk32]
  have k2 : (bcs nonce).length = 12 := by rw [bcs_len, hn12]
  refine calls_enter Tryz.func89 rfl Tryz.ntmps89 rfl s ?_
  repeat' (first|refine zw3 ?_|(refine ta_ ?_;intro _)|(refine zk0 ?_ ?_<;>intro ht)|fail)
  rename_i bk bn
  refine cx_row 5 1 ?_
  have hfin : streamF key n nonce b = strmF key n nonce b ((b.length + 63) / 64) := rfl
  rw [hfin]
  clear hfin
  obtain ⟨m, hm⟩ : ∃ m, m = (b.length + 63) / 64 := ⟨_, rfl⟩
  rw [← hm]
  refine cx_loop (X := Nat × Value) (fun y => [(1, v32 (n + BitVec.ofNat 32 y.1)), (3, .slice ad b.length cap), (4, .pointer (some ⟨bk, 0, none⟩)), (6, .pointer (some ⟨bn, 0, none⟩)), (9, y.2), (10, .int .i64 (64 * y.1 : Nat))]) (fun _ => h) (fun y => [rowB y.2 (strmF key n nonce b y.1), Res.blk bn (.cells (bcs nonce).toArray 117 (0, 0)), Res.blk bk (.cells (bcs key).toArray 33 (0, 0))]) (fun y => y.1 ≤ m) (fun y => m - y.1) (0, .slice none 0 0) (Nat.zero_le _) ?_ (fun _ s => s) ?_
  · show Ck.Sub [(1, v32 (n + BitVec.ofNat 32 0)), _, _, _, _, _] _
    rw [show n + BitVec.ofNat 32 0 = n from BitVec.add_zero n]
    exact ts_
  rintro ⟨k, v⟩ hkm
  replace hkm : k ≤ m := hkm
  dsimp only
  by_cases hklt : k < m
  · obtain ⟨bb, ob, rfl⟩ := hb.ad (by omega) (by omega)
    repeat' (first|refine zw70 ?_|(refine ta_ ?_;intro _)|(refine zk0 ?_ ?_<;>intro ht)|fail)
    have H := Block_sp key (n + BitVec.ofNat 32 k) nonce hk hn hk32 hn12 h
    have hbl := blockF_len key (n + BitVec.ofNat 32 k) nonce
    have hbb : Bytes (blockF key (n + BitVec.ofNat 32 k) nonce) := outF_by _ 16
    have hnx : strmF key n nonce b (k + 1) = strmF key n nonce b k ++ mixB (blockF key (n + BitVec.ofNat 32 k) nonce) (b.drop (64 * k)) := rfl
    have hn1 : n + BitVec.ofNat 32 k + 1 = n + BitVec.ofNat 32 (k + 1) := by rw [BitVec.add_assoc]; congr 1; exact (BitVec.ofNat_add k 1).symm
    have hsl := strmF_len key n nonce b k
    generalize blockF key (n + BitVec.ofNat 32 k) nonce = kb at H hbl hbb hnx
    generalize n + BitVec.ofNat 32 k = nk at H hn1 ⊢
    have hol : (bcs kb).length = 64 := by rw [bcs_len]; omega
    (refine ycn (ycp Tryz.func104 rfl (by kernel_rfl) rfl) (H) rfl rfl rfl ?_ ?_; (· (exact to_)))
    repeat' (first|refine zw71 ?_|(refine ta_ ?_;intro _)|(refine zk0 ?_ ?_<;>intro ht)|fail)
    rename_i b11
    refine cx_bpersist rfl ?_
    intro hn11
    obtain ⟨h2, hh⟩ : ∃ h2, h2 = addV h b11 (.cells (Value.agg (bcs kb).toArray).cells.toList.toArray 158 (0, 0)) := ⟨_, rfl⟩
    rw [← hh]
    have hle : Le h h2 := by rw [hh]; exact Le.addV hn11
    have hK : h2 b11 = some (.cells (bcs kb).toArray 158 (0, 0)) := by rw [hh]; exact addV_same
    have hB1 : Bs8 h2 (.slice (some ⟨b11, 0, none⟩) 64 64) kb := by
      have := bs_blk (o := 0) (m := 64) (c := 64) hK (i := 0) (j := 64) (by omega) (by omega) rfl rfl (by omega)
      rw [List.drop_zero, List.take_of_length_le (by omega)] at this
      exact this
    have hB2 := bs_mid (hb.mono hle) (i := 64 * k) (j := b.length) (by omega) (Nat.le_refl _)
    rw [List.take_of_length_le (by simp)] at hB2
    have hml := mixB_len kb (b.drop (64 * k))
    rw [List.length_drop] at hml
    repeat' (first|refine zw72 ?_|(refine ta_ ?_;intro _)|(refine zk0 ?_ ?_<;>intro ht)|fail)
    refine cx_region_draw' rfl (by kernel_rfl) ?_
    repeat' (first|refine zw73 ?_|(refine ycf ?_;(first|(refine zg0 ?_ ?_<;>intro ht)|(refine tb_ ?_ ?_ ?_;(·(exact to_));(·intro _;(exact to_));intro _)))|fail)
    (refine yco (ycp Tryz.func105 rfl (by kernel_rfl) rfl) (Mix_sp _ _ kb (b.drop (64 * k)) h2 hB1 hB2 hbb (bytes_drop yb _) (by omega)) rfl rfl rfl ?_ ?_ ?_; (· (exact to_)); (·exact zc148); intro x px hle)
    refine rx_rowform 0 rfl (fun _ h1 _ => (by omega)) ?_
    rintro g4 cap4 rfl
    refine rx_append (sz := 1) 1 rfl rfl rfl (row_cells 0 rfl) (by rw [bcs_len, Nat.mul_one]) (bcs_one _) rfl (by omega) (by unfold maxLen; omega) (by omega) rfl rfl rfl ?_ ?_ ?_
    · (exact to_)
    · intro v'; (exact to_)
    intro v5 _
    repeat' (first|refine zw74 ?_|(refine ycf ?_;(first|(refine zg0 ?_ ?_<;>intro ht)|(refine tb_ ?_ ?_ ?_;(·(exact to_));(·intro _;(exact to_));intro _)))|fail)
    repeat' (first|refine zw75 ?_|(refine ta_ ?_;intro _)|(refine zk0 ?_ ?_<;>intro ht)|fail)
    refine nx_round (k + 1, v5) (by show k + 1 ≤ m; omega) (by show m - (k + 1) < m - k; omega) ?_ (fun _ s => ?_)
    · show Ck.Sub [(1, v32 (n + BitVec.ofNat 32 (k + 1))), _, _, _, _, _] _
      rw [← hn1]
      exact ts_
    · dsimp only
      rw [hnx]
      unfold rowB
      rw [List.length_append, bcs_app]
      exact St.baseL s.tl
  · have ek : k = m := by omega
    subst ek
    repeat' (first|refine zw3 ?_|(refine ta_ ?_;intro _)|(refine zk0 ?_ ?_<;>intro ht)|fail)
    refine nx_ret1 rfl (rv_tmp rfl) (fun w' s' => ⟨_, rfl, ?_, trivial⟩)
    exact s'.keep1
end Go.Proofs.YtgeepceieckooaaGreatDoor
end
