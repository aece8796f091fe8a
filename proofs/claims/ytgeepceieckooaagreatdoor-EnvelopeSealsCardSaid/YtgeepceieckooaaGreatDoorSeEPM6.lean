/-
  Part 6 of a proof: PoA PoB PoC PoD VaA VaB VaC CkMake CkCall CkMap VaD.
  Conditions: each theorem states its own.
-/
import Derived.Laws.MakeOwn
import Derived.Laws.StructEq
import Derived.MapKept
import Derived.Test.YtgeepceieckooaaGreatDoorSeEPM5
set_option maxRecDepth 100000
set_option linter.unusedVariables false
set_option linter.unusedSimpArgs false
section
namespace Go.Proofs.YtgeepceieckooaaGreatDoor
open Go Go.Ck
set_option maxHeartbeats 4000000
abbrev W64 := BitVec 64
abbrev v64 (a : W64) : Value := .int .u64 (a.toNat : Int)
def up64 (l : List W64) : List Value := l.map v64
theorem up64_len (l : List W64) : (up64 l).length = l.length := by simp [up64]
theorem up64_at {l : List W64} {k : Nat} {x : W64} (h : l[k]? = some x) : (up64 l)[k]? = some (v64 x) := by
  unfold up64
  rw [List.getElem?_map, h]
  rfl
theorem cell_w8 {h : View} {L : List Res} {b k : Nat} {l : List W64} {x : W64} {i : Nat} (c : Cells h L ⟨b, 0, none⟩ (up64 l)) (hk : l[k]? = some x) (hi : i = k) : CellAt h L b i (v64 x) := by
  subst hi
  have := c.cell (up64_at hk)
  rwa [Nat.zero_add] at this
theorem spl_w8 {l : List W64} {x : W64} {i o : Nat} (ho : o = i) (hi : i < l.length) : spl (up64 l).toArray.toList o (v64 x).cells.toList = up64 (l.set i x) := by
  subst ho
  show spl (up64 l) o [v64 x] = _
  unfold spl up64
  rw [List.map_set, List.set_eq_take_append_cons_drop]
  simp [hi]
theorem fit_w8 {l : List W64} {x : W64} {n i o : Nat} (hu : l.length = n) (ho : o = i) (hi : i < n) : o + (v64 x).cells.size ≤ (up64 l).toArray.size := by
  subst ho
  show o + 1 ≤ (up64 l).toArray.size
  simp [up64_len, hu]
  omega
theorem w_sz8 {l : List W64} {n : Nat} (h : l.length = n) : (Value.agg (up64 l).toArray).cells.size = n := by
  show (up64 l).toArray.size = n
  simp [up64_len, h]
theorem w_fit8 {l : List W64} {cs : Array Value} {n : Nat} (h : l.length = n) (hc : cs.size = n) : 0 + (Value.agg (up64 l).toArray).cells.size ≤ cs.size := by rw [w_sz8 h, hc]; omega
theorem w_all8 {l : List W64} {cs : List Value} {n : Nat} (h : l.length = n) (hc : cs.length = n) : (Value.agg (up64 l).toArray).cells.toList.length = cs.length := by
  rw [hc]
  show (up64 l).length = n
  rw [up64_len, h]
theorem w_one8 (l : List W64) : (Value.agg (up64 l).toArray).cells.toList.all Value.oneCell' = true := by
  show (up64 l).all Value.oneCell' = true
  refine List.all_eq_true.2 fun x hx => ?_
  obtain ⟨a, _, rfl⟩ := List.mem_map.1 hx
  rfl
theorem getD_at8 {l : List W64} {i : Nat} (h : i < l.length) : l[i]? = some (l.getD i 0) := by
  rw [List.getD_eq_getElem?_getD, List.getElem?_eq_getElem h]; rfl
def m26 : W64 := 67108863#64
def loadF (low high above : W64) : List W64 := [low &&& m26, (low >>> 26) &&& m26, ((low >>> 52) ||| (high <<< 12)) &&& m26, (high >>> 14) &&& m26, (high >>> 40) ||| (above <<< 24)]
theorem load_sp (a b c : W64) (h : View) (w : World) (s : St ⟨w, h, []⟩ h [] w) :
    Calls Tryz.prog 120 [v64 a, v64 b, v64 c].toArray w fun e w' => e = .returned (.agg (up64 (loadF a b c)).toArray) ∧ St ⟨w, h, []⟩ h [] w' := by
  refine calls_enter Tryz.func120 rfl Tryz.ntmps120 rfl s ?_
  repeat' (first|refine zw76 ?_|(refine ta_ ?_;intro _)|(refine zk0 ?_ ?_<;>intro ht)|fail)
  exact nx_ret1 rfl (rv_cells rfl (yaz 0 rfl) rfl) (fun w' s' => ⟨rfl, s'.nil⟩)
def plusK (a b : List W64) : Nat → List W64
  | 0 => a
  | k + 1 => (plusK a b k).set k ((plusK a b k).getD k 0 + b.getD k 0)
theorem plusK_len (a b : List W64) : ∀ k, (plusK a b k).length = a.length
  | 0 => rfl
  | k + 1 => by rw [plusK, List.length_set, plusK_len a b k]
def plusF (a b : List W64) : List W64 := plusK a b 5
theorem plus_sp (a b : List W64) (ha : a.length = 5) (hb : b.length = 5) (h : View) (w : World) (s : St ⟨w, h, []⟩ h [] w) :
    Calls Tryz.prog 121 [.agg (up64 a).toArray, .agg (up64 b).toArray].toArray w fun e w' => e = .returned (.agg (up64 (plusF a b)).toArray) ∧ St ⟨w, h, []⟩ h [] w' := by
  refine calls_enter Tryz.func121 rfl Tryz.ntmps121 rfl s ?_
  repeat' (first|refine zw77 ?_|(refine ta_ ?_;intro _)|(refine zk0 ?_ ?_<;>intro ht)|fail)
  rename_i bx by' br
  refine cx_loop (X := Nat) (fun k => [(2, .pointer (some ⟨bx, 0, none⟩)), (3, .pointer (some ⟨by', 0, none⟩)), (4, .pointer (some ⟨br, 0, none⟩)), (6, .int .i64 (k : Nat))]) (fun _ => h)
    (fun k => [Res.blk br (.cells (up64 [0, 0, 0, 0, 0]).toArray 172 (0, 0)), Res.blk by' (.cells (up64 b).toArray 172 (0, 0)), Res.blk bx (.cells (up64 (plusK a b k)).toArray 172 (0, 0))]) (fun k => k ≤ 5) (fun k => 5 - k) 0 (Nat.zero_le _) ts_ (fun _ s => s) ?_
  intro k hk
  have hpl := plusK_len a b k
  by_cases hk5 : k < 5
  · have e1 : plusK a b (k + 1) = (plusK a b k).set k ((plusK a b k).getD k 0 + b.getD k 0) := rfl
    generalize plusK a b k = p at hpl e1 ⊢
    have cp := getD_at8 (l := p) (i := k) (by omega)
    have cb := getD_at8 (l := b) (i := k) (by omega)
    repeat' (first|refine zw78 ?_|(refine ta_ ?_;intro _)|(refine zk0 ?_ ?_<;>intro ht)|fail)
    refine cx_region_draw' rfl (by kernel_rfl) ?_
    repeat' (first|refine zw79 ?_|(refine ycf ?_;(first|(refine zg0 ?_ ?_<;>intro ht)|(refine tb_ ?_ ?_ ?_;(·(exact to_));(·intro _;(exact to_));intro _)))|fail)
    repeat' (first|refine zw3 ?_|(refine ta_ ?_;intro _)|(refine zk0 ?_ ?_<;>intro ht)|fail)
    refine nx_round (k + 1) (by show k + 1 ≤ 5; omega) (by show 5 - (k + 1) < 5 - k; omega) ts_ (fun _ s => ?_)
    rw [e1]
    exact s
  · have ek : k = 5 := by omega
    subst ek
    show CX _ _ _ _ _ _ [_, _, Res.blk bx (.cells (up64 (plusF a b)).toArray _ _)] _
    have hl5 : (plusF a b).length = 5 := by rw [← ha]; exact hpl
    generalize plusF a b = p at hl5 ⊢
    repeat' (first|refine zw80 ?_|(refine ta_ ?_;intro _)|(refine zk0 ?_ ?_<;>intro ht)|fail)
    exact nx_ret1 rfl (rv_cells rfl (yaz 0 rfl) (by rw [← hl5]; exact up64_len p)) (fun w' s' => ⟨rfl, s'.nil⟩)
end Go.Proofs.YtgeepceieckooaaGreatDoor
end

section
namespace Go.Proofs.YtgeepceieckooaaGreatDoor
open Go Go.Ck
set_option maxHeartbeats 4000000
def cstep (s : List W64 × W64) (i : Nat) : List W64 × W64 :=
  let s1 := s.1.set i (s.1.getD i 0 + s.2)
  (s1.set i (s1.getD i 0 &&& m26), s1.getD i 0 >>> 26)
def cpass (s : List W64 × W64) : Nat → List W64 × W64
  | 0 => s
  | k + 1 => cstep (cpass s k) k
def cout (x : List W64) : Nat → List W64 × W64
  | 0 => (x, 0)
  | j + 1 => ((cpass (cout x j) 5).1, (cpass (cout x j) 5).2 * 5)
def carryF (x : List W64) : List W64 := (cout x 2).1.set 0 ((cout x 2).1.getD 0 0 + (cout x 2).2)
theorem cpass_len (s : List W64 × W64) : ∀ k, (cpass s k).1.length = s.1.length
  | 0 => rfl
  | k + 1 => by simp [cpass, cstep, cpass_len s k]
theorem cout_len (x : List W64) : ∀ j, (cout x j).1.length = x.length
  | 0 => rfl
  | j + 1 => by
    show (cpass (cout x j) 5).1.length = _
    rw [cpass_len, cout_len x j]
theorem carryF_len (x : List W64) : (carryF x).length = x.length := by
  rw [carryF, List.length_set, cout_len]
theorem carry_sp (x : List W64) (hx : x.length = 5) (h : View) (w : World) (s : St ⟨w, h, []⟩ h [] w) :
    Calls Tryz.prog 139 [.agg (up64 x).toArray].toArray w fun e w' => e = .returned (.agg (up64 (carryF x)).toArray) ∧ St ⟨w, h, []⟩ h [] w' := by
  refine calls_enter Tryz.func139 rfl Tryz.ntmps139 rfl s ?_
  repeat' (first|refine zw81 ?_|(refine ta_ ?_;intro _)|(refine zk0 ?_ ?_<;>intro ht)|fail)
  rename_i bx br
  refine cx_loop (X := Nat) (fun j => [(1, .pointer (some ⟨bx, 0, none⟩)), (2, .pointer (some ⟨br, 0, none⟩)), (3, v64 (cout x j).2), (5, .int .i64 (j : Nat))]) (fun _ => h)
    (fun j => [Res.blk br (.cells (up64 [0, 0, 0, 0, 0]).toArray 172 (0, 0)), Res.blk bx (.cells (up64 (cout x j).1).toArray 172 (0, 0))]) (fun j => j ≤ 2) (fun j => 2 - j) 0 (Nat.zero_le _) ts_ (fun _ s => s) ?_
  intro j hj
  have hjl := cout_len x j
  by_cases hj2 : j < 2
  · have ej : cout x (j + 1) = ((cpass (cout x j) 5).1, (cpass (cout x j) 5).2 * 5) := rfl
    generalize cout x j = S at hjl ej ⊢
    have hjl : S.1.length = 5 := by omega
    repeat' (first|refine zw3 ?_|(refine ta_ ?_;intro _)|(refine zk0 ?_ ?_<;>intro ht)|fail)
    refine cx_loop (X := Nat) (fun k => [(1, .pointer (some ⟨bx, 0, none⟩)), (2, .pointer (some ⟨br, 0, none⟩)), (3, v64 (cpass S k).2), (5, .int .i64 (j : Nat)), (7, .int .i64 (k : Nat))]) (fun _ => h)
      (fun k => [Res.blk br (.cells (up64 [0, 0, 0, 0, 0]).toArray 172 (0, 0)), Res.blk bx (.cells (up64 (cpass S k).1).toArray 172 (0, 0))]) (fun k => k ≤ 5) (fun k => 5 - k) 0 (Nat.zero_le _) ts_ (fun _ s => s) ?_
    intro k hk
    have hkl := cpass_len S k
    by_cases hk5 : k < 5
    · have ek : cpass S (k + 1) = cstep (cpass S k) k := rfl
      generalize cpass S k = R at hkl ek ⊢
      have hkl : R.1.length = 5 := by omega
      have c0 := getD_at8 (l := R.1) (i := k) (by omega)
      obtain ⟨s1, e1⟩ : ∃ s1, s1 = R.1.set k (R.1.getD k 0 + R.2) := ⟨_, rfl⟩
      have l1 : s1.length = 5 := by rw [e1, List.length_set, hkl]
      have c1 := getD_at8 (l := s1) (i := k) (by omega)
      have ek : cpass S (k + 1) = (s1.set k (s1.getD k 0 &&& m26), s1.getD k 0 >>> 26) := by rw [ek, e1]; rfl
      repeat' (first|refine zw82 ?_|(refine ta_ ?_;intro _)|(refine zk0 ?_ ?_<;>intro ht)|fail)
      repeat' (first|refine zw83 ?_|(refine ta_ ?_;intro _)|(refine zk0 ?_ ?_<;>intro ht)|fail)
      repeat' (first|refine zw3 ?_|(refine ta_ ?_;intro _)|(refine zk0 ?_ ?_<;>intro ht)|fail)
      refine nx_round (k + 1) (by show k + 1 ≤ 5; omega) (by show 5 - (k + 1) < 5 - k; omega) ?_ (fun _ s => ?_)
      · rw [ek]; exact ts_
      · rw [ek]; exact s
    · have ek5 : k = 5 := by omega
      subst ek5
      repeat' (first|refine zw84 ?_|(refine ta_ ?_;intro _)|(refine zk0 ?_ ?_<;>intro ht)|fail)
      refine nx_round (j + 1) (by show j + 1 ≤ 2; omega) (by show 2 - (j + 1) < 2 - j; omega) ?_ (fun _ s => ?_)
      · rw [ej]; exact ts_
      · rw [ej]; exact s
  · have ej2 : j = 2 := by omega
    subst ej2
    have hcl := carryF_len x
    unfold carryF at hcl ⊢
    generalize cout x 2 = S at hjl hcl ⊢
    have hjl : S.1.length = 5 := by omega
    have c0 := getD_at8 (l := S.1) (i := 0) (by omega)
    repeat' (first|refine zw85 ?_|(refine ta_ ?_;intro _)|(refine zk0 ?_ ?_<;>intro ht)|fail)
    generalize S.1.set 0 (S.1.getD 0 0 + S.2) = p at hcl ⊢
    have hl5 : p.length = 5 := by omega
    repeat' (first|refine zw86 ?_|(refine ta_ ?_;intro _)|(refine zk0 ?_ ?_<;>intro ht)|fail)
    exact nx_ret1 rfl (rv_cells rfl (yaz 0 rfl) (by rw [← hl5]; exact up64_len p)) (fun w' s' => ⟨rfl, s'.nil⟩)
end Go.Proofs.YtgeepceieckooaaGreatDoor
end

section
namespace Go.Proofs.YtgeepceieckooaaGreatDoor
open Go Go.Ck
set_option maxHeartbeats 4000000
def mprod (x y : List W64) (i k : Nat) : W64 := if 5 ≤ i + k then x.getD i 0 * y.getD k 0 * 5 else x.getD i 0 * y.getD k 0
def mstep (x y o : List W64) (i k : Nat) : List W64 := o.set ((i + k) % 5) (o.getD ((i + k) % 5) 0 + mprod x y i k)
def mtin (x y : List W64) (i : Nat) (o : List W64) : Nat → List W64
  | 0 => o
  | k + 1 => mstep x y (mtin x y i o k) i k
def mtout (x y : List W64) : Nat → List W64
  | 0 => [0, 0, 0, 0, 0]
  | i + 1 => mtin x y i (mtout x y i) 5
theorem mtin_len (x y : List W64) (i : Nat) (o : List W64) : ∀ k, (mtin x y i o k).length = o.length
  | 0 => rfl
  | k + 1 => by rw [mtin, mstep, List.length_set, mtin_len x y i o k]
theorem mtout_len (x y : List W64) : ∀ i, (mtout x y i).length = 5
  | 0 => rfl
  | i + 1 => by rw [mtout, mtin_len, mtout_len x y i]
def timesF (x y : List W64) : List W64 := carryF (mtout x y 5)
theorem timesF_len (x y : List W64) : (timesF x y).length = 5 := by rw [timesF, carryF_len, mtout_len]
theorem times_sp (x y : List W64) (hx : x.length = 5) (hy : y.length = 5) (h : View) (w : World) (s : St ⟨w, h, []⟩ h [] w) :
    Calls Tryz.prog 123 [.agg (up64 x).toArray, .agg (up64 y).toArray].toArray w fun e w' => e = .returned (.agg (up64 (timesF x y)).toArray) ∧ St ⟨w, h, []⟩ h [] w' := by
  refine calls_enter Tryz.func123 rfl Tryz.ntmps123 rfl s ?_
  repeat' (first|refine zw87 ?_|(refine ta_ ?_;intro _)|(refine zk0 ?_ ?_<;>intro ht)|fail)
  rename_i bx by' br bo
  refine cx_loop (X := Nat) (fun i => [(2, .pointer (some ⟨bx, 0, none⟩)), (3, .pointer (some ⟨by', 0, none⟩)), (4, .pointer (some ⟨br, 0, none⟩)), (5, .pointer (some ⟨bo, 0, none⟩)), (9, .int .i64 (i : Nat))]) (fun _ => h)
    (fun i => [Res.blk bo (.cells (up64 (mtout x y i)).toArray 172 (0, 0)), Res.blk br (.cells (up64 [0, 0, 0, 0, 0]).toArray 172 (0, 0)), Res.blk by' (.cells (up64 y).toArray 172 (0, 0)), Res.blk bx (.cells (up64 x).toArray 172 (0, 0))]) (fun i => i ≤ 5) (fun i => 5 - i) 0 (Nat.zero_le _) ts_ (fun _ s => s) ?_
  intro i hi
  have hol := mtout_len x y i
  by_cases hi5 : i < 5
  · have eo : mtout x y (i + 1) = mtin x y i (mtout x y i) 5 := rfl
    generalize mtout x y i = O at hol eo ⊢
    have cx0 := getD_at8 (l := x) (i := i) (by omega)
    repeat' (first|refine zw3 ?_|(refine ta_ ?_;intro _)|(refine zk0 ?_ ?_<;>intro ht)|fail)
    refine cx_loop (X := Nat) (fun k => [(2, .pointer (some ⟨bx, 0, none⟩)), (3, .pointer (some ⟨by', 0, none⟩)), (4, .pointer (some ⟨br, 0, none⟩)), (5, .pointer (some ⟨bo, 0, none⟩)), (6, .int .i64 (i : Nat)), (9, .int .i64 (i : Nat)), (12, .int .i64 (k : Nat))]) (fun _ => h)
      (fun k => [Res.blk bo (.cells (up64 (mtin x y i O k)).toArray 172 (0, 0)), Res.blk br (.cells (up64 [0, 0, 0, 0, 0]).toArray 172 (0, 0)), Res.blk by' (.cells (up64 y).toArray 172 (0, 0)), Res.blk bx (.cells (up64 x).toArray 172 (0, 0))]) (fun k => k ≤ 5) (fun k => 5 - k) 0 (Nat.zero_le _) ts_ (fun _ s => s) ?_
    intro k hk
    have hil := mtin_len x y i O k
    by_cases hk5 : k < 5
    · have ek : mtin x y i O (k + 1) = mstep x y (mtin x y i O k) i k := rfl
      generalize mtin x y i O k = R at hil ek ⊢
      have hil : R.length = 5 := by omega
      have cy0 := getD_at8 (l := y) (i := k) (by omega)
      have hlt : (i + k) % 5 < 5 := Nat.mod_lt _ (by omega)
      have cr0 := getD_at8 (l := R) (i := (i + k) % 5) (by omega)
      have hrem : ((i : Int) + (k : Int)).tmod 5 = (((i + k) % 5 : Nat) : Int) := by rw [Int.tmod_eq_emod_of_nonneg (by omega)]; omega
      unfold mstep mprod at ek
      by_cases h5 : 5 ≤ i + k
      · rw [if_pos h5] at ek
        repeat' (first|refine zw88 ?_|(refine ta_ ?_;intro _)|(refine zk0 ?_ ?_<;>intro ht)|fail)
        refine cx_region_draw' rfl (by kernel_rfl) ?_
        repeat' (first|refine zw89 ?_|(refine ycf ?_;(first|(refine zg0 ?_ ?_<;>intro ht)|(refine tb_ ?_ ?_ ?_;(·(exact to_));(·intro _;(exact to_));intro _)))|fail)
        repeat' (first|refine zw88 ?_|(refine ta_ ?_;intro _)|(refine zk0 ?_ ?_<;>intro ht)|fail)
        refine nx_round (k + 1) (by show k + 1 ≤ 5; omega) (by show 5 - (k + 1) < 5 - k; omega) ts_ (fun _ s => ?_)
        rw [ek]
        exact s
      · rw [if_neg h5] at ek
        repeat' (first|refine zw90 ?_|(refine ta_ ?_;intro _)|(refine zk0 ?_ ?_<;>intro ht)|fail)
        refine cx_region_draw' rfl (by kernel_rfl) ?_
        repeat' (first|refine zw91 ?_|(refine ycf ?_;(first|(refine zg0 ?_ ?_<;>intro ht)|(refine tb_ ?_ ?_ ?_;(·(exact to_));(·intro _;(exact to_));intro _)))|fail)
        repeat' (first|refine zw90 ?_|(refine ta_ ?_;intro _)|(refine zk0 ?_ ?_<;>intro ht)|fail)
        refine nx_round (k + 1) (by show k + 1 ≤ 5; omega) (by show 5 - (k + 1) < 5 - k; omega) ts_ (fun _ s => ?_)
        rw [ek]
        exact s
    · have ek5 : k = 5 := by omega
      subst ek5
      repeat' (first|refine zw3 ?_|(refine ta_ ?_;intro _)|(refine zk0 ?_ ?_<;>intro ht)|fail)
      refine nx_round (i + 1) (by show i + 1 ≤ 5; omega) (by show 5 - (i + 1) < 5 - i; omega) ts_ (fun _ s => ?_)
      rw [eo]
      exact s
  · have ei : i = 5 := by omega
    subst ei
    have C1 := carry_sp (mtout x y 5) hol h
    have hcl := timesF_len x y
    unfold timesF at hcl ⊢
    generalize mtout x y 5 = O at hol C1 hcl ⊢
    generalize carryF O = p at C1 hcl ⊢
    repeat' (first|refine zw92 ?_|(refine ta_ ?_;intro _)|(refine zk0 ?_ ?_<;>intro ht)|fail)
    (refine ycn (ycp Tryz.func139 rfl (by kernel_rfl) rfl) (C1) rfl rfl rfl ?_ ?_; (· (exact to_)))
    repeat' (first|refine zw93 ?_|(refine ta_ ?_;intro _)|(refine zk0 ?_ ?_<;>intro ht)|fail)
    exact nx_ret1 rfl (rv_cells rfl (yaz 1 rfl) (by rw [← hcl]; exact up64_len p)) (fun w' s' => ⟨rfl, s'.nil⟩)
end Go.Proofs.YtgeepceieckooaaGreatDoor
end

section
namespace Go.Proofs.YtgeepceieckooaaGreatDoor
open Go Go.Ck
set_option maxHeartbeats 4000000
def lstep (y : List W64) (i : Nat) : List W64 :=
  let s1 := y.set (i + 1) (y.getD (i + 1) 0 + (y.getD i 0 >>> 26))
  s1.set i (s1.getD i 0 &&& m26)
def lpass (y : List W64) : Nat → List W64
  | 0 => y
  | k + 1 => lstep (lpass y k) k
theorem lpass_len (y : List W64) : ∀ k, (lpass y k).length = y.length
  | 0 => rfl
  | k + 1 => by rw [lpass, lstep]; simp [lpass_len y k]
def five : List W64 := [5, 0, 0, 0, 0]
def leastF (x : List W64) : List W64 :=
  let x2 := carryF (carryF x)
  let y := lpass (plusF x2 five) 4
  if y.getD 4 0 >>> 26 = 0#64 then x2 else y.set 4 (y.getD 4 0 &&& m26)
theorem plusF_len (a b : List W64) : (plusF a b).length = a.length := plusK_len a b 5
theorem leastF_len (x : List W64) : (leastF x).length = x.length := by
  unfold leastF
  dsimp only
  split
  · rw [carryF_len, carryF_len]
  · rw [List.length_set, lpass_len, plusF_len, carryF_len, carryF_len]
theorem least_sp (x : List W64) (hx : x.length = 5) (h : View) (w : World) (s : St ⟨w, h, []⟩ h [] w) :
    Calls Tryz.prog 124 [.agg (up64 x).toArray].toArray w fun e w' => e = .returned (.agg (up64 (leastF x)).toArray) ∧ St ⟨w, h, []⟩ h [] w' := by
  have C1 := carry_sp x hx h
  have C2 := carry_sp (carryF x) (by rw [carryF_len]; exact hx) h
  have l1 : (carryF x).length = 5 := by rw [carryF_len]; exact hx
  have l2 : (carryF (carryF x)).length = 5 := by rw [carryF_len]; exact l1
  have P1 := plus_sp (carryF (carryF x)) five l2 rfl h
  have ll := leastF_len x
  unfold leastF at ll ⊢
  dsimp only at ll ⊢
  generalize carryF (carryF x) = x2 at C2 l2 P1 ll ⊢
  generalize carryF x = x1 at C1 C2 l1
  have l3 : (plusF x2 five).length = 5 := by rw [plusF_len]; exact l2
  generalize plusF x2 five = y0 at P1 l3 ll ⊢
  refine calls_enter Tryz.func124 rfl Tryz.ntmps124 rfl s ?_
  repeat' (first|refine zw94 ?_|(refine ta_ ?_;intro _)|(refine zk0 ?_ ?_<;>intro ht)|fail)
  (refine ycn (ycp Tryz.func139 rfl (by kernel_rfl) rfl) (C1) rfl rfl rfl ?_ ?_; (· (exact to_)))
  repeat' (first|refine zw94 ?_|(refine ta_ ?_;intro _)|(refine zk0 ?_ ?_<;>intro ht)|fail)
  (refine ycn (ycp Tryz.func139 rfl (by kernel_rfl) rfl) (C2) rfl rfl rfl ?_ ?_; (· (exact to_)))
  repeat' (first|refine zw95 ?_|(refine ta_ ?_;intro _)|(refine zk0 ?_ ?_<;>intro ht)|fail)
  (refine ycn (ycp Tryz.func121 rfl (by kernel_rfl) rfl) (P1) rfl rfl rfl ?_ ?_; (· (exact to_)))
  repeat' (first|refine zw96 ?_|(refine ta_ ?_;intro _)|(refine zk0 ?_ ?_<;>intro ht)|fail)
  rename_i bx br by'
  refine cx_loop (X := Nat) (fun k => [(1, .pointer (some ⟨bx, 0, none⟩)), (2, .pointer (some ⟨br, 0, none⟩)), (3, .pointer (some ⟨by', 0, none⟩)), (11, .int .i64 (k : Nat))]) (fun _ => h)
    (fun k => [Res.blk by' (.cells (up64 (lpass y0 k)).toArray 172 (0, 0)), Res.blk br (.cells (up64 [0, 0, 0, 0, 0]).toArray 172 (0, 0)), Res.blk bx (.cells (up64 x2).toArray 172 (0, 0))]) (fun k => k ≤ 4) (fun k => 4 - k) 0 (Nat.zero_le _) ts_ (fun _ s => s) ?_
  intro k hk
  have hkl := lpass_len y0 k
  by_cases hk4 : k < 4
  · have ek : lpass y0 (k + 1) = lstep (lpass y0 k) k := rfl
    generalize lpass y0 k = R at hkl ek ⊢
    have hkl : R.length = 5 := by omega
    have c0 := getD_at8 (l := R) (i := k) (by omega)
    have c1 := getD_at8 (l := R) (i := k + 1) (by omega)
    obtain ⟨s1, e1⟩ : ∃ s1, s1 = R.set (k + 1) (R.getD (k + 1) 0 + (R.getD k 0 >>> 26)) := ⟨_, rfl⟩
    have l1 : s1.length = 5 := by rw [e1, List.length_set, hkl]
    have c2 := getD_at8 (l := s1) (i := k) (by omega)
    have ek : lpass y0 (k + 1) = s1.set k (s1.getD k 0 &&& m26) := by rw [ek, e1]; rfl
    repeat' (first|refine zw97 ?_|(refine ta_ ?_;intro _)|(refine zk0 ?_ ?_<;>intro ht)|fail)
    refine cx_region_draw' rfl (by kernel_rfl) ?_
    repeat' (first|refine zw98 ?_|(refine ycf ?_;(first|(refine zg0 ?_ ?_<;>intro ht)|(refine tb_ ?_ ?_ ?_;(·(exact to_));(·intro _;(exact to_));intro _)))|fail)
    repeat' (first|refine zw99 ?_|(refine ta_ ?_;intro _)|(refine zk0 ?_ ?_<;>intro ht)|fail)
    repeat' (first|refine zw3 ?_|(refine ta_ ?_;intro _)|(refine zk0 ?_ ?_<;>intro ht)|fail)
    refine nx_round (k + 1) (by show k + 1 ≤ 4; omega) (by show 4 - (k + 1) < 4 - k; omega) ts_ (fun _ s => ?_)
    rw [ek]
    exact s
  · have ek4 : k = 4 := by omega
    subst ek4
    generalize lpass y0 4 = y at hkl ll ⊢
    have hyl : y.length = 5 := by omega
    have c4 := getD_at8 (l := y) (i := 4) (by omega)
    by_cases hz : y.getD 4 0 >>> 26 = 0#64
    · have hzn : ((y.getD 4 0 >>> 26).toNat : Int) = 0 := by rw [hz]; rfl
      rw [if_pos hz]
      repeat' (first|refine zw100 ?_|(refine ta_ ?_;intro _)|(refine zk0 ?_ ?_<;>intro ht)|fail)
      exact nx_ret1 rfl (rv_cells rfl (yaz 1 rfl) (by rw [← l2]; exact up64_len x2)) (fun w' s' => ⟨rfl, s'.nil⟩)
    · have hzn : ¬ ((y.getD 4 0 >>> 26).toNat : Int) = 0 := fun e => hz (BitVec.eq_of_toNat_eq (by show (y.getD 4 0 >>> 26).toNat = 0; omega))
      rw [if_neg hz] at ll ⊢
      repeat' (first|refine zw101 ?_|(refine ta_ ?_;intro _)|(refine zk0 ?_ ?_<;>intro ht)|fail)
      generalize y.set 4 (y.getD 4 0 &&& m26) = p at ll ⊢
      have hl5 : p.length = 5 := by omega
      repeat' (first|refine zw102 ?_|(refine ta_ ?_;intro _)|(refine zk0 ?_ ?_<;>intro ht)|fail)
      exact nx_ret1 rfl (rv_cells rfl (yaz 1 rfl) (by rw [← hl5]; exact up64_len p)) (fun w' s' => ⟨rfl, s'.nil⟩)
def wlo (x : List W64) : W64 := (x.getD 0 0 ||| (x.getD 1 0 <<< 26)) ||| (x.getD 2 0 <<< 52)
def whi (x : List W64) : W64 := ((x.getD 2 0 >>> 12) ||| (x.getD 3 0 <<< 14)) ||| (x.getD 4 0 <<< 40)
theorem words_sp (x : List W64) (hx : x.length = 5) (h : View) (w : World) (s : St ⟨w, h, []⟩ h [] w) :
    Calls Tryz.prog 125 [.agg (up64 x).toArray].toArray w fun e w' => e = .returned (.tuple #[v64 (wlo x), v64 (whi x)]) ∧ St ⟨w, h, []⟩ h [] w' := by
  have c0 := getD_at8 (l := x) (i := 0) (by omega)
  have c1 := getD_at8 (l := x) (i := 1) (by omega)
  have c2 := getD_at8 (l := x) (i := 2) (by omega)
  have c3 := getD_at8 (l := x) (i := 3) (by omega)
  have c4 := getD_at8 (l := x) (i := 4) (by omega)
  unfold wlo whi
  refine calls_enter Tryz.func125 rfl Tryz.ntmps125 rfl s ?_
  repeat' (first|refine zw103 ?_|(refine ta_ ?_;intro _)|(refine zk0 ?_ ?_<;>intro ht)|fail)
  exact nx_ret2 rfl (rv_tmp rfl) (rv_tmp rfl) (fun w' s' => ⟨rfl, s'.nil⟩)
end Go.Proofs.YtgeepceieckooaaGreatDoor
end

section
namespace Go.Proofs.YtgeepceieckooaaGreatDoor
open Go Go.Ck
set_option maxHeartbeats 4000000
def nonceOk (client counter : Int) : Prop := 1 ≤ client ∧ client ≤ 16 ∧ 1 ≤ counter ∧ counter ≤ 4611686018427387904
instance (c n : Int) : Decidable (nonceOk c n) := by unfold nonceOk; exact inferInstance
def nonceF (client counter : Int) : List Int := if nonceOk client counter then (putLow 4 client).reverse ++ (putLow 8 counter).reverse else List.replicate 12 0
theorem nonceF_len (c n : Int) : (nonceF c n).length = 12 := by
  unfold nonceF
  split
  · simp [putLow_len]
  · simp
theorem Nonce_sp (c n : Int) (h : View) (w : World) (s : St ⟨w, h, []⟩ h [] w) :
    Calls Tryz.prog 90 [.int .i64 c, .int .i64 n].toArray w fun e w' => e = .returned (.tuple #[.agg (bcs (nonceF c n)).toArray, .int .i64 (if nonceOk c n then 0 else 1)]) ∧ St ⟨w, h, []⟩ h [] w' := by
  refine calls_enter Tryz.func90 rfl Tryz.ntmps90 rfl s ?_
  by_cases hok : nonceOk c n
  · have e1 : nonceF c n = (putLow 4 c).reverse ++ (putLow 8 n).reverse := if_pos hok
    rw [e1, if_pos hok]
    obtain ⟨h1, h2, h3, h4⟩ := hok
    have w1 : IntKind.u64.wrap c = c := wrap_u64 (by omega) (by omega)
    have w2 : IntKind.u64.wrap n = n := wrap_u64 (by omega) (by omega)
    repeat' (first|refine zw104 ?_|(refine ta_ ?_;intro _)|(refine zk0 ?_ ?_<;>intro ht)|fail)
    (refine yco (ycp Tryz.func88 rfl (by kernel_rfl) rfl) (PutHigh_sp c 4 ⟨by omega, by omega⟩ (by omega) (by omega) h) rfl rfl rfl ?_ ?_ ?_; (· (exact to_)); (·exact zc148); intro x px hle)
    have p4 := putLow_len 4 c
    have p8 := putLow_len 8 n
    repeat' (first|refine zw104 ?_|(refine ta_ ?_;intro _)|(refine zk0 ?_ ?_<;>intro ht)|fail)
    (refine yco (ycp Tryz.func88 rfl (by kernel_rfl) rfl) (PutHigh_sp n 8 ⟨by omega, by omega⟩ (by omega) (by omega) h) rfl rfl rfl ?_ ?_ ?_; (· (exact to_)); (·exact zc148); intro x px hle)
    refine rx_rowform 0 rfl (fun _ h1 _ => (by rw [List.length_reverse] at h1; omega)) ?_
    rintro g4 cap4 rfl
    refine rx_append (sz := 1) 1 rfl rfl rfl (row_cells 0 rfl) (by rw [bcs_len, Nat.mul_one]) (bcs_one _) rfl (by omega) (by unfold maxLen; rw [List.length_reverse, List.length_reverse]; omega) (by rw [List.length_reverse, List.length_reverse]; omega) rfl rfl rfl ybf (fun _ => ybf) ?_
    intro v5 _
    rw [← bcs_app]
    have hl12 : ((putLow 4 c).reverse ++ (putLow 8 n).reverse).length = 12 := by simp [p4, p8]
    have hrl : (putLow 4 c).reverse.length + (putLow 8 n).reverse.length = 12 := by simp [p4, p8]
    rw [hrl]
    generalize (putLow 4 c).reverse ++ (putLow 8 n).reverse = out at hl12 ⊢
    have hol : (bcs out).length = 12 := by rw [bcs_len]; omega
    refine rx_rowform 1 rfl (fun _ h1 _ => (by omega)) ?_
    rintro g6 cap6 rfl
    repeat' (first|refine zw105 ?_|(refine ta_ ?_;intro _)|(refine zk0 ?_ ?_<;>intro ht)|fail)
    exact nx_ret2 rfl (rv_cells rfl (yaz 2 rfl) (by show (bcs out).toArray.toList.length = 12; simpa using hol)) (rv_tmp rfl) (fun w' s' => ⟨rfl, s'.nil.base⟩)
  · have e1 : nonceF c n = List.replicate 12 0 := if_neg hok
    rw [e1, if_neg hok]
    unfold nonceOk at hok
    by_cases h1 : c < 1
    · repeat' (first|refine zw106 ?_|(refine ta_ ?_;intro _)|(refine zk0 ?_ ?_<;>intro ht)|fail)
      exact nx_ret2 rfl (rv_cells rfl (yaz 0 rfl) rfl) (rv_tmp rfl) (fun w' s' => ⟨rfl, s'.nil.base⟩)
    by_cases h2 : 16 < c
    · repeat' (first|refine zw106 ?_|(refine ta_ ?_;intro _)|(refine zk0 ?_ ?_<;>intro ht)|fail)
      exact nx_ret2 rfl (rv_cells rfl (yaz 0 rfl) rfl) (rv_tmp rfl) (fun w' s' => ⟨rfl, s'.nil.base⟩)
    by_cases h3 : n < 1
    · repeat' (first|refine zw106 ?_|(refine ta_ ?_;intro _)|(refine zk0 ?_ ?_<;>intro ht)|fail)
      exact nx_ret2 rfl (rv_cells rfl (yaz 0 rfl) rfl) (rv_tmp rfl) (fun w' s' => ⟨rfl, s'.nil.base⟩)
    have h4 : 4611686018427387904 < n := by omega
    repeat' (first|refine zw106 ?_|(refine ta_ ?_;intro _)|(refine zk0 ?_ ?_<;>intro ht)|fail)
    exact nx_ret2 rfl (rv_cells rfl (yaz 0 rfl) rfl) (rv_tmp rfl) (fun w' s' => ⟨rfl, s'.nil.base⟩)
end Go.Proofs.YtgeepceieckooaaGreatDoor
end

section
namespace Go.Proofs.YtgeepceieckooaaGreatDoor
open Go Go.Ck
set_option maxHeartbeats 4000000
def sealOk (e c n : Int) : Prop := nonceOk c n ∧ 1 ≤ e ∧ e ≤ 1048576
instance (e c n : Int) : Decidable (sealOk e c n) := by unfold sealOk; exact inferInstance
theorem vright_sp (e c n : Int) (h : View) (w : World) (s : St ⟨w, h, []⟩ h [] w) :
    Calls Tryz.prog 61 [.int .i64 e, .int .i64 c, .int .i64 n].toArray w fun r w' => r = .returned (.int .i64 (if sealOk e c n then 0 else 1)) ∧ St ⟨w, h, []⟩ h [] w' := by
  have H := Nonce_sp c n h
  have hol : (bcs (nonceF c n)).length = 12 := by rw [bcs_len, nonceF_len]
  generalize nonceF c n = nn at H hol
  refine calls_enter Tryz.func61 rfl Tryz.ntmps61 rfl s ?_
  repeat' (first|refine tw_ ?_|(refine ta_ ?_;intro _)|(refine zk0 ?_ ?_<;>intro ht)|fail)
  by_cases hok : nonceOk c n
  · rw [if_pos hok] at H
    (refine ycn (ycp Tryz.func90 rfl (by kernel_rfl) rfl) (H) rfl rfl rfl ?_ ?_; (· (exact to_)))
    by_cases h1 : e < 1
    · have e1 : ¬ sealOk e c n := fun q => by unfold sealOk at q; omega
      rw [if_neg e1]
      repeat' (first|refine zw107 ?_|(refine ta_ ?_;intro _)|(refine zk0 ?_ ?_<;>intro ht)|fail)
      exact nx_ret1 rfl (rv_tmp rfl) (fun w' s' => ⟨rfl, s'.nil.base⟩)
    by_cases h2 : 1048576 < e
    · have e1 : ¬ sealOk e c n := fun q => by unfold sealOk at q; omega
      rw [if_neg e1]
      repeat' (first|refine zw107 ?_|(refine ta_ ?_;intro _)|(refine zk0 ?_ ?_<;>intro ht)|fail)
      exact nx_ret1 rfl (rv_tmp rfl) (fun w' s' => ⟨rfl, s'.nil.base⟩)
    have e1 : sealOk e c n := ⟨hok, by omega, by omega⟩
    rw [if_pos e1]
    repeat' (first|refine zw107 ?_|(refine ta_ ?_;intro _)|(refine zk0 ?_ ?_<;>intro ht)|fail)
    exact nx_ret1 rfl (rv_tmp rfl) (fun w' s' => ⟨rfl, s'.nil.base⟩)
  · have e1 : ¬ sealOk e c n := fun q => hok q.1
    rw [if_neg hok] at H
    rw [if_neg e1]
    (refine ycn (ycp Tryz.func90 rfl (by kernel_rfl) rfl) (H) rfl rfl rfl ?_ ?_; (· (exact to_)))
    repeat' (first|refine zw107 ?_|(refine ta_ ?_;intro _)|(refine zk0 ?_ ?_<;>intro ht)|fail)
    exact nx_ret1 rfl (rv_tmp rfl) (fun w' s' => ⟨rfl, s'.nil.base⟩)
end Go.Proofs.YtgeepceieckooaaGreatDoor
end

section
namespace Go.Proofs.YtgeepceieckooaaGreatDoor
open Go Go.Ck
set_option maxHeartbeats 4000000
def classK (n : Int) : Nat := if n + 4 ≤ 64 then 0 else if n + 4 ≤ 256 then 1 else if n + 4 ≤ 1024 then 2 else 3
def sizeF (n : Int) : Int := 64 * 4 ^ classK n
theorem Class_sp (n : Int) (h0 : 0 ≤ n) (h1 : n ≤ 4000) (h : View) (w : World) (s : St ⟨w, h, []⟩ h [] w) :
    Calls Tryz.prog 55 [.int .i64 n].toArray w fun r w' => r = .returned (.tuple #[.int .i64 (sizeF n), .int .i64 (classK n : Nat), .int .i64 0]) ∧ St ⟨w, h, []⟩ h [] w' := by
  refine calls_enter Tryz.func55 rfl Tryz.ntmps55 rfl s ?_
  repeat' (first|refine zw3 ?_|(refine ta_ ?_;intro _)|(refine zk0 ?_ ?_<;>intro ht)|fail)
  refine cx_loop (X := Nat) (fun k => [(0, .int .i64 n), (5, .int .i64 (k : Nat))]) (fun _ => h) (fun _ => []) (fun k => k ≤ classK n) (fun k => classK n - k) 0 (Nat.zero_le _) ts_ (fun _ s => s) ?_
  intro k hk
  have hc3 : classK n ≤ 3 := by unfold classK;split<;>(try split)<;>(try split)<;>omega
  have hm : IntKind.i64.wrap (2 * (k : Int)) = ((2 * k : Nat) : Int) := by rw [IntKind.wrap_i64]<;>omega
  have hsz : 2 * k < IntKind.i64.bits := by show 2 * k < 64; omega
  have hsh : IntKind.i64.wrap (64 * 2 ^ (2 * k)) = 64 * 4 ^ k := by
    rcases (by omega : k = 0 ∨ k = 1 ∨ k = 2 ∨ k = 3) with rfl | rfl | rfl | rfl<;>rfl
  have hcmp : k < classK n ↔ 64 * 4 ^ k < n + 4 := by
    unfold classK
    rcases (by omega : k = 0 ∨ k = 1 ∨ k = 2 ∨ k = 3) with rfl | rfl | rfl | rfl<;>(try simp only [Int.pow_zero])<;>split<;>(try split)<;>(try split)<;>omega
  generalize hp : (64 * 4 ^ k : Int) = p at hsh hcmp
  by_cases hkl : k < classK n
  · have hg := hcmp.1 hkl
    repeat' (first|refine zw108 ?_|(refine ta_ ?_;intro _)|(refine zk0 ?_ ?_<;>intro ht)|fail)
    exact nx_round (k + 1) (by show k + 1 ≤ classK n; omega) (by show classK n - (k + 1) < classK n - k; omega) ts_ (fun _ s => s)
  · have hg : ¬ p < n + 4 := fun q => hkl (hcmp.2 q)
    have ek : k = classK n := by omega
    have e : sizeF n = p := by unfold sizeF; rw [← ek]; exact hp
    rw [e, ← ek]
    repeat' (first|refine zw108 ?_|(refine ta_ ?_;intro _)|(refine zk0 ?_ ?_<;>intro ht)|fail)
    exact nx_ret3 rfl (rv_tmp rfl) (rv_tmp rfl) (rv_tmp rfl) (fun w' s' => ⟨rfl, s'⟩)
end Go.Proofs.YtgeepceieckooaaGreatDoor
end

section
namespace Go.Ck
open Go
section
variable {P : Program} {n : Nat} {F : List (Nat × Value)} {h : View} {L : List Res} {dst : Option Nat} {ty : Nat} {pos : String} {af : Array Edge} {gd : Option (Nat × Bool)}
theorem ma_makeBytes {T e m : Nat} {x y : Operand} {kx ky : IntKind} {i : Int} [tu : TyU P T (.slice e)] [tb : TyB P e (.int .u8 0) 1 1] (hx : ev F x = some (.int kx i)) (hy : ev F y = some (.int ky i)) (hi : i = (m : Nat)) (hm : m ≤ 1000000) :
    MA P n F h L ⟨dst, .makeSlice T x y, ty, pos, af, gd⟩ (fun b => .slice (some ⟨b, 0, none⟩) m m) (.cells (List.replicate m (Value.int .u8 0)).toArray e) := .mk fun a w f s => by
  subst hi
  obtain ⟨inf, h1, h2, h3, h4⟩ := tb.ex
  have hr := run_make (P := P) w T e inf (.int .u8 0) tu.u h1 h2 kx ky m m (by omega) (Int.le_refl _) (by rw [h4]; omega) (by omega)
  have hc : madeCells (Value.int .u8 0).cells ((m : Int).toNat * inf.size) = (List.replicate m (Value.int .u8 0)).toArray := by
    rw [h3, Nat.mul_one, Int.toNat_natCast]
    apply Array.ext
    · simp [madeCells]
    · intro k hk1 hk2
      simp [madeCells, Value.cells, Nat.mod_one]
  rw [hc] at hr
  simp [execOp, f.ev hx, f.ev hy, hr]
end
end Go.Ck
end

section
namespace Go.Ck
open Go
theorem pick2 {L : List Res} {A B : Res} (i j : Nat) (h1 : L[i]? = some A) (h2 : (L.eraseIdx i)[j]? = some B) : L.Perm ([A, B] ++ (L.eraseIdx i).eraseIdx j) :=
  (perm_at h1).trans (.cons _ (perm_at h2))
theorem pick3 {L : List Res} {A B C : Res} (i j k : Nat) (h1 : L[i]? = some A) (h2 : (L.eraseIdx i)[j]? = some B) (h3 : ((L.eraseIdx i).eraseIdx j)[k]? = some C) : L.Perm ([A, B, C] ++ ((L.eraseIdx i).eraseIdx j).eraseIdx k) :=
  (perm_at h1).trans (.cons _ ((perm_at h2).trans (.cons _ (perm_at h3))))
def picks : List Nat → List Res → List Res
  | [], _ => []
  | i :: is, L => match L[i]? with
    | some r => r :: picks is (L.eraseIdx i)
    | none => []
theorem picks_perm : ∀ (is : List Nat) (L : List Res), ∃ Lr, L.Perm (picks is L ++ Lr)
  | [], L => ⟨L, .refl _⟩
  | i :: is, L => by
    cases h : L[i]? with
    | none => exact ⟨L, by simp [picks, h]⟩
    | some r =>
      obtain ⟨Lr, hp⟩ := picks_perm is (L.eraseIdx i)
      refine ⟨Lr, ?_⟩
      have e : picks (i :: is) L = r :: picks is (L.eraseIdx i) := by simp [picks, h]
      rw [e]
      exact (perm_at h).trans (.cons _ hp)
theorem St.picks {K : Bs} {h : View} {L : List Res} {w : World} (is : List Nat) (s : St K h L w) : St K h (Ck.picks is L) w := by
  obtain ⟨Lr, hp⟩ := picks_perm is L
  exact St.drop (L := Lr) (s.perm (hp.trans List.perm_append_comm))
section
variable {P : Program} {n : Nat} {K : Bs} {F : List (Nat × Value)} {h : View} {L : List Res} {Q : Exit → Act → World → Prop}
theorem rx_call_l {g : Rg} {i : Nat} {dst : Option Nat} {op : Op} {ty : Nat} {pos : String} {af : Array Edge} {gd : Option (Nat × Bool)} {r : List (Nat × Oper)} {fn : FuncId} {args : Array Value} {X : Type} {v : X → Value} {hh : X → View} {LL : X → List Res} {p : X → Prop} {Li Lr : List Res} (hc : CallOf P n F ⟨dst, op, ty, pos, af, gd⟩ fn args)
    (hp : L.Perm (Li ++ Lr))
    (hsp : ∀ w, St ⟨w, h, doms Li⟩ h Li w → Calls P fn args w fun e w' => ∃ x, e = .returned (v x) ∧ St ⟨w, h, doms Li⟩ (hh x) (LL x) w' ∧ p x)
    (hw : wantedF g.ops F ⟨dst, op, ty, pos, af, gd⟩ = some true) (hd : okd n dst = true) (hl : g.lo i = true) (h1 : Owe g i h L) (h2 : ∀ x, p x → Le h (hh x) → Owe g i (hh x) (LL x ++ Lr))
    (hx : ∀ x, p x → Le h (hh x) → RX P n K g r (putF dst (v x) F) (hh x) (LL x ++ Lr) Q) : RX P n K g ((i, ⟨dst, op, ty, pos, af, gd⟩) :: r) F h L Q := by
  unfold RX at *
  unfold CallOf at hc
  exact fun a w f s => .inr (.inr ⟨wantedF_ok f hw, hl, h1.imp (fun k => k w s.hd) id, by
    unfold Oper.wp
    rw [hc a w f]
    have s1 : St K h (Li ++ Lr) w := s.perm hp
    refine (hsp w (St.enter (Li := Li) (Lr := Lr) s1)).mono fun e w' he => ?_
    obtain ⟨x, rfl, st, px⟩ := he
    have s' := St.leave (Li := Li) (Lr := Lr) s1 st
    have hle : Le h (hh x) := st.grow
    exact ⟨(h2 x px hle).imp (fun k => k _ s'.hd) id, hx x px hle _ _ (f.put hd _) s'⟩⟩)
theorem rx_picks {g : Rg} {prs : List (Nat × Oper)} (is : List Nat) (hx : RX P n K g prs F h (picks is L) Q) : RX P n K g prs F h L Q := by
  unfold RX at *
  exact fun a w f s => hx a w f (s.picks is)
theorem cx_region_drawY {id : Nat} {ops : Array Oper} (lou : List Nat) (hm : P.follows .mixedOrders = true) (hB : lexOkAt ops (masks ops) (fun i => lou.contains i) (barOf ops) = true)
    (hx : RX P n K ⟨ops, Hd h L, fun i => lou.contains i, barOf ops⟩ (enumFrom 0 ops.toList) F h L Q) : CX P n K (.region id ops true) F h L Q := by
  unfold CX
  unfold RX at hx
  exact fun a w f s => wp_region_lexL hm hB (hx a w.drew ⟨f.size, f.dfs, f.get⟩ s.drew)
end
end Go.Ck
end

section
namespace Go.Ck
open Go
section
variable {κ : Type} [DecidableEq κ]
def mget {ν : Type} : List (κ × ν) → κ → Option ν
  | [], _ => none
  | x :: r, a => if a = x.1 then some x.2 else mget r a
def mput {ν : Type} : List (κ × ν) → κ → ν → List (κ × ν)
  | [], a, v => [(a, v)]
  | x :: r, a, v => if a = x.1 then (x.1, v) :: r else x :: mput r a v
theorem mput_new {ν : Type} {l : List (κ × ν)} {a : κ} {v : ν} (h : mget l a = none) : mput l a v = l ++ [(a, v)] := by
  induction l with
  | nil => rfl
  | cons x l ih =>
    simp only [mget] at h
    split at h
    · cases h
    · rename_i hn
      simp only [mput, if_neg hn, ih h, List.cons_append]
theorem mget_none {ν : Type} {l : List (κ × ν)} {a : κ} : mget l a = none ↔ ∀ x ∈ l, x.1 ≠ a := by
  induction l with
  | nil => simp [mget]
  | cons x l ih =>
    simp only [mget]
    split
    · rename_i h; simp [h]
    · rename_i h; simp [ih, Ne.symm h, fun e => h (Eq.symm e)]
theorem mget_mem {ν : Type} {l : List (κ × ν)} {a : κ} {v : ν} (h : mget l a = some v) : (a, v) ∈ l := by
  induction l with
  | nil => cases h
  | cons x l ih =>
    simp only [mget] at h
    split at h
    · rename_i e; cases h; subst e; exact List.mem_cons_self ..
    · exact List.mem_cons_of_mem _ (ih h)
def fnd (a : κ) : List κ → List MapEntry → Nat → Option (Nat × Value)
  | k :: ks, e :: es, i => if a = k then some (i, e.val) else fnd a ks es (i + 1)
  | _, _, _ => none
theorem fnd_get (a : κ) : ∀ (l : List (κ × Value)) (es : List MapEntry) (i : Nat), es.map (·.val) = l.map (·.2) → (fnd a (l.map (·.1)) es i).map (·.2) = mget l a
  | [], [], _, _ => rfl
  | [], e :: es, _, h => by simp at h
  | x :: l, [], _, h => by simp at h
  | x :: l, e :: es, i, h => by
    simp only [List.map_cons, List.cons.injEq] at h
    simp only [List.map_cons, fnd, mget]
    split
    · simp [h.1]
    · exact fnd_get a l es (i + 1) h.2
theorem fnd_at (a : κ) : ∀ (ks : List κ) (es : List MapEntry) (i : Nat) {j : Nat} {v : Value}, fnd a ks es i = some (j, v) → i ≤ j ∧ ks[j - i]? = some a ∧ (∃ e, es[j - i]? = some e ∧ e.val = v)
  | [], _, _, _, _, h => by simp [fnd] at h
  | k :: ks, [], _, _, _, h => by simp [fnd] at h
  | k :: ks, e :: es, i, j, v, h => by
    simp only [fnd] at h
    split at h
    · rename_i hk; cases h; simp [hk]
    · obtain ⟨h1, h2, h3⟩ := fnd_at a ks es (i + 1) h
      have e1 : j - i = (j - (i + 1)) + 1 := by omega
      refine ⟨by omega, ?_, ?_⟩
      · rw [e1, List.getElem?_cons_succ]; exact h2
      · rw [e1, List.getElem?_cons_succ]; exact h3
end
structure KeyLw (P : Program) (T : TypeId) {κ : Type} [DecidableEq κ] (enc : κ → Value) : Prop where
  chk : ∀ b a w, (Instr.checkKey b 10000 T (enc a)).run P w = .ok () w
  find : ∀ a (es : List MapEntry) (ks : List κ) w, es.map (·.key) = ks.map enc → (Instr.findKey T (enc a) es).run P w = .ok (fnd a ks es 0) w
  bits : ∀ a, Instr.sameBits 10000 (enc a) (enc a) = true
theorem now_str {κ : Type} [DecidableEq κ] {d : TypeDesc} {enc : κ → Value} (hs : ∀ a b, Instr.sameNow d (enc a) (enc b) = some (decide (a = b))) (a : κ) : ∀ (ks : List κ) (es : List MapEntry) (i : Nat), es.map (·.key) = ks.map enc →
    Instr.findNow d (enc a) es i = some (fnd a ks es i)
  | [], [], _, _ => rfl
  | [], e :: es, _, h => by simp at h
  | k :: ks, [], _, h => by simp at h
  | k :: ks, e :: es, i, h => by
    simp only [List.map_cons, List.cons.injEq] at h
    simp only [Instr.findNow, fnd, h.1, hs]
    by_cases hk : a = k
    · simp [hk]
    · simp only [hk, decide_false, if_false]
      exact now_str hs a ks es (i + 1) h.2
theorem ba_beq (a b : ByteArray) : (a == b) = decide (a = b) := by
  rw [beq_toListBytes, Bool.eq_iff_iff]
  simp only [beq_iff_eq, decide_eq_true_eq]
  constructor
  · intro h
    rw [ByteArray.toList_eq, ByteArray.toList_eq] at h
    obtain ⟨⟨x⟩⟩ := a
    obtain ⟨⟨y⟩⟩ := b
    simp only [ByteArray.mk.injEq, Array.mk.injEq]
    exact h
  · intro h; rw [h]
theorem string_kl {P : Program} {T : TypeId} [tu : TyU P T .string] : KeyLw P T Value.string where
  chk := fun b a w => MapKept.run_checkKey (k := .string a) tu.u trivial b 9999
  find := fun a es ks w h => by
    have hs : ∀ a b : ByteArray, Instr.sameNow .string (.string a) (.string b) = some (decide (a = b)) := fun a b => by
      simp only [Instr.sameNow, ba_beq]
    simp [Instr.findKey, run_underlying tu.u, now_str hs a ks es 0 h]
  bits := fun a => by simp [Instr.sameBits, ba_beq]
theorem ask_run {P : Program} {T : TypeId} {κ : Type} [DecidableEq κ] {enc : κ → Value} (he : ∀ a b w, (Op.equal T (enc a) (enc b)).run P w = .ok (decide (a = b)) w) (a : κ) (w : World) : ∀ (ks : List κ) (es : List MapEntry) (i : Nat), es.map (·.key) = ks.map enc →
    (Instr.findAsking T (enc a) es i).run P w = .ok (fnd a ks es i) w
  | [], [], _, _ => by simp [Instr.findAsking, fnd]
  | [], e :: es, _, h => by simp at h
  | k :: ks, [], _, h => by simp at h
  | k :: ks, e :: es, i, h => by
    simp only [List.map_cons, List.cons.injEq] at h
    simp only [Instr.findAsking, fnd, Sem.run_bind, h.1, he, Result.andThen_ok]
    by_cases hk : a = k
    · simp [hk]
    · simp only [hk, decide_false, Bool.false_eq_true, if_false]
      exact ask_run he a w ks es (i + 1) h.2
class TyK (P : Program) (T : Nat) (fs : outParam (List (Nat × Nat))) : Prop where
  g : P.underlying T = some (.struct (P.fieldsOf T)) ∧ P.stoodInHeld T = false ∧ (P.fieldsOf T).toList.map (fun f => (f.type, f.offset)) = fs ∧ ((P.fieldsOf T).toList.all fun f => f.name != "_") = true
inductive Parts (P : Program) (cs : Array Value) : List (Nat × Nat) → List Value → Prop
  | nil : Parts P cs [] []
  | cons {f : Nat × Nat} {v : Value} {fs : List (Nat × Nat)} {vs : List Value} (h : ∀ w, (part f.1 cs f.2).run P w = .ok v w) (r : Parts P cs fs vs) : Parts P cs (f :: fs) (v :: vs)
def Eqs (P : Program) (d : Nat) (fs : List (Nat × Nat)) (us vs : List Value) (bs : List Bool) : Prop := ∀ (i : Nat) (t : Nat) (u v : Value) (b : Bool), (fs.map (·.1))[i]? = some t → us[i]? = some u → vs[i]? = some v → bs[i]? = some b → ∀ w, (Op.equalIn d t u v).run P w = .ok b w
theorem eqFields_run {P : Program} {d : Nat} {xs ys : Array Value} (w : World) : ∀ (fl : List Field) (us vs : List Value) (bs : List Bool), (fl.all fun f => f.name != "_") = true → bs.length = fl.length →
    Parts P xs (fl.map fun f => (f.type, f.offset)) us → Parts P ys (fl.map fun f => (f.type, f.offset)) vs → Eqs P d (fl.map fun f => (f.type, f.offset)) us vs bs → (Op.eqFields d xs ys fl).run P w = .ok (bs.all id) w
  | [], us, vs, bs, _, hl, _, _, _ => by
    have : bs = [] := List.eq_nil_of_length_eq_zero (by simpa using hl)
    subst this
    simp [Op.eqFields]
  | f :: fl, us, vs, bs, hn, hl, hu, hv, he => by
    obtain ⟨b, bs, rfl⟩ : ∃ b r, bs = b :: r := by cases bs with | nil => simp at hl | cons b r => exact ⟨b, r, rfl⟩
    rw [List.map_cons] at hu hv
    cases hu with
    | cons hu1 hu2 =>
      cases hv with
      | cons hv1 hv2 =>
        rename_i u us v vs
        simp only [List.all_cons, Bool.and_eq_true] at hn
        have hn1 : f.name ≠ "_" := by simpa using hn.1
        have h0 : (Op.equalIn d f.type u v).run P w = .ok b w := he 0 f.type u v b rfl rfl rfl rfl w
        have ih := eqFields_run (P := P) (d := d) (xs := xs) (ys := ys) w fl us vs bs hn.2 (by simpa using hl) hu2 hv2 (fun i t u v b h1 h2 h3 h4 => he (i + 1) t u v b h1 h2 h3 h4)
        simp only [Op.eqFields, if_pos hn1, Sem.run_bind, hu1, hv1, Result.andThen_ok, h0]
        cases b
        · simp
        · simpa using ih
theorem checkFields_run {P : Program} {b : Bool} {d : Nat} {xs : Array Value} (w : World) : ∀ (fl : List Field) (us : List Value), (fl.all fun f => f.name != "_") = true → Parts P xs (fl.map fun f => (f.type, f.offset)) us →
    (∀ (i : Nat) (t : Nat) (u : Value), (fl.map (·.type))[i]? = some t → us[i]? = some u → ∀ w, (Instr.checkKey b d t u).run P w = .ok () w) →
    (forIn (m := Sem) fl PUnit.unit fun f _ => do
      if f.name ≠ "_" then Instr.checkKey b d f.type (← part f.type xs f.offset)
      pure (ForInStep.yield PUnit.unit)).run P w = .ok PUnit.unit w
  | [], us, _, _, _ => by simp
  | f :: fl, us, hn, hu, hc => by
    rw [List.map_cons] at hu
    cases hu with
    | cons hu1 hu2 =>
      rename_i u us
      simp only [List.all_cons, Bool.and_eq_true] at hn
      have hn1 : f.name ≠ "_" := by simpa using hn.1
      have ih := checkFields_run (P := P) (b := b) (d := d) (xs := xs) w fl us hn.2 hu2 (fun i t u h1 h2 => hc (i + 1) t u h1 h2)
      have h0 := hc 0 f.type u rfl rfl w
      simp only [List.forIn_cons, if_pos hn1, Sem.run_bind, hu1, h0, Result.andThen_ok, Sem.run_pure]
      exact ih
theorem struct_eq {P : Program} {T d : Nat} {fs : List (Nat × Nat)} {xs ys : Array Value} {us vs : List Value} {bs : List Bool} [tg : TyK P T fs] (w : World) (hl : bs.length = fs.length) (hu : Parts P xs fs us) (hv : Parts P ys fs vs) (he : Eqs P d fs us vs bs) :
    (Op.equalIn (d + 1) T (.agg xs) (.agg ys)).run P w = .ok (bs.all id) w := by
  obtain ⟨h1, h2, rfl, h4⟩ := tg.g
  rw [run_equalIn_agg w d T xs ys h1 h2]
  exact eqFields_run w _ us vs bs h4 (by simpa using hl) hu hv he
theorem struct_chk {P : Program} {T d : Nat} {b : Bool} {fs : List (Nat × Nat)} {xs : Array Value} {us : List Value} [tg : TyK P T fs] (w : World) (hu : Parts P xs fs us)
    (hc : ∀ (i : Nat) (t : Nat) (u : Value), (fs.map (·.1))[i]? = some t → us[i]? = some u → ∀ w, (Instr.checkKey b d t u).run P w = .ok () w) : (Instr.checkKey b (d + 1) T (.agg xs)).run P w = .ok () w := by
  obtain ⟨h1, h2, rfl, h4⟩ := tg.g
  have := checkFields_run (P := P) (b := b) (d := d) (xs := xs) w _ us h4 hu (fun i t u e1 e2 => hc i t u (by simpa using e1) e2)
  simp only [Instr.checkKey, Sem.run_bind, run_underlying h1, Result.andThen_ok]
  rw [← Array.forIn_toList]
  revert this
  simp
  intro this
  rw [this]
  rfl
theorem struct_kl {P : Program} {T : Nat} {fs : List (Nat × Nat)} {κ : Type} [DecidableEq κ] {f : κ → Array Value} [tg : TyK P T fs] (he : ∀ a b w, (Op.equalIn 10000 T (.agg (f a)) (.agg (f b))).run P w = .ok (decide (a = b)) w)
    (hc : ∀ b a w, (Instr.checkKey b 10000 T (.agg (f a))).run P w = .ok () w) (hb : ∀ a, Instr.sameBits 10000 (.agg (f a)) (.agg (f a)) = true) : KeyLw P T (fun a => Value.agg (f a)) where
  chk := hc
  find := fun a es ks w h => by
    obtain ⟨h1, h2, _, h4⟩ := tg.g
    have hr := ask_run (P := P) (T := T) (enc := fun a => Value.agg (f a)) (fun a b w => he a b w) a w ks es 0 h
    cases es with
    | nil =>
      cases ks with
      | nil => simp [Instr.findKey, run_underlying h1, Instr.findNow, fnd]
      | cons => simp at h
    | cons e es =>
      have hn : Instr.findNow (.struct (P.fieldsOf T)) (.agg (f a)) (e :: es) 0 = none := by simp [Instr.findNow, Instr.sameNow]
      simp only [Instr.findKey, Sem.run_bind, run_underlying h1, Result.andThen_ok, hn]
      exact hr
  bits := hb
section
variable {P : Program} {n : Nat} {K : Bs} {F : List (Nat × Value)} {h : View} {L : List Res} {Q : Exit → Act → World → Prop}
variable {dst : Option Nat} {ty : Nat} {pos : String} {af : Array Edge} {gd : Option (Nat × Bool)}
variable {κ : Type} {enc : κ → Value}
def MpR (enc : κ → Value) (l : List (κ × Value)) (es : Array MapEntry) (clock : Nat) : Prop :=
  es.toList.map (·.key) = l.map (fun x => enc x.1) ∧ es.toList.map (·.val) = l.map (·.2) ∧ (∀ e ∈ es.toList, e.born < clock) ∧ (es.toList.map (·.born)).Nodup
def Res.mp (enc : κ → Value) (b : Nat) (l : List (κ × Value)) : Res where
  dom := [b]
  sat := fun w => ∃ es clock, w.heap[b]? = some (.map es clock) ∧ MpR enc l es clock
  loc := fun w w' hh ⟨es, c, h1, h2⟩ => ⟨es, c, by rw [hh b (List.mem_singleton.2 rfl)]; exact h1, h2⟩
  lt := fun w ⟨es, c, h1, _⟩ b' hb => by
    have : b' = b := by simpa using hb
    subst this
    exact (Array.getElem?_eq_some_iff.1 h1).1
theorem ma_makeMap {T : Nat} : MA P n F h L ⟨dst, .makeMap T none, ty, pos, af, gd⟩ (fun b => .map (some b)) (.map #[] 0) := .mk fun a w f s => by
  simp [execOp, Instr.makeMap, newObj, Sem.run]
theorem St.mpOf {w : World} {k b : Nat} (enc : κ → Value) (s : St K h L w) (hk : L[k]? = some (Res.blk b (.map #[] 0))) : St K h (L.set k (Res.mp enc b [])) w :=
  s.swap hk rfl rfl rfl (Nat.le_refl _) (Nat.le_refl _) (fun _ _ _ => rfl) ⟨#[], 0, s.hd.own _ (List.mem_of_getElem? hk), by simp [MpR]⟩ (by simp [Res.mp]) (fun x hx => .inl hx)
theorem qv_len_map {T kt e b : Nat} {x : Operand} {l : List (κ × Value)} (k : Nat) [tu : TyU P T (.map kt e)] (hx : ev F x = some (.map (some b))) (hk : L[k]? = some (Res.mp enc b l)) :
    QV P n F h L ⟨dst, .call ⟨.builtin .len, #[x], #[T]⟩, ty, pos, af, gd⟩ (.int .i64 l.length) := .mk fun ac w f s => by
  obtain ⟨es, clock, h1, h2⟩ := s.own _ (List.mem_of_getElem? hk)
  have hl : es.size = l.length := by
    have := congrArg List.length h2.2.1
    simpa using this
  simp [execOp, resolve, invoke, builtin, Builtin.len_, run_underlying tu.u, f.ev hx, MapKept.run_getObj_map h1, goInt, hl]
variable [DecidableEq κ]
theorem run_lookup {T kt e b : Nat} {a : κ} {ok : Bool} {l : List (κ × Value)} {z : Value} {es : Array MapEntry} {clock : Nat} {w : World} (hu : P.underlying T = some (.map kt e)) (tz : ∀ w, (zeroValue e).run P w = .ok z w) (kl : KeyLw P kt enc) (hb : w.heap[b]? = some (.map es clock)) (hm : MpR enc l es clock) :
    (Instr.lookup T (.map (some b)) (enc a) ok).run P w = .ok (if ok then .tuple #[(mget l a).getD z, .bool (mget l a).isSome] else (mget l a).getD z) w := by
  obtain ⟨h1, h2, _, _⟩ := hm
  have hf := kl.find a es.toList (l.map (·.1)) w (by rw [h1]; simp)
  have hg := fnd_get a l es.toList 0 h2
  cases hx : fnd a (l.map (·.1)) es.toList 0 with
  | none =>
    rw [hx] at hf hg
    simp [Instr.lookup, run_underlying hu, MapKept.run_getObj_map hb, kl.chk, hf, tz, ← hg]
  | some y =>
    obtain ⟨i, v⟩ := y
    rw [hx] at hf hg
    simp [Instr.lookup, run_underlying hu, MapKept.run_getObj_map hb, kl.chk, hf, ← hg]
theorem qv_lookup {T kt e b : Nat} {x y : Operand} {a : κ} {l : List (κ × Value)} {z v : Value} (k : Nat) [tu : TyU P T (.map kt e)] [tz : TyZ P e z] (kl : KeyLw P kt enc) (hx : ev F x = some (.map (some b))) (hy : ev F y = some (enc a)) (hk : L[k]? = some (Res.mp enc b l)) (hv : (mget l a).getD z = v) :
    QV P n F h L ⟨dst, .lookup T x y false, ty, pos, af, gd⟩ v := .mk fun ac w f s => by
  obtain ⟨es, clock, h1, h2⟩ := s.own _ (List.mem_of_getElem? hk)
  subst hv
  have := run_lookup (a := a) (ok := false) tu.u tz.z kl h1 h2
  simp [execOp, f.ev hx, f.ev hy, this]
theorem qv_lookup_ok {T kt e b : Nat} {x y : Operand} {a : κ} {l : List (κ × Value)} {z : Value} {v : Value} {t : Bool} (k : Nat) [tu : TyU P T (.map kt e)] [tz : TyZ P e z] (kl : KeyLw P kt enc) (hx : ev F x = some (.map (some b))) (hy : ev F y = some (enc a)) (hk : L[k]? = some (Res.mp enc b l))
    (hv : (mget l a).getD z = v) (ht : (mget l a).isSome = t) : QV P n F h L ⟨dst, .lookup T x y true, ty, pos, af, gd⟩ (.tuple #[v, .bool t]) := .mk fun ac w f s => by
  obtain ⟨es, clock, h1, h2⟩ := s.own _ (List.mem_of_getElem? hk)
  subst hv
  subst ht
  have := run_lookup (a := a) (ok := true) tu.u tz.z kl h1 h2
  simp [execOp, f.ev hx, f.ev hy, this]
theorem mpr_push {l : List (κ × Value)} {es : Array MapEntry} {clock : Nat} {a : κ} {v : Value} (hm : MpR enc l es clock) (hn : mget l a = none) : MpR enc (mput l a v) (es.push { key := enc a, val := v, born := clock }) (clock + 1) := by
  obtain ⟨h1, h2, h3, h4⟩ := hm
  rw [mput_new hn]
  refine ⟨by simp [h1], by simp [h2], fun e he => ?_, ?_⟩
  · simp only [Array.toList_push, List.mem_append, List.mem_singleton] at he
    rcases he with he | rfl
    · exact Nat.lt_succ_of_lt (h3 e he)
    · exact Nat.lt_succ_self _
  · simp only [Array.toList_push, List.map_append, List.map_cons, List.map_nil]
    refine List.nodup_append.2 ⟨h4, by simp, fun x hx y hy => ?_⟩
    simp only [List.mem_singleton] at hy
    subst hy
    obtain ⟨e, he, rfl⟩ := List.mem_map.1 hx
    exact Nat.ne_of_lt (h3 e he)
theorem mput_at {l : List (κ × Value)} {a : κ} {v : Value} : ∀ (l : List (κ × Value)) (es : List MapEntry) (i : Nat) {j : Nat} {u : Value}, fnd a (l.map (·.1)) es i = some (j, u) → mput l a v = l.modify (j - i) (fun x => (x.1, v))
  | [], _, _, _, _, h => by simp [fnd] at h
  | x :: l, [], _, _, _, h => by simp [fnd] at h
  | x :: l, e :: es, i, j, u, h => by
    simp only [List.map_cons, fnd] at h
    simp only [mput]
    split at h
    · rename_i hk
      cases h
      rw [if_pos hk, Nat.sub_self, List.modify_zero_cons]
    · rename_i hk
      have h1 := (fnd_at a _ _ _ h).1
      have e1 : j - i = (j - (i + 1)) + 1 := by omega
      rw [if_neg hk, e1, List.modify_succ_cons, mput_at (l := l) l es (i + 1) h]
theorem mpr_set {l : List (κ × Value)} {es : Array MapEntry} {clock j : Nat} {a : κ} {u v : Value} (hm : MpR enc l es clock) (hf : fnd a (l.map (·.1)) es.toList 0 = some (j, u)) : MpR enc (mput l a v) (es.modify j fun e => { e with key := enc a, val := v }) clock := by
  obtain ⟨h1, h2, h3, h4⟩ := hm
  have hp := mput_at (l := l) (v := v) l es.toList 0 hf
  obtain ⟨_, hka, _⟩ := fnd_at a _ _ _ hf
  rw [Nat.sub_zero] at hp hka
  rw [hp]
  have hborn : (es.modify j fun e => { e with key := enc a, val := v }).toList.map (·.born) = es.toList.map (·.born) := by
    apply List.ext_getElem?
    intro i
    simp only [List.getElem?_map, Array.getElem?_toList, Array.getElem?_modify]
    split <;> simp [Function.comp_def]
  refine ⟨?_, ?_, fun e he => ?_, by rw [hborn]; exact h4⟩
  · apply List.ext_getElem?
    intro i
    have h1i := congrArg (fun x => x[i]?) h1
    simp only [List.getElem?_map, Array.getElem?_toList, Array.getElem?_modify, List.getElem?_modify] at h1i hka ⊢
    by_cases hij : j = i
    · subst hij
      obtain ⟨x, hx, hx1⟩ := Option.map_eq_some_iff.1 hka
      rw [hx] at h1i ⊢
      simp only [Option.map_some, Option.map_eq_some_iff] at h1i
      obtain ⟨y, hy, _⟩ := h1i
      simp [hy, hx1]
    · simp only [hij, if_false]
      rw [h1i]
      cases l[i]? <;> simp
  · apply List.ext_getElem?
    intro i
    have h2i := congrArg (fun x => x[i]?) h2
    simp only [List.getElem?_map, Array.getElem?_toList, Array.getElem?_modify, List.getElem?_modify] at h2i ⊢
    by_cases hij : j = i
    · subst hij
      cases hx : l[j]? with
      | none => rw [hx] at h2i; simp at h2i; simp [h2i]
      | some x =>
        rw [hx] at h2i
        simp only [Option.map_some, Option.map_eq_some_iff] at h2i
        obtain ⟨y, hy, _⟩ := h2i
        simp [hy]
    · simp only [hij, if_false]
      rw [h2i]
      cases l[i]? <;> simp
  · have : e.born ∈ es.toList.map (·.born) := by rw [← hborn]; exact List.mem_map_of_mem he
    obtain ⟨y, hy, e2⟩ := List.mem_map.1 this
    rw [← e2]
    exact h3 y hy
theorem run_mapUpdate {T kt e b : Nat} {a : κ} {v : Value} {l : List (κ × Value)} {es : Array MapEntry} {clock : Nat} {w : World} (hu : P.underlying T = some (.map kt e)) (kl : KeyLw P kt enc) (hb : w.heap[b]? = some (.map es clock)) (hm : MpR enc l es clock) :
    ∃ es' clock', (Instr.mapUpdate T (.map (some b)) (enc a) v).run P w = .ok () { w with heap := w.heap.setIfInBounds b (.map es' clock') } ∧ MpR enc (mput l a v) es' clock' := by
  have hf := kl.find a es.toList (l.map (·.1)) w (by rw [hm.1]; simp)
  have hg := fnd_get a l es.toList 0 hm.2.1
  cases hx : fnd a (l.map (·.1)) es.toList 0 with
  | none =>
    rw [hx] at hf hg
    refine ⟨_, _, ?_, mpr_push hm hg.symm⟩
    simp [Instr.mapUpdate, run_underlying hu, MapKept.run_getObj_map hb, kl.chk, hf, MapKept.run_setObj_map _ hb, Result.andThen]
  | some y =>
    obtain ⟨j, u⟩ := y
    rw [hx] at hf
    refine ⟨_, _, ?_, mpr_set hm hx⟩
    obtain ⟨_, hka, e0, he0, _⟩ := fnd_at a _ _ _ hx
    rw [Nat.sub_zero] at hka he0
    have hkey : e0.key = enc a := by
      have := congrArg (fun x => x[j]?) hm.1
      simp only [List.getElem?_map, he0, Option.map_some] at this
      simp only [List.getElem?_map] at hka
      obtain ⟨x, hx, hx1⟩ := Option.map_eq_some_iff.1 hka
      rw [hx, Option.map_some] at this
      rw [Option.some.inj this, hx1]
    have he1 : es[j]? = some e0 := by simpa using he0
    have hstay : (Instr.keyThatStays (enc a) (enc a)).run P w = .ok (enc a) w := by simp [Instr.keyThatStays, kl.bits]
    simp [Instr.mapUpdate, run_underlying hu, MapKept.run_getObj_map hb, kl.chk, hf, he1, hkey, hstay, MapKept.run_setObj_map _ hb, Result.andThen]
theorem rx_mapUpdate {g : Rg} {i : Nat} {r : List (Nat × Oper)} {T kt e b : Nat} {x y z : Operand} {a : κ} {v : Value} {l : List (κ × Value)} (k : Nat) [tu : TyU P T (.map kt e)] (kl : KeyLw P kt enc) (hx : ev F x = some (.map (some b))) (hy : ev F y = some (enc a)) (hz : ev F z = some v)
    (hk : L[k]? = some (Res.mp enc b l)) (hw : wantedF g.ops F ⟨none, .mapUpdate T x y z, ty, pos, af, gd⟩ = some true) (hl : g.lo i = true) (o1 : Owe g i h L) (o2 : Owe g i h (L.set k (Res.mp enc b (mput l a v))))
    (hn : RX P n K g r F h (L.set k (Res.mp enc b (mput l a v))) Q) : RX P n K g ((i, ⟨none, .mapUpdate T x y z, ty, pos, af, gd⟩) :: r) F h L Q := by
  unfold RX at *
  intro ac w f s
  obtain ⟨es, clock, h1, h2⟩ := s.hd.own _ (List.mem_of_getElem? hk)
  obtain ⟨es', clock', hrun, h3⟩ := run_mapUpdate (a := a) (v := v) tu.u kl h1 h2
  have hlt := (Array.getElem?_eq_some_iff.1 h1).1
  have hexec : (execOp ac.eval ⟨none, .mapUpdate T x y z, ty, pos, af, gd⟩).run P w = .ok .skip { w with heap := w.heap.setIfInBounds b (.map es' clock') } := by
    simp [execOp, f.ev hx, f.ev hy, f.ev hz, hrun]
  have s' : St K h (L.set k (Res.mp enc b (mput l a v))) { w with heap := w.heap.setIfInBounds b (.map es' clock') } :=
    s.swap hk rfl rfl rfl (Nat.le_refl _) (by simp) (fun j hj hjd => by
      have : b ≠ j := fun e => hjd (by subst e; simp [Res.mp])
      simp [Array.getElem?_setIfInBounds, this]) ⟨es', clock', by simp [Array.getElem?_setIfInBounds, hlt], h3⟩ (by simp [Res.mp]) (fun x hx => .inl hx)
  refine .inr (.inr ⟨wantedF_ok f hw, hl, o1.out s, ?_⟩)
  unfold Oper.wp
  rw [hexec]
  exact ⟨o2.out s', hn _ _ f s'⟩
end
end Go.Ck
end

section
namespace Go.Proofs.YtgeepceieckooaaGreatDoor
open Go Go.Ck
set_option maxHeartbeats 4000000
def vcells (idl : Bool) (key : List Int) (a b c : Nat) : List Value := .bool idl :: (bcs key ++ [.map (some a), .map (some b), .map (some c)])
def Vb (h : View) (bv : Nat) (idl : Bool) (key : List Int) (a b c : Nat) : Prop := h bv = some (.cells (vcells idl key a b c).toArray 107 (0, 0))
theorem Vb.mono {h h' : View} {bv : Nat} {idl : Bool} {key : List Int} {a b c : Nat} (s : Vb h bv idl key a b c) (hl : Le h h') : Vb h' bv idl key a b c := hl _ _ s
section
variable {h : View} {L : List Res} {bv : Nat} {idl : Bool} {key : List Int} {a b c : Nat}
theorem Vb.kb (s : Vb h bv idl key a b c) : Cells h L ⟨bv, 0 + 1, none⟩ (bcs key) := by
  have h1 : Cells h L ⟨bv, 0, none⟩ (vcells idl key a b c) := cells_view s
  have h2 := (h1.drop 1).take (bcs key).length
  simpa [vcells] using h2
theorem Vb.at (s : Vb h bv idl key a b c) (hk : key.length = 32) {o : Nat} {v : Value} (hv : o = 0 ∧ v = .bool idl ∨ o = 33 ∧ v = .map (some a) ∨ o = 34 ∧ v = .map (some b) ∨ o = 35 ∧ v = .map (some c)) : CellAt h L bv (0 + o) v := by
  have h1 : Cells h L ⟨bv, 0, none⟩ (vcells idl key a b c) := cells_view s
  refine h1.cell ?_
  have hb := bcs_len key
  rcases hv with ⟨rfl, rfl⟩ | ⟨rfl, rfl⟩ | ⟨rfl, rfl⟩ | ⟨rfl, rfl⟩
  · rfl
  all_goals simp [vcells, hb, hk]
end
def drawF (key : List Int) (kind n count : Nat) : List Int := (putLow 8 n).reverse ++ streamF key 0 ((putLow 4 kind).reverse ++ (putLow 8 n).reverse) (List.replicate (count - 8) 0)
theorem drawF_len (key : List Int) (kind n count : Nat) (h : 8 ≤ count) : (drawF key kind n count).length = count := by
  rw [drawF, List.length_append, streamF_len, List.length_reverse, putLow_len, List.length_replicate]
  omega
theorem drawF_by (key : List Int) (kind n count : Nat) : Bytes (drawF key kind n count) := cbytes_app (putLow_bytes' 8 _) (strmF_by _ _ _ _ _)
theorem drawF_ne (key : List Int) {kind n m count : Nat} (hn : n < 1000000) (hm : m < 1000000) (he : n ≠ m) : drawF key kind n count ≠ drawF key kind m count := fun e => by
  have h1 := congrArg (List.take 8) e
  unfold drawF at h1
  rw [List.take_left' (by simp [putLow_len]), List.take_left' (by simp [putLow_len])] at h1
  have h2 := congrArg valB h1
  rw [val_putLow 8 n (by omega) (by omega), val_putLow 8 m (by omega) (by omega)] at h2
  omega
theorem zeros_bcs (m : Nat) : (List.replicate m (Value.int .u8 0)) = bcs (List.replicate m 0) := by simp [bcs]
theorem zeros_by (m : Nat) : Bytes (List.replicate m 0) := fun x hx => by
  have := List.eq_of_mem_replicate hx
  omega
theorem draw_sp (bv : Nat) (idl : Bool) (key : List Int) (a b c : Nat) (kind n count : Nat) (hk : Bytes key) (hk32 : key.length = 32) (h1 : kind < 256) (h2 : n < 1000000) (h3 : 8 < count ∧ count ≤ 100000) (h : View) (hv : Vb h bv idl key a b c) (w : World) (s : St ⟨w, h, []⟩ h [] w) :
    Calls Tryz.prog 57 [.pointer (some ⟨bv, 0, none⟩), .int .i64 kind, .int .i64 n, .int .i64 count].toArray w fun e w' => ∃ v, e = .returned v ∧ St ⟨w, h, []⟩ h [rowB v (drawF key kind n count)] w' ∧ True := by
  refine calls_enter Tryz.func57 rfl Tryz.ntmps57 rfl s ?_
  have w1 : IntKind.u64.wrap (n : Int) = n := wrap_u64 (by omega) (by omega)
  have w2 : IntKind.u64.wrap (kind : Int) = kind := wrap_u64 (by omega) (by omega)
  repeat' (first|refine zw104 ?_|(refine ta_ ?_;intro _)|(refine zk0 ?_ ?_<;>intro ht)|fail)
  (refine yco (ycp Tryz.func88 rfl (by kernel_rfl) rfl) (PutHigh_sp n 8 ⟨by omega, by omega⟩ (by omega) (by omega) h) rfl rfl rfl ?_ ?_ ?_; (· (exact to_)); (·exact zc148); intro x px hle)
  repeat' (first|refine zw104 ?_|(refine ta_ ?_;intro _)|(refine zk0 ?_ ?_<;>intro ht)|fail)
  have p8 := putLow_len 8 n
  have p4 := putLow_len 4 kind
  have ho := cbytes_app (putLow_bytes' 4 (kind : Int)) (putLow_bytes' 8 (n : Int))
  have hol : (bcs ((putLow 4 (kind : Int)).reverse ++ (putLow 8 (n : Int)).reverse)).length = 12 := by rw [bcs_len, List.length_append, List.length_reverse, List.length_reverse, p4, p8]
  (refine yco (ycp Tryz.func88 rfl (by kernel_rfl) rfl) (PutHigh_sp kind 4 ⟨by omega, by omega⟩ (by omega) (by omega) h) rfl rfl rfl ?_ ?_ ?_; (· (exact to_)); (·exact zc148); intro x px hle)
  refine rx_rowform 1 rfl (fun _ h1 _ => (by rw [List.length_reverse] at h1; omega)) ?_
  rintro g8 cap8 rfl
  repeat' (first|refine tw_ ?_|(refine ta_ ?_;intro _)|(refine zk0 ?_ ?_<;>intro ht)|fail)
  refine rx_append (sz := 1) 0 rfl rfl rfl (row_cells 1 rfl) (by rw [bcs_len, Nat.mul_one]) (bcs_one _) rfl (by omega) (by unfold maxLen; rw [List.length_reverse, List.length_reverse]; omega) (by rw [List.length_reverse, List.length_reverse]; omega) rfl rfl rfl ybf (fun _ => ybf) ?_
  intro v5 _
  rw [← bcs_app]
  have hrl : (putLow 4 (kind : Int)).reverse.length + (putLow 8 (n : Int)).reverse.length = 12 := by simp [p4, p8]
  rw [hrl]
  generalize hout : (putLow 4 (kind : Int)).reverse ++ (putLow 8 (n : Int)).reverse = out at hol ho ⊢
  refine rx_rowform 0 rfl (fun _ h1 _ => (by omega)) ?_
  rintro g6 cap6 rfl
  repeat' (first|refine zw109 ?_|(refine ta_ ?_;intro _)|(refine zk0 ?_ ?_<;>intro ht)|fail)
  rename_i bA
  have ws : IntKind.i64.wrap ((count : Int) - 8) = ((count - 8 : Nat) : Int) := by rw [IntKind.wrap_i64]<;>omega
  refine cx_region_draw' rfl (by kernel_rfl) ?_
  repeat' (first|refine zw110 ?_|(refine ycf ?_;(first|(refine zg0 ?_ ?_<;>intro ht)|(refine tb_ ?_ ?_ ?_;(·(exact to_));(·intro _;(exact to_));intro _)))|fail)
  refine yba (ma_makeBytes (m := count - 8) rfl rfl rfl (by omega)) rfl rfl rfl ?_ ?_ ?_
  · (exact to_)
  · intro _; (exact to_)
  intro bz
  refine rx_rowOf 1 (count - 8) (count - 8) (Nat.le_refl _) (by unfold maxLen; omega) (by simp) ?_
  refine rx_persist rfl fun h1 hle1 hv1 => ?_
  have hz : Bs8 h1 (.slice (some ⟨bz, 0, none⟩) (List.replicate (count - 8) (0 : Int)).length (count - 8)) (List.replicate (count - 8) 0) := by
    unfold Bs8
    rw [← zeros_bcs, List.length_replicate]
    rw [List.take_of_length_le (by simp)] at hv1
    exact hv1
  rw [List.length_replicate] at hz
  repeat' (first|refine zw111 ?_|(refine ycf ?_;(first|(refine zg0 ?_ ?_<;>intro ht)|(refine tb_ ?_ ?_ ?_;(·exact zc42);(·exact zc151);intro _)))|fail)
  (refine yco (ycp Tryz.func89 rfl (by kernel_rfl) rfl) (Stream_sp key 0 out _ _ hk ho hk32 (by rw [← bcs_len];exact hol) (by simp;omega) (zeros_by _) h1 hz) rfl rfl rfl ?_ ?_ ?_;(·exact zc42);(·intro _ _ hle;(first|exact ybf|(refine .inl ?_;(first|exact fun _ s => Hd.sub s hle1 (fun r hr => hr)|exact fun _ s => Hd.sub s hle1 (fun r hr => List.mem_cons_of_mem _ hr)))|exact to_));intro x px hle)
  have hsl := streamF_len key 0 out (List.replicate (count - 8) 0)
  rw [List.length_replicate] at hsl
  refine rx_rowform 0 rfl (fun _ h1 _ => (by omega)) ?_
  rintro g30 cap30 rfl
  refine rx_append (sz := 1) 3 rfl rfl rfl (row_cells 0 rfl) (by rw [bcs_len, Nat.mul_one]) (bcs_one _) rfl (by omega) (by unfold maxLen; rw [List.length_reverse, p8, hsl]; omega) (by rw [List.length_reverse, p8, hsl]; omega) rfl rfl rfl ?_ ?_ ?_
  · (first|exact ybf|(refine .inl ?_;(first|exact fun _ s => Hd.sub s hle1 (fun r hr => hr)|exact fun _ s => Hd.sub s hle1 (fun r hr => List.mem_cons_of_mem _ hr)))|exact to_)
  · intro v'; (exact .inr (by kernel_rfl))
  intro v9 _
  rw [← bcs_app]
  repeat' (first|refine zw111 ?_|(refine ycf ?_;(first|(refine zg0 ?_ ?_<;>intro ht)|(refine tb_ ?_ ?_ ?_;(·exact zc42);(·exact zc151);intro _)))|fail)
  repeat' (first|refine tw_ ?_|(refine ta_ ?_;intro _)|(refine zk0 ?_ ?_<;>intro ht)|fail)
  refine nx_ret1 rfl (rv_tmp rfl) (fun w' s' => ⟨_, rfl, ?_, trivial⟩)
  have s3 := (s'.perm (perm_at (k := 3) rfl)).keep1.baseL
  unfold drawF
  rw [hout]
  unfold rowB
  rw [List.length_append]
  exact s3
end Go.Proofs.YtgeepceieckooaaGreatDoor
end
