/-
  Part 12 of a proof: PoC PoD CkNoZ ShD ShE.
  Conditions: each theorem states its own.
-/
import Derived.Lib.MakeNoZero
import Derived.Laws.Externs
import Derived.Test.YtaofgcahmfailaaGreatDoorCjGPM11
set_option maxRecDepth 100000
set_option linter.unusedVariables false
set_option linter.unusedSimpArgs false
section
namespace Go.Proofs.YtaofgcahmfailaaGreatDoor
open Go Go.Ck
set_option maxHeartbeats 4000000
def mprod (x y : List W64) (i k : Nat) : W64 := if 5 ≤ i + k then x.getD i 0 * y.getD k 0 * 5 else x.getD i 0 * y.getD k 0
def mstep (x y o : List W64) (i k : Nat) : List W64 := o.set ((i + k) % 5) (o.getD ((i + k) % 5) 0 + mprod x y i k)
def mtin (x y : List W64) (i : Nat) (o : List W64) : Nat → List W64
  | 0 => o
  | k + 1 => mstep x y (mtin x y i o k) i k
def mtout (x y : List W64) : Nat → List W64
  | 0 => [0, 0, 0, 0, 0]
  | i + 1 => mtin x y i (mtout x y i) 5
theorem mtin_len (x y : List W64) (i : Nat) (o : List W64) : ∀ k, (mtin x y i o k).length = o.length
  | 0 => rfl
  | k + 1 => by rw [mtin, mstep, List.length_set, mtin_len x y i o k]
theorem mtout_len (x y : List W64) : ∀ i, (mtout x y i).length = 5
  | 0 => rfl
  | i + 1 => by rw [mtout, mtin_len, mtout_len x y i]
def timesF (x y : List W64) : List W64 := carryF (mtout x y 5)
theorem timesF_len (x y : List W64) : (timesF x y).length = 5 := by rw [timesF, carryF_len, mtout_len]
theorem times_sp (x y : List W64) (hx : x.length = 5) (hy : y.length = 5) (h : View) (w : World) (s : St ⟨w, h, []⟩ h [] w) :
    Calls Tryz.prog 108 [.agg (up64 x).toArray, .agg (up64 y).toArray].toArray w fun e w' => e = .returned (.agg (up64 (timesF x y)).toArray) ∧ St ⟨w, h, []⟩ h [] w' := by
  refine calls_enter Tryz.func108 rfl Tryz.ntmps108 rfl s ?_
  repeat' (first|(first|(refine ybg 0 rfl rfl rfl (w_sz8 hx) (w_fit8 hx (by rfl)) (w_one8 x) (ybh (w_all8 hx (by rfl))) rfl rfl ?_ ?_ ?_;(·(exact to_));(·(exact to_)))|(refine ybg 0 rfl rfl rfl (w_sz8 hy) (w_fit8 hy (by rfl)) (w_one8 y) (ybh (w_all8 hy (by rfl))) rfl rfl ?_ ?_ ?_;(·(exact to_));(·(exact to_))))|refine t1_ ?_|(refine ta_ ?_;intro _)|((fail_if_success (refine ybi rfl ?_));refine ybj rfl ?_ ?_<;>(intro ht;rw [ht];first|replace ht := oet_ ht|replace ht := oef_ ht|skip))|(refine ych ?_;first|(refine ybw rfl ?_ ?_<;>intro ht)|(refine ybx rfl ?_ ?_<;>intro ht)))
  rename_i bx by' br bo
  refine cx_loop (X := Nat) (fun i => [(2, .pointer (some ⟨bx, 0, none⟩)), (3, .pointer (some ⟨by', 0, none⟩)), (4, .pointer (some ⟨br, 0, none⟩)), (5, .pointer (some ⟨bo, 0, none⟩)), (9, .int .i64 (i : Nat))]) (fun _ => h)
    (fun i => [Res.blk bo (.cells (up64 (mtout x y i)).toArray 197 (0, 0)), Res.blk br (.cells (up64 [0, 0, 0, 0, 0]).toArray 197 (0, 0)), Res.blk by' (.cells (up64 y).toArray 197 (0, 0)), Res.blk bx (.cells (up64 x).toArray 197 (0, 0))]) (fun i => i ≤ 5) (fun i => 5 - i) 0 (Nat.zero_le _) ts_ (fun _ s => s) ?_
  intro i hi
  have hol := mtout_len x y i
  by_cases hi5 : i < 5
  · have eo : mtout x y (i + 1) = mtin x y i (mtout x y i) 5 := rfl
    generalize mtout x y i = O at hol eo ⊢
    have cx0 := getD_at8 (l := x) (i := i) (by omega)
    repeat' (first|(refine ycf ?_;apply ybk;(·first|(exact tk_));(·rfl);(·rfl))|refine t1_ ?_|(refine ta_ ?_;intro _)|((fail_if_success (refine ybi rfl ?_));refine ybj rfl ?_ ?_<;>(intro ht;rw [ht];first|replace ht := oet_ ht|replace ht := oef_ ht|skip))|(refine ych ?_;first|(refine ybw rfl ?_ ?_<;>intro ht)|(refine ybx rfl ?_ ?_<;>intro ht)))
    refine cx_loop (X := Nat) (fun k => [(2, .pointer (some ⟨bx, 0, none⟩)), (3, .pointer (some ⟨by', 0, none⟩)), (4, .pointer (some ⟨br, 0, none⟩)), (5, .pointer (some ⟨bo, 0, none⟩)), (6, .int .i64 (i : Nat)), (9, .int .i64 (i : Nat)), (12, .int .i64 (k : Nat))]) (fun _ => h)
      (fun k => [Res.blk bo (.cells (up64 (mtin x y i O k)).toArray 197 (0, 0)), Res.blk br (.cells (up64 [0, 0, 0, 0, 0]).toArray 197 (0, 0)), Res.blk by' (.cells (up64 y).toArray 197 (0, 0)), Res.blk bx (.cells (up64 x).toArray 197 (0, 0))]) (fun k => k ≤ 5) (fun k => 5 - k) 0 (Nat.zero_le _) ts_ (fun _ s => s) ?_
    intro k hk
    have hil := mtin_len x y i O k
    by_cases hk5 : k < 5
    · have ek : mtin x y i O (k + 1) = mstep x y (mtin x y i O k) i k := rfl
      generalize mtin x y i O k = R at hil ek ⊢
      have hil : R.length = 5 := by omega
      have cy0 := getD_at8 (l := y) (i := k) (by omega)
      have hlt : (i + k) % 5 < 5 := Nat.mod_lt _ (by omega)
      have cr0 := getD_at8 (l := R) (i := (i + k) % 5) (by omega)
      have hrem : ((i : Int) + (k : Int)).tmod 5 = (((i + k) % 5 : Nat) : Int) := by rw [Int.tmod_eq_emod_of_nonneg (by omega)]; omega
      unfold mstep mprod at ek
      by_cases h5 : 5 ≤ i + k
      · rw [if_pos h5] at ek
        repeat' (first|(refine ycf ?_;apply ybk;(·first|(first|exact tk_|(refine qv_mulw (b := 5) rfl rfl rfl rfl)|(apply qv_mulw<;>rfl)|(refine qv_remr rfl rfl (by decide) hrem)|(apply qv_addw<;>rfl))|(apply yae;(·rfl);(·(first|exact cell_w8 (yaz 3 rfl) cx0 (by omega)|exact cell_w8 (yaz 2 rfl) cy0 (by omega)|exact cell_w8 (yaz 0 rfl) cr0 (by omega)))));(·rfl);(·rfl))|(refine ybg 0 rfl rfl rfl rfl (fit_w8 (n := 5) (i := (i + k) % 5) hil (by omega) (by omega)) rfl (spl_w8 (i := (i + k) % 5) (by omega) (by omega)) rfl rfl ?_ ?_ ?_;(·(exact to_));(·(exact to_)))|refine t1_ ?_|(refine ta_ ?_;intro _)|((fail_if_success (refine ybi rfl ?_));refine ybj rfl ?_ ?_<;>(intro ht;rw [ht];first|replace ht := oet_ ht|replace ht := oef_ ht|skip))|(refine ych ?_;first|(refine ybw rfl ?_ ?_<;>intro ht)|(refine ybx rfl ?_ ?_<;>intro ht)))
        refine cx_region_draw' rfl (by kernel_rfl) ?_
        repeat' (refine ycf ?_;(first|(first|(apply ybm;(·(first|(first|exact tk_|(refine qv_mulw (b := 5) rfl rfl rfl rfl)|(apply qv_mulw<;>rfl)|(refine qv_remr rfl rfl (by decide) hrem)|(apply qv_addw<;>rfl))|(apply yae;(·rfl);(·(first|exact cell_w8 (yaz 3 rfl) cx0 (by omega)|exact cell_w8 (yaz 2 rfl) cy0 (by omega)|exact cell_w8 (yaz 0 rfl) cr0 (by omega))))|exact tq_));(·rfl);(·rfl);(·(exact th_)))|refine ybl rfl rfl ?_|((fail_if_success (refine ybi rfl ?_));refine ybj rfl ?_ ?_<;>(intro ht;rw [ht];first|replace ht := oet_ ht|replace ht := oef_ ht|skip))|(refine tb_ ?_ ?_ ?_;(·(exact to_));(·intro _;(exact to_));intro _)|(first|(refine ybg 0 rfl rfl rfl rfl (fit_w8 (n := 5) (i := (i + k) % 5) hil (by omega) (by omega)) rfl (spl_w8 (i := (i + k) % 5) (by omega) (by omega)) rfl rfl ?_ ?_ ?_;(·(exact to_));(·(exact to_)))|(refine tqs_ ?_ ?_ ?_;(·(exact to_));(·(exact to_))))|(apply ybn;(·(first|(first|exact tk_|(refine qv_mulw (b := 5) rfl rfl rfl rfl)|(apply qv_mulw<;>rfl)|(refine qv_remr rfl rfl (by decide) hrem)|(apply qv_addw<;>rfl))|(apply yae;(·rfl);(·(first|exact cell_w8 (yaz 3 rfl) cx0 (by omega)|exact cell_w8 (yaz 2 rfl) cy0 (by omega)|exact cell_w8 (yaz 0 rfl) cr0 (by omega))))|exact tq_));(·rfl);(·rfl);(·rfl);(·(exact to_))))|refine ycg ?_))
        repeat' (first|(refine ycf ?_;apply ybk;(·first|(first|exact tk_|(refine qv_mulw (b := 5) rfl rfl rfl rfl)|(apply qv_mulw<;>rfl)|(refine qv_remr rfl rfl (by decide) hrem)|(apply qv_addw<;>rfl))|(apply yae;(·rfl);(·(first|exact cell_w8 (yaz 3 rfl) cx0 (by omega)|exact cell_w8 (yaz 2 rfl) cy0 (by omega)|exact cell_w8 (yaz 0 rfl) cr0 (by omega)))));(·rfl);(·rfl))|(refine ybg 0 rfl rfl rfl rfl (fit_w8 (n := 5) (i := (i + k) % 5) hil (by omega) (by omega)) rfl (spl_w8 (i := (i + k) % 5) (by omega) (by omega)) rfl rfl ?_ ?_ ?_;(·(exact to_));(·(exact to_)))|refine t1_ ?_|(refine ta_ ?_;intro _)|((fail_if_success (refine ybi rfl ?_));refine ybj rfl ?_ ?_<;>(intro ht;rw [ht];first|replace ht := oet_ ht|replace ht := oef_ ht|skip))|(refine ych ?_;first|(refine ybw rfl ?_ ?_<;>intro ht)|(refine ybx rfl ?_ ?_<;>intro ht)))
        refine nx_round (k + 1) (by show k + 1 ≤ 5; omega) (by show 5 - (k + 1) < 5 - k; omega) ts_ (fun _ s => ?_)
        rw [ek]
        exact s
      · rw [if_neg h5] at ek
        repeat' (first|(refine ycf ?_;apply ybk;(·first|(first|exact tk_|(apply qv_mulw<;>rfl)|(refine qv_remr rfl rfl (by decide) hrem)|(apply qv_addw<;>rfl))|(apply yae;(·rfl);(·(first|exact cell_w8 (yaz 3 rfl) cx0 (by omega)|exact cell_w8 (yaz 2 rfl) cy0 (by omega)|exact cell_w8 (yaz 0 rfl) cr0 (by omega)))));(·rfl);(·rfl))|(refine ybg 0 rfl rfl rfl rfl (fit_w8 (n := 5) (i := (i + k) % 5) hil (by omega) (by omega)) rfl (spl_w8 (i := (i + k) % 5) (by omega) (by omega)) rfl rfl ?_ ?_ ?_;(·(exact to_));(·(exact to_)))|refine t1_ ?_|(refine ta_ ?_;intro _)|((fail_if_success (refine ybi rfl ?_));refine ybj rfl ?_ ?_<;>(intro ht;rw [ht];first|replace ht := oet_ ht|replace ht := oef_ ht|skip))|(refine ych ?_;first|(refine ybw rfl ?_ ?_<;>intro ht)|(refine ybx rfl ?_ ?_<;>intro ht)))
        refine cx_region_draw' rfl (by kernel_rfl) ?_
        repeat' (refine ycf ?_;(first|(first|(apply ybm;(·(first|(first|exact tk_|(apply qv_mulw<;>rfl)|(refine qv_remr rfl rfl (by decide) hrem)|(apply qv_addw<;>rfl))|(apply yae;(·rfl);(·(first|exact cell_w8 (yaz 3 rfl) cx0 (by omega)|exact cell_w8 (yaz 2 rfl) cy0 (by omega)|exact cell_w8 (yaz 0 rfl) cr0 (by omega))))|exact tq_));(·rfl);(·rfl);(·(exact th_)))|refine ybl rfl rfl ?_|((fail_if_success (refine ybi rfl ?_));refine ybj rfl ?_ ?_<;>(intro ht;rw [ht];first|replace ht := oet_ ht|replace ht := oef_ ht|skip))|(refine tb_ ?_ ?_ ?_;(·(exact to_));(·intro _;(exact to_));intro _)|(first|(refine ybg 0 rfl rfl rfl rfl (fit_w8 (n := 5) (i := (i + k) % 5) hil (by omega) (by omega)) rfl (spl_w8 (i := (i + k) % 5) (by omega) (by omega)) rfl rfl ?_ ?_ ?_;(·(exact to_));(·(exact to_)))|(refine tqs_ ?_ ?_ ?_;(·(exact to_));(·(exact to_))))|(apply ybn;(·(first|(first|exact tk_|(apply qv_mulw<;>rfl)|(refine qv_remr rfl rfl (by decide) hrem)|(apply qv_addw<;>rfl))|(apply yae;(·rfl);(·(first|exact cell_w8 (yaz 3 rfl) cx0 (by omega)|exact cell_w8 (yaz 2 rfl) cy0 (by omega)|exact cell_w8 (yaz 0 rfl) cr0 (by omega))))|exact tq_));(·rfl);(·rfl);(·rfl);(·(exact to_))))|refine ycg ?_))
        repeat' (first|(refine ycf ?_;apply ybk;(·first|(first|exact tk_|(apply qv_mulw<;>rfl)|(refine qv_remr rfl rfl (by decide) hrem)|(apply qv_addw<;>rfl))|(apply yae;(·rfl);(·(first|exact cell_w8 (yaz 3 rfl) cx0 (by omega)|exact cell_w8 (yaz 2 rfl) cy0 (by omega)|exact cell_w8 (yaz 0 rfl) cr0 (by omega)))));(·rfl);(·rfl))|(refine ybg 0 rfl rfl rfl rfl (fit_w8 (n := 5) (i := (i + k) % 5) hil (by omega) (by omega)) rfl (spl_w8 (i := (i + k) % 5) (by omega) (by omega)) rfl rfl ?_ ?_ ?_;(·(exact to_));(·(exact to_)))|refine t1_ ?_|(refine ta_ ?_;intro _)|((fail_if_success (refine ybi rfl ?_));refine ybj rfl ?_ ?_<;>(intro ht;rw [ht];first|replace ht := oet_ ht|replace ht := oef_ ht|skip))|(refine ych ?_;first|(refine ybw rfl ?_ ?_<;>intro ht)|(refine ybx rfl ?_ ?_<;>intro ht)))
        refine nx_round (k + 1) (by show k + 1 ≤ 5; omega) (by show 5 - (k + 1) < 5 - k; omega) ts_ (fun _ s => ?_)
        rw [ek]
        exact s
    · have ek5 : k = 5 := by omega
      subst ek5
      repeat' (first|(refine ycf ?_;apply ybk;(·first|(exact tk_));(·rfl);(·rfl))|refine t1_ ?_|(refine ta_ ?_;intro _)|((fail_if_success (refine ybi rfl ?_));refine ybj rfl ?_ ?_<;>(intro ht;rw [ht];first|replace ht := oet_ ht|replace ht := oef_ ht|skip))|(refine ych ?_;first|(refine ybw rfl ?_ ?_<;>intro ht)|(refine ybx rfl ?_ ?_<;>intro ht)))
      refine nx_round (i + 1) (by show i + 1 ≤ 5; omega) (by show 5 - (i + 1) < 5 - i; omega) ts_ (fun _ s => ?_)
      rw [eo]
      exact s
  · have ei : i = 5 := by omega
    subst ei
    have C1 := carry_sp (mtout x y 5) hol h
    have hcl := timesF_len x y
    unfold timesF at hcl ⊢
    generalize mtout x y 5 = O at hol C1 hcl ⊢
    generalize carryF O = p at C1 hcl ⊢
    repeat' (first|(refine ycf ?_;apply ybk;(·first|(first|exact tk_|(apply yad;(·rfl);(·exact yaz 0 rfl);(·rw [← hol];exact up64_len O))));(·rfl);(·rfl))|refine t1_ ?_|(refine ta_ ?_;intro _)|((fail_if_success (refine ybi rfl ?_));refine ybj rfl ?_ ?_<;>(intro ht;rw [ht];first|replace ht := oet_ ht|replace ht := oef_ ht|skip))|(refine ych ?_;first|(refine ybw rfl ?_ ?_<;>intro ht)|(refine ybx rfl ?_ ?_<;>intro ht)))
    (refine ycn (ycp Tryz.func120 rfl (by kernel_rfl) rfl) (C1) rfl rfl rfl ?_ ?_; (· (exact to_)))
    repeat' (first|(refine ycf ?_;apply ybk;(·first|(first|exact tk_|(apply yad;(·rfl);(·exact yaz 0 rfl);(·rw [← hol];exact up64_len O))));(·rfl);(·rfl))|(refine ybg 1 rfl rfl rfl (w_sz8 hcl) (w_fit8 hcl (by rfl)) (w_one8 p) (ybh (w_all8 hcl (by rfl))) rfl rfl ?_ ?_ ?_;(·(exact to_));(·(exact to_)))|refine t1_ ?_|(refine ta_ ?_;intro _)|((fail_if_success (refine ybi rfl ?_));refine ybj rfl ?_ ?_<;>(intro ht;rw [ht];first|replace ht := oet_ ht|replace ht := oef_ ht|skip))|(refine ych ?_;first|(refine ybw rfl ?_ ?_<;>intro ht)|(refine ybx rfl ?_ ?_<;>intro ht)))
    exact nx_ret1 rfl (rv_cells rfl (yaz 1 rfl) (by rw [← hcl]; exact up64_len p)) (fun w' s' => ⟨rfl, s'.nil⟩)
end Go.Proofs.YtaofgcahmfailaaGreatDoor
end

section
namespace Go.Proofs.YtaofgcahmfailaaGreatDoor
open Go Go.Ck
set_option maxHeartbeats 4000000
def lstep (y : List W64) (i : Nat) : List W64 :=
  let s1 := y.set (i + 1) (y.getD (i + 1) 0 + (y.getD i 0 >>> 26))
  s1.set i (s1.getD i 0 &&& m26)
def lpass (y : List W64) : Nat → List W64
  | 0 => y
  | k + 1 => lstep (lpass y k) k
theorem lpass_len (y : List W64) : ∀ k, (lpass y k).length = y.length
  | 0 => rfl
  | k + 1 => by rw [lpass, lstep]; simp [lpass_len y k]
def five : List W64 := [5, 0, 0, 0, 0]
def leastF (x : List W64) : List W64 :=
  let x2 := carryF (carryF x)
  let y := lpass (plusF x2 five) 4
  if y.getD 4 0 >>> 26 = 0#64 then x2 else y.set 4 (y.getD 4 0 &&& m26)
theorem plusF_len (a b : List W64) : (plusF a b).length = a.length := plusK_len a b 5
theorem leastF_len (x : List W64) : (leastF x).length = x.length := by
  unfold leastF
  dsimp only
  split
  · rw [carryF_len, carryF_len]
  · rw [List.length_set, lpass_len, plusF_len, carryF_len, carryF_len]
theorem least_sp (x : List W64) (hx : x.length = 5) (h : View) (w : World) (s : St ⟨w, h, []⟩ h [] w) :
    Calls Tryz.prog 109 [.agg (up64 x).toArray].toArray w fun e w' => e = .returned (.agg (up64 (leastF x)).toArray) ∧ St ⟨w, h, []⟩ h [] w' := by
  have C1 := carry_sp x hx h
  have C2 := carry_sp (carryF x) (by rw [carryF_len]; exact hx) h
  have l1 : (carryF x).length = 5 := by rw [carryF_len]; exact hx
  have l2 : (carryF (carryF x)).length = 5 := by rw [carryF_len]; exact l1
  have P1 := plus_sp (carryF (carryF x)) five l2 rfl h
  have ll := leastF_len x
  unfold leastF at ll ⊢
  dsimp only at ll ⊢
  generalize carryF (carryF x) = x2 at C2 l2 P1 ll ⊢
  generalize carryF x = x1 at C1 C2 l1
  have l3 : (plusF x2 five).length = 5 := by rw [plusF_len]; exact l2
  generalize plusF x2 five = y0 at P1 l3 ll ⊢
  refine calls_enter Tryz.func109 rfl Tryz.ntmps109 rfl s ?_
  repeat' (first|(refine ycf ?_;apply ybk;(·first|(first|exact tk_|(apply yad;(·rfl);(·exact yaz 0 rfl);(·rw [← hx];exact up64_len x))|(apply yad;(·rfl);(·exact yaz 1 rfl);(·rw [← hx];exact up64_len x))));(·rfl);(·rfl))|(refine ybg 0 rfl rfl rfl (w_sz8 hx) (w_fit8 hx (by rfl)) (w_one8 x) (ybh (w_all8 hx (by rfl))) rfl rfl ?_ ?_ ?_;(·(exact to_));(·(exact to_)))|refine t1_ ?_|(refine ta_ ?_;intro _)|((fail_if_success (refine ybi rfl ?_));refine ybj rfl ?_ ?_<;>(intro ht;rw [ht];first|replace ht := oet_ ht|replace ht := oef_ ht|skip))|(refine ych ?_;first|(refine ybw rfl ?_ ?_<;>intro ht)|(refine ybx rfl ?_ ?_<;>intro ht)))
  (refine ycn (ycp Tryz.func120 rfl (by kernel_rfl) rfl) (C1) rfl rfl rfl ?_ ?_; (· (exact to_)))
  repeat' (first|(refine ycf ?_;apply ybk;(·first|(first|exact tk_|(apply yad;(·rfl);(·exact yaz 0 rfl);(·rw [← hx];exact up64_len x))|(apply yad;(·rfl);(·exact yaz 1 rfl);(·rw [← hx];exact up64_len x))));(·rfl);(·rfl))|(refine ybg 0 rfl rfl rfl (w_sz8 hx) (w_fit8 hx (by rfl)) (w_one8 x) (ybh (w_all8 hx (by rfl))) rfl rfl ?_ ?_ ?_;(·(exact to_));(·(exact to_)))|refine t1_ ?_|(refine ta_ ?_;intro _)|((fail_if_success (refine ybi rfl ?_));refine ybj rfl ?_ ?_<;>(intro ht;rw [ht];first|replace ht := oet_ ht|replace ht := oef_ ht|skip))|(refine ych ?_;first|(refine ybw rfl ?_ ?_<;>intro ht)|(refine ybx rfl ?_ ?_<;>intro ht)))
  (refine ycn (ycp Tryz.func120 rfl (by kernel_rfl) rfl) (C2) rfl rfl rfl ?_ ?_; (· (exact to_)))
  repeat' (first|(refine ycf ?_;apply ybk;(·first|(first|exact tk_|(apply yad;(·rfl);(·exact yaz 1 rfl);(·rw [← l2];exact up64_len x2))|(exact qv_build_arr (cs := up64 five) rfl rfl)));(·rfl);(·rfl))|(refine ybg 1 rfl rfl rfl (w_sz8 l2) (w_fit8 l2 (by show (up64 x).toArray.size = 5;rw [List.size_toArray, up64_len, hx])) (w_one8 x2) (ybh (w_all8 l2 (by show (up64 x).length = 5;rw [up64_len, hx]))) rfl rfl ?_ ?_ ?_;(·(exact to_));(·(exact to_)))|refine t1_ ?_|(refine ta_ ?_;intro _)|((fail_if_success (refine ybi rfl ?_));refine ybj rfl ?_ ?_<;>(intro ht;rw [ht];first|replace ht := oet_ ht|replace ht := oef_ ht|skip))|(refine ych ?_;first|(refine ybw rfl ?_ ?_<;>intro ht)|(refine ybx rfl ?_ ?_<;>intro ht)))
  (refine ycn (ycp Tryz.func106 rfl (by kernel_rfl) rfl) (P1) rfl rfl rfl ?_ ?_; (· (exact to_)))
  repeat' (first|(refine ycf ?_;apply ybk;(·first|(first|exact tk_|(apply yad;(·rfl);(·exact yaz 1 rfl);(·rw [← l2];exact up64_len x2))|(exact qv_build_arr (cs := up64 five) rfl rfl)));(·rfl);(·rfl))|(refine ybg 0 rfl rfl rfl (w_sz8 l3) (w_fit8 l3 (by rfl)) (w_one8 y0) (ybh (w_all8 l3 (by rfl))) rfl rfl ?_ ?_ ?_;(·(exact to_));(·(exact to_)))|refine t1_ ?_|(refine ta_ ?_;intro _)|((fail_if_success (refine ybi rfl ?_));refine ybj rfl ?_ ?_<;>(intro ht;rw [ht];first|replace ht := oet_ ht|replace ht := oef_ ht|skip))|(refine ych ?_;first|(refine ybw rfl ?_ ?_<;>intro ht)|(refine ybx rfl ?_ ?_<;>intro ht)))
  rename_i bx br by'
  refine cx_loop (X := Nat) (fun k => [(1, .pointer (some ⟨bx, 0, none⟩)), (2, .pointer (some ⟨br, 0, none⟩)), (3, .pointer (some ⟨by', 0, none⟩)), (11, .int .i64 (k : Nat))]) (fun _ => h)
    (fun k => [Res.blk by' (.cells (up64 (lpass y0 k)).toArray 197 (0, 0)), Res.blk br (.cells (up64 [0, 0, 0, 0, 0]).toArray 197 (0, 0)), Res.blk bx (.cells (up64 x2).toArray 197 (0, 0))]) (fun k => k ≤ 4) (fun k => 4 - k) 0 (Nat.zero_le _) ts_ (fun _ s => s) ?_
  intro k hk
  have hkl := lpass_len y0 k
  by_cases hk4 : k < 4
  · have ek : lpass y0 (k + 1) = lstep (lpass y0 k) k := rfl
    generalize lpass y0 k = R at hkl ek ⊢
    have hkl : R.length = 5 := by omega
    have c0 := getD_at8 (l := R) (i := k) (by omega)
    have c1 := getD_at8 (l := R) (i := k + 1) (by omega)
    obtain ⟨s1, e1⟩ : ∃ s1, s1 = R.set (k + 1) (R.getD (k + 1) 0 + (R.getD k 0 >>> 26)) := ⟨_, rfl⟩
    have l1 : s1.length = 5 := by rw [e1, List.length_set, hkl]
    have c2 := getD_at8 (l := s1) (i := k) (by omega)
    have ek : lpass y0 (k + 1) = s1.set k (s1.getD k 0 &&& m26) := by rw [ek, e1]; rfl
    repeat' (first|(refine ycf ?_;apply ybk;(·first|(first|exact tk_|(refine qv_shrw (j := 26) rfl rfl rfl)|(apply qv_addw<;>rfl))|(apply yae;(·rfl);(·(first|exact cell_w8 (yaz 0 rfl) c1 (by omega)|exact cell_w8 (yaz 0 rfl) c0 (by omega)))));(·rfl);(·rfl))|(refine ybg 0 rfl rfl rfl rfl (fit_w8 (n := 5) (i := k + 1) hkl (by omega) (by omega)) rfl ((spl_w8 (i := k + 1) (by omega) (by omega)).trans (congrArg up64 e1.symm)) rfl rfl ?_ ?_ ?_;(·(exact to_));(·(exact to_)))|refine t1_ ?_|(refine ta_ ?_;intro _)|((fail_if_success (refine ybi rfl ?_));refine ybj rfl ?_ ?_<;>(intro ht;rw [ht];first|replace ht := oet_ ht|replace ht := oef_ ht|skip))|(refine ych ?_;first|(refine ybw rfl ?_ ?_<;>intro ht)|(refine ybx rfl ?_ ?_<;>intro ht)))
    refine cx_region_draw' rfl (by kernel_rfl) ?_
    repeat' (refine ycf ?_;(first|(first|(apply ybm;(·(first|(first|exact tk_|(refine qv_shrw (j := 26) rfl rfl rfl)|(apply qv_addw<;>rfl))|(apply yae;(·rfl);(·(first|exact cell_w8 (yaz 0 rfl) c1 (by omega)|exact cell_w8 (yaz 0 rfl) c0 (by omega))))|exact tq_));(·rfl);(·rfl);(·(exact th_)))|refine ybl rfl rfl ?_|((fail_if_success (refine ybi rfl ?_));refine ybj rfl ?_ ?_<;>(intro ht;rw [ht];first|replace ht := oet_ ht|replace ht := oef_ ht|skip))|(refine tb_ ?_ ?_ ?_;(·(exact to_));(·intro _;(exact to_));intro _)|(first|(refine ybg 0 rfl rfl rfl rfl (fit_w8 (n := 5) (i := k + 1) hkl (by omega) (by omega)) rfl ((spl_w8 (i := k + 1) (by omega) (by omega)).trans (congrArg up64 e1.symm)) rfl rfl ?_ ?_ ?_;(·(exact to_));(·(exact to_)))|(refine tqs_ ?_ ?_ ?_;(·(exact to_));(·(exact to_))))|(apply ybn;(·(first|(first|exact tk_|(refine qv_shrw (j := 26) rfl rfl rfl)|(apply qv_addw<;>rfl))|(apply yae;(·rfl);(·(first|exact cell_w8 (yaz 0 rfl) c1 (by omega)|exact cell_w8 (yaz 0 rfl) c0 (by omega))))|exact tq_));(·rfl);(·rfl);(·rfl);(·(exact to_))))|refine ycg ?_))
    repeat' (first|(refine ycf ?_;apply ybk;(·first|(first|exact tk_|(refine qv_andw (b := m26) rfl rfl rfl rfl))|(apply yae;(·rfl);(·(exact cell_w8 (yaz 0 rfl) c2 (by omega)))));(·rfl);(·rfl))|(refine ybg 0 rfl rfl rfl rfl (fit_w8 (n := 5) (i := k) l1 (by omega) (by omega)) rfl (spl_w8 (i := k) (by omega) (by omega)) rfl rfl ?_ ?_ ?_;(·(exact to_));(·(exact to_)))|refine t1_ ?_|(refine ta_ ?_;intro _)|((fail_if_success (refine ybi rfl ?_));refine ybj rfl ?_ ?_<;>(intro ht;rw [ht];first|replace ht := oet_ ht|replace ht := oef_ ht|skip))|(refine ych ?_;first|(refine ybw rfl ?_ ?_<;>intro ht)|(refine ybx rfl ?_ ?_<;>intro ht)))
    repeat' (first|(refine ycf ?_;apply ybk;(·first|(exact tk_));(·rfl);(·rfl))|refine t1_ ?_|(refine ta_ ?_;intro _)|((fail_if_success (refine ybi rfl ?_));refine ybj rfl ?_ ?_<;>(intro ht;rw [ht];first|replace ht := oet_ ht|replace ht := oef_ ht|skip))|(refine ych ?_;first|(refine ybw rfl ?_ ?_<;>intro ht)|(refine ybx rfl ?_ ?_<;>intro ht)))
    refine nx_round (k + 1) (by show k + 1 ≤ 4; omega) (by show 4 - (k + 1) < 4 - k; omega) ts_ (fun _ s => ?_)
    rw [ek]
    exact s
  · have ek4 : k = 4 := by omega
    subst ek4
    generalize lpass y0 4 = y at hkl ll ⊢
    have hyl : y.length = 5 := by omega
    have c4 := getD_at8 (l := y) (i := 4) (by omega)
    by_cases hz : y.getD 4 0 >>> 26 = 0#64
    · have hzn : ((y.getD 4 0 >>> 26).toNat : Int) = 0 := by rw [hz]; rfl
      rw [if_pos hz]
      repeat' (first|(refine ycf ?_;apply ybk;(·first|(first|exact tk_|(refine qv_shrw (j := 26) rfl rfl rfl)|(apply yad;(·rfl);(·exact yaz 2 rfl);(·rw [← l2];exact up64_len x2)))|(apply yae;(·rfl);(·(exact cell_w8 (yaz 0 rfl) c4 (by omega)))));(·rfl);(·rfl))|(refine ybg 1 rfl rfl rfl (w_sz8 l2) (w_fit8 l2 (by rfl)) (w_one8 x2) (ybh (w_all8 l2 (by rfl))) rfl rfl ?_ ?_ ?_;(·(exact to_));(·(exact to_)))|refine t1_ ?_|(refine ta_ ?_;intro _)|((fail_if_success (refine ybi rfl ?_));refine ybj rfl ?_ ?_<;>(intro ht;rw [ht];first|replace ht := oet_ ht|replace ht := oef_ ht|skip))|(refine ych ?_;first|(refine ybw rfl ?_ ?_<;>intro ht)|(refine ybx rfl ?_ ?_<;>intro ht)))
      exact nx_ret1 rfl (rv_cells rfl (yaz 1 rfl) (by rw [← l2]; exact up64_len x2)) (fun w' s' => ⟨rfl, s'.nil⟩)
    · have hzn : ¬ ((y.getD 4 0 >>> 26).toNat : Int) = 0 := fun e => hz (BitVec.eq_of_toNat_eq (by show (y.getD 4 0 >>> 26).toNat = 0; omega))
      rw [if_neg hz] at ll ⊢
      repeat' (first|(refine ycf ?_;apply ybk;(·first|(first|exact tk_|(refine qv_shrw (j := 26) rfl rfl rfl)|(refine qv_andw (b := m26) rfl rfl rfl rfl))|(apply yae;(·rfl);(·(exact cell_w8 (yaz 0 rfl) c4 (by omega)))));(·rfl);(·rfl))|(refine ybg 0 rfl rfl rfl rfl (fit_w8 (n := 5) (i := 4) hyl (by omega) (by omega)) rfl (spl_w8 (i := 4) (by omega) (by omega)) rfl rfl ?_ ?_ ?_;(·(exact to_));(·(exact to_)))|refine t1_ ?_|(refine ta_ ?_;intro _)|((fail_if_success (refine ybi rfl ?_));refine ybj rfl ?_ ?_<;>(intro ht;rw [ht];first|replace ht := oet_ ht|replace ht := oef_ ht|skip))|(refine ych ?_;first|(refine ybw rfl ?_ ?_<;>intro ht)|(refine ybx rfl ?_ ?_<;>intro ht)))
      generalize y.set 4 (y.getD 4 0 &&& m26) = p at ll ⊢
      have hl5 : p.length = 5 := by omega
      repeat' (first|(refine ycf ?_;apply ybk;(·first|(first|exact tk_|(apply yad;(·rfl);(·exact yaz 0 rfl);(·rw [← hl5];exact up64_len p))));(·rfl);(·rfl))|(refine ybg 1 rfl rfl rfl (w_sz8 hl5) (w_fit8 hl5 (by rfl)) (w_one8 p) (ybh (w_all8 hl5 (by rfl))) rfl rfl ?_ ?_ ?_;(·(exact to_));(·(exact to_)))|refine t1_ ?_|(refine ta_ ?_;intro _)|((fail_if_success (refine ybi rfl ?_));refine ybj rfl ?_ ?_<;>(intro ht;rw [ht];first|replace ht := oet_ ht|replace ht := oef_ ht|skip))|(refine ych ?_;first|(refine ybw rfl ?_ ?_<;>intro ht)|(refine ybx rfl ?_ ?_<;>intro ht)))
      exact nx_ret1 rfl (rv_cells rfl (yaz 1 rfl) (by rw [← hl5]; exact up64_len p)) (fun w' s' => ⟨rfl, s'.nil⟩)
def wlo (x : List W64) : W64 := (x.getD 0 0 ||| (x.getD 1 0 <<< 26)) ||| (x.getD 2 0 <<< 52)
def whi (x : List W64) : W64 := ((x.getD 2 0 >>> 12) ||| (x.getD 3 0 <<< 14)) ||| (x.getD 4 0 <<< 40)
theorem words_sp (x : List W64) (hx : x.length = 5) (h : View) (w : World) (s : St ⟨w, h, []⟩ h [] w) :
    Calls Tryz.prog 110 [.agg (up64 x).toArray].toArray w fun e w' => e = .returned (.tuple #[v64 (wlo x), v64 (whi x)]) ∧ St ⟨w, h, []⟩ h [] w' := by
  have c0 := getD_at8 (l := x) (i := 0) (by omega)
  have c1 := getD_at8 (l := x) (i := 1) (by omega)
  have c2 := getD_at8 (l := x) (i := 2) (by omega)
  have c3 := getD_at8 (l := x) (i := 3) (by omega)
  have c4 := getD_at8 (l := x) (i := 4) (by omega)
  unfold wlo whi
  refine calls_enter Tryz.func110 rfl Tryz.ntmps110 rfl s ?_
  repeat' (first|(refine ycf ?_;apply ybk;(·first|(first|exact tk_|(refine qv_shlw (j := 26) rfl rfl rfl rfl)|(refine qv_shlw (j := 52) rfl rfl rfl rfl)|(refine qv_shlw (j := 14) rfl rfl rfl rfl)|(refine qv_shlw (j := 40) rfl rfl rfl rfl)|(refine qv_shrw (j := 12) rfl rfl rfl)|(refine qv_orw rfl rfl rfl rfl))|(apply yae;(·rfl);(·(first|exact cell_w8 (yaz 0 rfl) c0 (by omega)|exact cell_w8 (yaz 0 rfl) c1 (by omega)|exact cell_w8 (yaz 0 rfl) c2 (by omega)|exact cell_w8 (yaz 0 rfl) c3 (by omega)|exact cell_w8 (yaz 0 rfl) c4 (by omega)))));(·rfl);(·rfl))|(refine ybg 0 rfl rfl rfl (w_sz8 hx) (w_fit8 hx (by rfl)) (w_one8 x) (ybh (w_all8 hx (by rfl))) rfl rfl ?_ ?_ ?_;(·(exact to_));(·(exact to_)))|refine t1_ ?_|(refine ta_ ?_;intro _)|((fail_if_success (refine ybi rfl ?_));refine ybj rfl ?_ ?_<;>(intro ht;rw [ht];first|replace ht := oet_ ht|replace ht := oef_ ht|skip))|(refine ych ?_;first|(refine ybw rfl ?_ ?_<;>intro ht)|(refine ybx rfl ?_ ?_<;>intro ht)))
  exact nx_ret2 rfl (rv_tmp rfl) (rv_tmp rfl) (fun w' s' => ⟨rfl, s'.nil⟩)
end Go.Proofs.YtaofgcahmfailaaGreatDoor
end

section
namespace Go.Ck
open Go
section
variable {P : Program} {n : Nat} {K : Bs} {F : List (Nat × Value)} {h : View} {L : List Res} {Q : Exit → Act → World → Prop}
variable {dst : Option Nat} {ty : Nat} {pos : String} {af : Array Edge} {gd : Option (Nat × Bool)}
theorem rx_noZero {g : Rg} {i : Nat} {r : List (Nat × Oper)} {f : FuncId} {fn : Func} {x : Operand} {T e m : Nat} {ps ats : Array TypeId} [tu : TyU P T (.slice e)] (hf : P.funcs[f]? = some fn) (hname : (fn.name == "runtime.NumGoroutine") = false)
    (hb : fn.body.isNone = true) (hnx : Extern.findNext fn = none) (he : Extern.find fn = some (Extern.BytealgMakeNoZero.makeNoZero ps #[T])) (hx : ev F x = some (.int .i64 m)) (hm : m ≤ 1000000)
    (hw : wantedF g.ops F ⟨dst, .call ⟨.value (.func f), #[x], ats⟩, ty, pos, af, gd⟩ = some true) (hd : okd n dst = true) (hl : g.lo i = true) (o1 : Owe g i h L) (o2 : ∀ b cs, Owe g i h (Res.blk b (.cells cs e (0, 0)) :: L))
    (hn : ∀ b (cs : Array Value), m ≤ cs.size → cs.size ≤ maxLen → RX P n K g r (putF dst (.slice (some ⟨b, 0, none⟩) m cs.size) F) h (Res.blk b (.cells cs e (0, 0)) :: L) Q) : RX P n K g ((i, ⟨dst, .call ⟨.value (.func f), #[x], ats⟩, ty, pos, af, gd⟩) :: r) F h L Q := by
  unfold RX at *
  intro a w fr s
  obtain ⟨cs, hrun, h1, h2⟩ := Lib.run_makeNoZero (P := P) w ps T e tu.u m (by omega)
  have s1 := s.drew.drew.alloc (.cells cs e (0, 0))
  refine .inr (.inr ⟨wantedF_ok fr hw, hl, o1.out s, ?_⟩)
  unfold Oper.wp
  have hex : (execOp a.eval ⟨dst, .call ⟨.value (.func f), #[x], ats⟩, ty, pos, af, gd⟩).run P w = .ok (.value (.slice (some ⟨w.heap.size, 0, none⟩) m cs.size)) (w.drew.drew.alloc (.cells cs e)) := by
    have hc := run_callFunc_extern (P := P) hf hname hb hnx he #[.int .i64 m] w
    rw [hrun] at hc
    have hfv : a.eval (.func f) = .func (.func f) #[] #[] := rfl
    simp [execOp, resolve, hfv, Deferred.ofValue, invoke, fr.ev hx, hc]
  rw [hex]
  exact ⟨(o2 _ _).out s1, hn _ cs h1 (h2 (by unfold maxLen; omega)) _ _ (fr.put hd _) s1⟩
theorem qv_slice_max {T e k : Nat} {x y z : Operand} {ad : Option Addr} {len cap : Nat} {ky kz : IntKind} {i m : Nat} [tu : TyU P T (.slice e)] [ts : TyS P e k] (hx : ev F x = some (.slice ad len cap)) (hy : ev F y = some (.int ky i)) (hz : ev F z = some (.int kz m)) (h0 : i ≤ m) (h1 : m ≤ cap) :
    QV P n F h L ⟨dst, .slice T x none (some y) (some z), ty, pos, af, gd⟩ (.slice ad i m) := .mk fun a w f s => by
  have h2 : (i : Int) ≤ (m : Int) := by omega
  have h3 : (m : Int) ≤ (cap : Int) := by omega
  simp [execOp, f.ev hx, f.ev hy, f.ev hz, Instr.sliceAt, Instr.slice, Instr.sliceBounds, Instr.sliceBound, asIntOf, run_underlying tu.u, ts.s, h0, h1, h2, h3]
  intro hc
  cases ad with
  | none => rfl
  | some ad => simp [Addr.add]
theorem qv_binc {op : BinOp} {T T' : Nat} {x y : Operand} {kx ky : IntKind} {i j : Int} {v : Value} (hx : ev F x = some (.int kx i)) (hy : ev F y = some (.int ky j)) (hg : ∀ w, (eqGuard op T x y (.int kx i) (.int ky j)).run P w = .ok () w) (hr : ∀ w, (binOp op T (.int kx i) (.int ky j)).run P w = .ok v w) :
    QV P n F h L ⟨dst, .binOp op T x y T', ty, pos, af, gd⟩ v := .mk fun a w f s => by
  simp [execOp, f.ev hx, f.ev hy, hg, hr]
end
theorem qv_slice_fromz {P : Program} {n : Nat} {F : List (Nat × Value)} {h : View} {L : List Res} {dst : Option Nat} {ty : Nat} {pos : String} {af : Array Edge} {gd : Option (Nat × Bool)} {T e k : Nat} {x y : Operand} {b len cap i : Nat} {ki : IntKind} [tu : TyU P T (.slice e)] [ts : TyS P e k] (hx : ev F x = some (.slice (some ⟨b, 0, none⟩) len cap)) (hy : ev F y = some (.int ki i)) (h1 : i ≤ len) (h2 : i < cap) :
    QV P n F h L ⟨dst, .slice T x (some y) none none, ty, pos, af, gd⟩ (.slice (some ⟨b, i * k, none⟩) (len - i) (cap - i)) := by
  have := qv_slice_from (P := P) (n := n) (h := h) (L := L) (dst := dst) (ty := ty) (pos := pos) (af := af) (gd := gd) (T := T) (e := e) (k := k) hx hy h1
  have e1 : cutF (some ⟨b, 0, none⟩) cap i k = some ⟨b, i * k, none⟩ := by
    unfold cutF
    rw [if_neg (by omega)]
    show some ((⟨b, 0, none⟩ : Addr).add (i * k)) = _
    rw [Addr.add_off, Nat.zero_add]
  rwa [e1] at this
end Go.Ck
end

section
namespace Go.Proofs.YtaofgcahmfailaaGreatDoor
open Go Go.Ck
set_option maxHeartbeats 4000000
theorem bGrow_sp (m : Nat) (hm : m ≤ 1000000) (h : View) (w : World) (s : St ⟨w, h, []⟩ h [] w) :
    Calls Tryz.prog 112 [.slice none 0 0, .int .i64 m].toArray w fun e w' => ∃ v, e = .returned v ∧ St ⟨w, h, []⟩ h [rowB v []] w' ∧ True := by
  refine calls_enter Tryz.func112 rfl Tryz.ntmps112 rfl s ?_
  repeat' (first|(refine ycf ?_;apply ybk;(·first|(first|(apply qv_cap;rfl)|(apply qv_slice_to;(·rfl);(·rfl);(·omega);(·omega))));(·rfl);(·rfl))|refine t1_ ?_|(refine ta_ ?_;intro _)|((fail_if_success (refine ybi rfl ?_));refine ybj rfl ?_ ?_<;>(intro ht;rw [ht];first|replace ht := oet_ ht|replace ht := oef_ ht|skip))|(refine ych ?_;first|(refine ybw rfl ?_ ?_<;>intro ht)|(refine ybx rfl ?_ ?_<;>intro ht)))
  · refine rx_row 5 1 ?_
    have hm0 : 0 < m := by omega
    have e1 : (m : Int) - (((0 : Nat) : Int) - ((0 : Nat) : Int)) = m := by omega
    rw [e1]
    refine rx_grow_nil 0 rfl rfl rfl hm0 rfl (by omega) (by unfold maxLen; omega) (by omega) rfl rfl rfl ybf (fun _ _ => ybf) ?_
    intro b cap hc1 hc2
    refine rx_cut 0 0 rfl (Nat.zero_le _) ?_
    repeat' (first|(refine ycf ?_;apply ybk;(·first|(first|(apply qv_cap;rfl)|(apply qv_slice_to;(·rfl);(·rfl);(·omega);(·omega))));(·rfl);(·rfl))|refine t1_ ?_|(refine ta_ ?_;intro _)|((fail_if_success (refine ybi rfl ?_));refine ybj rfl ?_ ?_<;>(intro ht;rw [ht];first|replace ht := oet_ ht|replace ht := oef_ ht|skip))|(refine ych ?_;first|(refine ybw rfl ?_ ?_<;>intro ht)|(refine ybx rfl ?_ ?_<;>intro ht)))
    refine nx_ret1 rfl (rv_tmp rfl) (fun w' s' => ⟨_, rfl, ?_, trivial⟩)
    exact s'
  · refine nx_ret1 rfl (rv_tmp rfl) (fun w' s' => ⟨_, rfl, ?_, trivial⟩)
    exact s'.rowNil _ _
def flatB (parts : List (Value × List Int)) (k : Nat) : List Int := (parts.take k).flatMap (·.2)
theorem flatB_succ {parts : List (Value × List Int)} {k : Nat} (hk : k < parts.length) : flatB parts (k + 1) = flatB parts k ++ parts[k].2 := by
  unfold flatB
  rw [List.take_succ_eq_append_getElem hk, List.flatMap_append]
  simp
theorem flatB_le {parts : List (Value × List Int)} {k : Nat} (hk : k ≤ parts.length) : (flatB parts k).length ≤ (flatB parts parts.length).length := by
  unfold flatB
  rw [List.take_length]
  conv => rhs; rw [← List.take_append_drop k parts]
  rw [List.flatMap_append, List.length_append]
  omega
theorem bConcat_sp (sv : Value) (parts : List (Value × List Int)) (h : View) (hs : Sc h 1 sv parts.length (parts.map (·.1))) (hp : ∀ p ∈ parts, Bs8 h p.1 p.2) (hlen : (flatB parts parts.length).length ≤ 1000000) (hpl : parts.length ≤ 1000000) (w : World) (s : St ⟨w, h, []⟩ h [] w) :
    Calls Tryz.prog 99 [sv].toArray w fun e w' => ∃ v, e = .returned v ∧ St ⟨w, h, []⟩ h [rowB v (flatB parts parts.length)] w' ∧ True := by
  obtain ⟨_, ad, cap, rfl, hcap, _⟩ := id hs
  refine calls_enter Tryz.func99 rfl Tryz.ntmps99 rfl s ?_
  repeat' (first|(refine ycf ?_;apply ybk;(·first|(first|(apply qv_cap;rfl)|(apply qv_slice_to;(·rfl);(·rfl);(·omega);(·omega))));(·rfl);(·rfl))|refine t1_ ?_|(refine ta_ ?_;intro _)|((fail_if_success (refine ybi rfl ?_));refine ybj rfl ?_ ?_<;>(intro ht;rw [ht];first|replace ht := oet_ ht|replace ht := oef_ ht|skip))|(refine ych ?_;first|(refine ybw rfl ?_ ?_<;>intro ht)|(refine ybx rfl ?_ ?_<;>intro ht)))
  refine cx_loop (X := Nat) (fun k => [(0, .slice ad parts.length cap), (3, .int .i64 (flatB parts k).length), (9, .slice ad parts.length cap), (10, .int .i64 parts.length), (11, .int .i64 k)]) (fun _ => h) (fun _ => []) (fun k => k ≤ parts.length) (fun k => parts.length - k) 0 (Nat.zero_le _) ts_ (fun _ s => s) ?_
  intro k hk
  by_cases hkl : k < parts.length
  · obtain ⟨bs, o, rfl⟩ := hs.ad (by omega) (by omega)
    have hel : ∀ L, CellAt h L bs (o + k * 1) parts[k].1 := fun L => (hs.cells (L := L)).cell (by simp [hkl])
    have hd := hp _ (List.getElem_mem hkl)
    obtain ⟨_, ad1, cap1, hv1, _, _⟩ := id hd
    have e1 := flatB_succ hkl
    have h1 := flatB_le (parts := parts) (k := k + 1) hkl
    have h2 : (flatB parts (k + 1)).length = (flatB parts k).length + parts[k].2.length := by rw [e1, List.length_append]
    rw [hv1] at hel
    repeat' (first|(refine ycf ?_;apply ybk;(·first|(first|(apply qv_cap;rfl)|(apply qv_slice_to;(·rfl);(·rfl);(·omega);(·omega)))|(apply yae;(·rfl);(·exact hel _)));(·rfl);(·rfl))|refine t1_ ?_|(refine ta_ ?_;intro _)|((fail_if_success (refine ybi rfl ?_));refine ybj rfl ?_ ?_<;>(intro ht;rw [ht];first|replace ht := oet_ ht|replace ht := oef_ ht|skip))|(refine ych ?_;first|(refine ybw rfl ?_ ?_<;>intro ht)|(refine ybx rfl ?_ ?_<;>intro ht)))
    · refine nx_round (k + 1) (by show k + 1 ≤ _; omega) (by show parts.length - (k + 1) < parts.length - k; omega) ?_ (fun _ s => s)
      rw [h2]
      exact ts_
    · omega
  · have ek : k = parts.length := by omega
    subst ek
    repeat' (first|(refine ycf ?_;apply ybk;(·first|(first|(apply qv_cap;rfl)|(apply qv_slice_to;(·rfl);(·rfl);(·omega);(·omega)))|(apply yae;(·rfl);(·exact hel _)));(·rfl);(·rfl))|refine t1_ ?_|(refine ta_ ?_;intro _)|((fail_if_success (refine ybi rfl ?_));refine ybj rfl ?_ ?_<;>(intro ht;rw [ht];first|replace ht := oet_ ht|replace ht := oef_ ht|skip))|(refine ych ?_;first|(refine ybw rfl ?_ ?_<;>intro ht)|(refine ybx rfl ?_ ?_<;>intro ht)))
    · omega
    (refine yco (ycp Tryz.func112 rfl (by kernel_rfl) rfl) (bGrow_sp (flatB parts parts.length).length hlen h) rfl rfl rfl ?_ ?_ ?_; (· (exact to_)); (· intro _ _ hle; (exact to_)); intro x px hle)
    repeat' (first|(refine ycf ?_;apply ybk;(·first|(first|(apply qv_cap;rfl)|(apply qv_slice_to;(·rfl);(·rfl);(·omega);(·omega)))|(apply yae;(·rfl);(·exact hel _)));(·rfl);(·rfl))|refine t1_ ?_|(refine ta_ ?_;intro _)|((fail_if_success (refine ybi rfl ?_));refine ybj rfl ?_ ?_<;>(intro ht;rw [ht];first|replace ht := oet_ ht|replace ht := oef_ ht|skip))|(refine ych ?_;first|(refine ybw rfl ?_ ?_<;>intro ht)|(refine ybx rfl ?_ ?_<;>intro ht)))
    have e0 : flatB parts 0 = [] := rfl
    refine cx_loop (X := Nat × Value) (fun y => [(6, y.2), (25, .slice ad parts.length cap), (26, .int .i64 parts.length), (27, .int .i64 y.1)]) (fun _ => h) (fun y => [rowB y.2 (flatB parts y.1)]) (fun y => y.1 ≤ parts.length) (fun y => parts.length - y.1) (0, x) (Nat.zero_le _) ts_ (fun _ s => s) ?_
    rintro ⟨k, v⟩ hk
    replace hk : k ≤ parts.length := hk
    dsimp only
    by_cases hkl : k < parts.length
    · obtain ⟨bs, o, rfl⟩ := hs.ad (by omega) (by omega)
      have hel : ∀ L, CellAt h L bs (o + k * 1) parts[k].1 := fun L => (hs.cells (L := L)).cell (by simp [hkl])
      have hd := hp _ (List.getElem_mem hkl)
      obtain ⟨_, ad1, cap1, hv1, _, _⟩ := id hd
      have e1 := flatB_succ hkl
      have h1 := flatB_le (parts := parts) (k := k + 1) hkl
      have h2 : (flatB parts (k + 1)).length = (flatB parts k).length + parts[k].2.length := by rw [e1, List.length_append]
      rw [hv1] at hel hd
      repeat' (first|(refine ycf ?_;apply ybk;(·first|(first|(apply qv_cap;rfl)|(apply qv_slice_to;(·rfl);(·rfl);(·omega);(·omega)))|(apply yae;(·rfl);(·exact hel _)));(·rfl);(·rfl))|refine t1_ ?_|(refine ta_ ?_;intro _)|((fail_if_success (refine ybi rfl ?_));refine ybj rfl ?_ ?_<;>(intro ht;rw [ht];first|replace ht := oet_ ht|replace ht := oef_ ht|skip))|(refine ych ?_;first|(refine ybw rfl ?_ ?_<;>intro ht)|(refine ybx rfl ?_ ?_<;>intro ht)))
      · refine rx_append_sc (sz := 1) 0 rfl rfl rfl hd (bcs_one _) rfl (by omega) (by unfold maxLen; omega) (by omega) rfl rfl rfl ybf (fun _ => ybf) ?_
        intro v2 _
        repeat' (first|(refine ycf ?_;apply ybk;(·first|(first|(apply qv_cap;rfl)|(apply qv_slice_to;(·rfl);(·rfl);(·omega);(·omega)))|(apply yae;(·rfl);(·exact hel _)));(·rfl);(·rfl))|refine t1_ ?_|(refine ta_ ?_;intro _)|((fail_if_success (refine ybi rfl ?_));refine ybj rfl ?_ ?_<;>(intro ht;rw [ht];first|replace ht := oet_ ht|replace ht := oef_ ht|skip))|(refine ych ?_;first|(refine ybw rfl ?_ ?_<;>intro ht)|(refine ybx rfl ?_ ?_<;>intro ht)))
        refine nx_round (k + 1, v2) (by show k + 1 ≤ _; omega) (by show parts.length - (k + 1) < parts.length - k; omega) ts_ (fun _ s => ?_)
        dsimp only
        unfold rowB
        rw [h2, e1, bcs_app]
        exact s
      · omega
    · have ek : k = parts.length := by omega
      subst ek
      repeat' (first|(refine ycf ?_;apply ybk;(·first|(first|(apply qv_cap;rfl)|(apply qv_slice_to;(·rfl);(·rfl);(·omega);(·omega)))|(apply yae;(·rfl);(·exact hel _)));(·rfl);(·rfl))|refine t1_ ?_|(refine ta_ ?_;intro _)|((fail_if_success (refine ybi rfl ?_));refine ybj rfl ?_ ?_<;>(intro ht;rw [ht];first|replace ht := oet_ ht|replace ht := oef_ ht|skip))|(refine ych ?_;first|(refine ybw rfl ?_ ?_<;>intro ht)|(refine ybx rfl ?_ ?_<;>intro ht)))
      · omega
      refine nx_ret1 rfl (rv_tmp rfl) (fun w' s' => ⟨_, rfl, ?_, trivial⟩)
      exact s'
end Go.Proofs.YtaofgcahmfailaaGreatDoor
end

section
namespace Go.Proofs.YtaofgcahmfailaaGreatDoor
open Go Go.Ck
set_option maxHeartbeats 4000000
def padZ (n : Nat) : Nat := (119 - n % 64) % 64
def padF (b : List Int) : List Int := b ++ [128] ++ List.replicate (padZ b.length) 0 ++ num8 (8 * b.length)
def blocksF (p : List Int) : Nat → List W32
  | 0 => shH
  | k + 1 => mixF (blocksF p k) ((p.drop (64 * k)).take 64)
def shaF (b : List Int) : List Int := (blocksF (padF b) ((padF b).length / 64)).flatMap fun x => num4 x.toNat
theorem blocksF_len (p : List Int) : ∀ k, (blocksF p k).length = 8
  | 0 => rfl
  | k + 1 => mixF_len _ (blocksF_len p k)
theorem padF_len (b : List Int) : (padF b).length % 64 = 0 ∧ (padF b).length = b.length + 1 + padZ b.length + 8 := by
  have : (padF b).length = b.length + 1 + padZ b.length + 8 := by simp [padF, num8_len]; omega
  refine ⟨?_, this⟩
  rw [this]
  unfold padZ
  omega
theorem padF_bytes {b : List Int} (hb : Bytes b) : Bytes (padF b) := fun x hx => by
  unfold padF at hx
  rcases List.mem_append.1 hx with hx | hx
  · rcases List.mem_append.1 hx with hx | hx
    · rcases List.mem_append.1 hx with hx | hx
      · exact hb x hx
      · rw [List.mem_singleton.1 hx]; decide
    · rw [(List.mem_replicate.1 hx).2]; decide
  · exact putLow_bytes' _ _ x hx
theorem flatB_bytes {parts : List (Value × List Int)} (h : ∀ p ∈ parts, Bytes p.2) : Bytes (flatB parts parts.length) := fun x hx => by
  unfold flatB at hx
  obtain ⟨p, hp, hx⟩ := List.mem_flatMap.1 hx
  exact h p (List.mem_of_mem_take hp) x hx
theorem shaSum_sp (sv : Value) (parts : List (Value × List Int)) (h : View) (hs : Sc h 1 sv parts.length (parts.map (·.1))) (hp : ∀ p ∈ parts, Bs8 h p.1 p.2) (hby : ∀ p ∈ parts, Bytes p.2) (hlen : (flatB parts parts.length).length ≤ 900000) (hpl : parts.length ≤ 1000000) (hg : ShG h) (w : World) (s : St ⟨w, h, []⟩ h [] w) :
    Calls Tryz.prog 87 [sv].toArray w fun e w' => e = .returned (.agg (bcs (shaF (flatB parts parts.length))).toArray) ∧ St ⟨w, h, []⟩ h [] w' := by
  refine calls_enter Tryz.func87 rfl Tryz.ntmps87 rfl s ?_
  repeat' (first|refine tw_ ?_|(refine ta_ ?_;intro _)|((fail_if_success (refine ybi rfl ?_));refine ybj rfl ?_ ?_<;>(intro ht;rw [ht];first|replace ht := oet_ ht|replace ht := oef_ ht|skip))|(refine ych ?_;first|(refine ybw rfl ?_ ?_<;>intro ht)|(refine ybx rfl ?_ ?_<;>intro ht)))
  (refine yco (ycp Tryz.func99 rfl (by kernel_rfl) rfl) (bConcat_sp sv parts h hs hp (by omega) hpl) rfl rfl rfl ?_ ?_ ?_; (· (exact to_)); (· intro _ _ hle; (exact to_)); intro x px hle)
  repeat' (first|refine tw_ ?_|(refine ta_ ?_;intro _)|((fail_if_success (refine ybi rfl ?_));refine ybj rfl ?_ ?_<;>(intro ht;rw [ht];first|replace ht := oet_ ht|replace ht := oef_ ht|skip))|(refine ych ?_;first|(refine ybw rfl ?_ ?_<;>intro ht)|(refine ybx rfl ?_ ?_<;>intro ht)))
  rename_i b2
  generalize hbb : flatB parts parts.length = b at hlen ⊢
  refine rx_rowsl 0 rfl ?_
  rintro ad cap rfl
  have hw : IntKind.u64.wrap (b.length : Int) = (b.length : Int) := wrap_u64 (by omega) (by omega)
  repeat' (first|(refine ycf ?_;apply ybk;(·first|(first|(refine qv_convert_int' rfl hw)));(·rfl);(·rfl))|refine t1_ ?_|(refine ta_ ?_;intro _)|((fail_if_success (refine ybi rfl ?_));refine ybj rfl ?_ ?_<;>(intro ht;rw [ht];first|replace ht := oet_ ht|replace ht := oef_ ht|skip))|(refine ych ?_;first|(refine ybw rfl ?_ ?_<;>intro ht)|(refine ybx rfl ?_ ?_<;>intro ht)))
  refine rx_append (sz := 1) 1 rfl rfl rfl (yaz 0 rfl) rfl (bcs_one [128]) rfl (by omega) (by unfold maxLen; omega) (by omega) rfl rfl rfl ybf (fun _ => ybf) ?_
  intro v1 _
  repeat' (first|refine tw_ ?_|(refine ta_ ?_;intro _)|((fail_if_success (refine ybi rfl ?_));refine ybj rfl ?_ ?_<;>(intro ht;rw [ht];first|replace ht := oet_ ht|replace ht := oef_ ht|skip))|(refine ych ?_;first|(refine ybw rfl ?_ ?_<;>intro ht)|(refine ybx rfl ?_ ?_<;>intro ht)))
  refine cx_loop (X := Nat × Value) (fun y => [(2, .pointer (some ⟨b2, 0, none⟩)), (3, y.2), (4, .int .u64 (b.length : Nat))]) (fun _ => h) (fun y => [rowB y.2 (b ++ [128] ++ List.replicate y.1 0), Res.blk b2 (.cells (bcs (List.replicate 32 0)).toArray 25 (0, 0))])
    (fun y => y.1 ≤ padZ b.length) (fun y => padZ b.length - y.1) (0, v1) (Nat.zero_le _) ts_ (fun _ s => ?_) ?_
  · dsimp only
    rw [List.replicate_zero, List.append_nil]
    unfold rowB
    rw [List.length_append, bcs_app]
    exact s.tl
  rintro ⟨k, v⟩ hk
  replace hk : k ≤ padZ b.length := hk
  dsimp only
  have hpz : padZ b.length < 64 := by unfold padZ; omega
  have hpm : (b.length + 1 + padZ b.length) % 64 = 56 := by unfold padZ; omega
  have hln : (b ++ [128] ++ List.replicate k (0 : Int)).length = b.length + 1 + k := by simp; omega
  by_cases hkz : k < padZ b.length
  · have hrem : (((b ++ [128] ++ List.replicate k (0 : Int)).length : Nat) : Int).tmod 64 = (((b.length + 1 + k) % 64 : Nat) : Int) := by rw [hln]; rfl
    have hne : (b.length + 1 + k) % 64 ≠ 56 := by unfold padZ at hkz; omega
    refine cx_rowsl 0 rfl ?_
    rintro ad1 cap1 rfl
    repeat' (first|(refine ycf ?_;apply ybk;(·first|(first|(refine qv_remr rfl rfl (by decide) hrem)|exact tk_));(·rfl);(·rfl))|refine t1_ ?_|(refine ta_ ?_;intro _)|((fail_if_success (refine ybi rfl ?_));refine ybj rfl ?_ ?_<;>(intro ht;rw [ht];first|replace ht := oet_ ht|replace ht := oef_ ht|skip))|(refine ych ?_;first|(refine ybw rfl ?_ ?_<;>intro ht)|(refine ybx rfl ?_ ?_<;>intro ht)))
    refine rx_append (sz := 1) 1 rfl rfl rfl (yaz 0 rfl) rfl (bcs_one [0]) rfl (by omega) (by unfold maxLen; omega) (by omega) rfl rfl rfl ybf (fun _ => ybf) ?_
    intro v2 _
    repeat' (first|refine tw_ ?_|(refine ta_ ?_;intro _)|((fail_if_success (refine ybi rfl ?_));refine ybj rfl ?_ ?_<;>(intro ht;rw [ht];first|replace ht := oet_ ht|replace ht := oef_ ht|skip))|(refine ych ?_;first|(refine ybw rfl ?_ ?_<;>intro ht)|(refine ybx rfl ?_ ?_<;>intro ht)))
    refine nx_round (k + 1, v2) (by show k + 1 ≤ _; omega) (by show padZ b.length - (k + 1) < padZ b.length - k; omega) ts_ (fun _ s => ?_)
    dsimp only
    rw [List.replicate_succ', ← List.append_assoc]
    unfold rowB
    rw [List.length_append, bcs_app]
    exact s.tl
  · have ek : k = padZ b.length := by omega
    subst ek
    have hrem : (((b ++ [128] ++ List.replicate (padZ b.length) (0 : Int)).length : Nat) : Int).tmod 64 = 56 := by
      rw [hln, show (((b.length + 1 + padZ b.length : Nat) : Int)).tmod 64 = (((b.length + 1 + padZ b.length) % 64 : Nat) : Int) from rfl, hpm]
      rfl
    refine cx_rowsl 0 rfl ?_
    rintro ad1 cap1 rfl
    repeat' (first|(refine ycf ?_;apply ybk;(·first|(first|(refine qv_remr rfl rfl (by decide) hrem)|exact tk_));(·rfl);(·rfl))|refine t1_ ?_|(refine ta_ ?_;intro _)|((fail_if_success (refine ybi rfl ?_));refine ybj rfl ?_ ?_<;>(intro ht;rw [ht];first|replace ht := oet_ ht|replace ht := oef_ ht|skip))|(refine ych ?_;first|(refine ybw rfl ?_ ?_<;>intro ht)|(refine ybx rfl ?_ ?_<;>intro ht)))
    have hsh : IntKind.u64.wrap ((b.length : Int) * 2 ^ 3) = 8 * (b.length : Int) := by
      have e : (2 : Int) ^ 3 = 8 := by decide
      rw [e, Int.mul_comm]
      exact wrap_u64 (by omega) (by omega)
    repeat' (first|(refine ycf ?_;apply ybk;(·first|(first|(refine qv_shl (j := 3) rfl rfl (by decide) hsh)));(·rfl);(·rfl))|refine t1_ ?_|(refine ta_ ?_;intro _)|((fail_if_success (refine ybi rfl ?_));refine ybj rfl ?_ ?_<;>(intro ht;rw [ht];first|replace ht := oet_ ht|replace ht := oef_ ht|skip))|(refine ych ?_;first|(refine ybw rfl ?_ ?_<;>intro ht)|(refine ybx rfl ?_ ?_<;>intro ht)))
    have hp8 := putLow_len 8 (8 * (b.length : Int))
    (refine yco (ycp Tryz.func74 rfl (by kernel_rfl) rfl) (PutHigh_sp (8 * (b.length : Int)) 8 ⟨by omega, by omega⟩ (by omega) (by omega) h) rfl rfl rfl ?_ ?_ ?_; (· (exact to_)); (· intro _ _ hle; (exact to_)); intro x px hle)
    refine rx_rowform 0 rfl (fun _ h1 _ => (by rw [List.length_reverse] at h1; omega)) ?_
    rintro g cap2 rfl
    repeat' (first|(refine ycf ?_;apply ybk;(·first|(first|(refine qv_shl (j := 3) rfl rfl (by decide) hsh)));(·rfl);(·rfl))|refine t1_ ?_|(refine ta_ ?_;intro _)|((fail_if_success (refine ybi rfl ?_));refine ybj rfl ?_ ?_<;>(intro ht;rw [ht];first|replace ht := oet_ ht|replace ht := oef_ ht|skip))|(refine ych ?_;first|(refine ybw rfl ?_ ?_<;>intro ht)|(refine ybx rfl ?_ ?_<;>intro ht)))
    refine rx_append (sz := 1) 1 rfl rfl rfl (row_cells 0 rfl) (by rw [bcs_len, Nat.mul_one]) (bcs_one _) rfl (by omega) (by unfold maxLen; rw [List.length_reverse]; omega) (by rw [List.length_reverse]; omega) rfl rfl rfl ybf (fun _ => ybf) ?_
    intro v2 _
    refine rx_perm (perm_at (k := 1) rfl) ?_
    refine rx_persist rfl fun h1 hle1 hsp => ?_
    have hP : Bs8 h1 v2 (padF b) := by
      unfold Bs8
      have e : (padF b).length = (b ++ [128] ++ List.replicate (padZ b.length) (0 : Int)).length + (putLow 8 (8 * (b.length : Int))).reverse.length := by unfold padF; rw [List.length_append]; rfl
      rw [e, show bcs (padF b) = bcs (b ++ [128] ++ List.replicate (padZ b.length) (0 : Int)) ++ bcs (putLow 8 (8 * (b.length : Int))).reverse by unfold padF; rw [bcs_app]; rfl]
      exact hsp
    have hg1 := hg.mono hle1
    obtain ⟨_, eS, fzS, hgS⟩ := id hg1
    have hcS : ∀ L, Cells h1 L ⟨0, 0, none⟩ (up32 shH) := fun L => cells_view (cs := (up32 shH).toArray) hgS
    have h8 : shH.length = 8 := rfl
    have hpl2 := padF_len b
    have hpb : Bytes (padF b) := padF_bytes (by rw [← hbb]; exact flatB_bytes hby)
    have e0 : blocksF (padF b) 0 = shH := rfl
    generalize hpF : padF b = p at hP hpl2 hpb e0 ⊢
    repeat' (first|(refine ycf ?_;apply ybk;(·first|(apply yad;(·rfl);(·exact hcS _);(·rfl)));(·rfl);(·rfl))|(refine ybg 0 rfl rfl rfl (w_sz h8) (w_fit h8 (by rfl)) (w_one shH) (ybh (w_all h8 (by rfl))) rfl rfl ?_ ?_ ?_;(·(exact to_));(·(exact to_)))|refine t1_ ?_|(refine ta_ ?_;intro _)|((fail_if_success (refine ybi rfl ?_));refine ybj rfl ?_ ?_<;>(intro ht;rw [ht];first|replace ht := oet_ ht|replace ht := oef_ ht|skip))|(refine ych ?_;first|(refine ybw rfl ?_ ?_<;>intro ht)|(refine ybx rfl ?_ ?_<;>intro ht)))
    rename_i b5
    obtain ⟨_, adp, capp, rfl, hcapp, _⟩ := id hP
    refine cx_loop (X := Nat × Option Addr × Nat) (fun y => [(2, .pointer (some ⟨b2, 0, none⟩)), (3, .slice y.2.1 (p.length - 64 * y.1) y.2.2), (5, .pointer (some ⟨b5, 0, none⟩))]) (fun _ => h1)
      (fun y => [Res.blk b5 (.cells (up32 (blocksF p y.1)).toArray 188 (0, 0)), Res.blk b2 (.cells (bcs (List.replicate 32 0)).toArray 25 (0, 0))])
      (fun y => 64 * y.1 ≤ p.length ∧ Bs8 h1 (.slice y.2.1 (p.length - 64 * y.1) y.2.2) (p.drop (64 * y.1))) (fun y => p.length - 64 * y.1) (0, adp, capp) ⟨by omega, by simpa using hP⟩ ts_ (fun _ s => ?_) ?_
    · dsimp only
      rw [e0]
      exact (s.perm (List.Perm.swap _ _ _)).tl
    rintro ⟨k, ad3, cap3⟩ ⟨hk, hv⟩
    dsimp only at hk hv ⊢
    have hbl := blocksF_len p k
    have hlen : (p.drop (64 * k)).length = p.length - 64 * k := by simp
    by_cases hkl : 64 * k < p.length
    · have hge : 64 ≤ p.length - 64 * k := by omega
      have hv2 : Bs8 h1 (.slice ad3 (p.drop (64 * k)).length cap3) (p.drop (64 * k)) := by rw [hlen]; exact hv
      have hT : Bs8 h1 (.slice ad3 64 cap3) ((p.drop (64 * k)).take 64) := by
        have e64 : ((p.drop (64 * k)).take 64).length = 64 := by simp; omega
        have := sc_take hv2 (j := 64) (by omega)
        unfold Bs8
        rw [e64]
        simpa [bcs] using this
      have hD : Bs8 h1 (.slice (cutF ad3 cap3 64 1) (p.length - 64 * (k + 1)) (cap3 - 64)) (p.drop (64 * (k + 1))) := by
        have := sc_drop hv2 (by decide) (j := 64) (by omega)
        have e1 : (p.drop (64 * (k + 1))).length = p.length - 64 * (k + 1) := by simp
        unfold Bs8
        rw [e1]
        have e2 : bcs (p.drop (64 * (k + 1))) = (bcs (p.drop (64 * k))).drop (64 * 1) := by simp [bcs, List.drop_drop]; congr 1
        rw [e2, show p.length - 64 * (k + 1) = (p.drop (64 * k)).length - 64 by rw [hlen]; omega]
        exact this
      have M := mix_sp (blocksF p k) _ _ hbl (bytes_take (bytes_drop hpb (64 * k)) 64) (by simp; omega) h1 hT hg1
      rw [show mixF (blocksF p k) ((p.drop (64 * k)).take 64) = blocksF p (k + 1) from rfl] at M
      have hbl2 := blocksF_len p (k + 1)
      generalize hnx : blocksF p (k + 1) = nx at M hbl2
      generalize blocksF p k = cu at M hbl
      have hcap3 : p.length - 64 * k ≤ cap3 := by
        obtain ⟨_, _, cc, e7, hc, _⟩ := id hv2
        injection e7 with _ _ e9
        omega
      repeat' (first|(refine ycf ?_;apply ybk;(·first|(first|exact tk_|(apply yad;(·rfl);(·exact yaz 0 rfl);(·exact w_sz hbl))|(apply qv_slice_to;(·rfl);(·rfl);(·omega);(·omega))|(refine qv_slice_from (i := 64) rfl rfl (by omega))));(·rfl);(·rfl))|(refine ybg 0 rfl rfl rfl (w_sz hbl2) (w_fit hbl2 (w_sz hbl)) (w_one nx) (ybh (w_all hbl2 (w_sz hbl))) rfl rfl ?_ ?_ ?_;(·(exact to_));(·(exact to_)))|refine t1_ ?_|(refine ta_ ?_;intro _)|((fail_if_success (refine ybi rfl ?_));refine ybj rfl ?_ ?_<;>(intro ht;rw [ht];first|replace ht := oet_ ht|replace ht := oef_ ht|skip))|(refine ych ?_;first|(refine ybw rfl ?_ ?_<;>intro ht)|(refine ybx rfl ?_ ?_<;>intro ht)))
      refine cx_region_draw' rfl (by kernel_rfl) ?_
      repeat' (refine ycf ?_;(first|(first|(apply ybm;(·(first|(first|exact tk_|(apply yad;(·rfl);(·exact yaz 0 rfl);(·exact w_sz hbl))|(apply qv_slice_to;(·rfl);(·rfl);(·omega);(·omega))|(refine qv_slice_from (i := 64) rfl rfl (by omega)))|exact tq_));(·rfl);(·rfl);(·(exact th_)))|refine ybl rfl rfl ?_|((fail_if_success (refine ybi rfl ?_));refine ybj rfl ?_ ?_<;>(intro ht;rw [ht];first|replace ht := oet_ ht|replace ht := oef_ ht|skip))|(refine tb_ ?_ ?_ ?_;(·(exact to_));(·intro _;(exact to_));intro _)|(first|(refine ybg 0 rfl rfl rfl (w_sz hbl2) (w_fit hbl2 (w_sz hbl)) (w_one nx) (ybh (w_all hbl2 (w_sz hbl))) rfl rfl ?_ ?_ ?_;(·(exact to_));(·(exact to_)))|(refine tqs_ ?_ ?_ ?_;(·(exact to_));(·(exact to_))))|(apply ybn;(·(first|(first|exact tk_|(apply yad;(·rfl);(·exact yaz 0 rfl);(·exact w_sz hbl))|(apply qv_slice_to;(·rfl);(·rfl);(·omega);(·omega))|(refine qv_slice_from (i := 64) rfl rfl (by omega)))|exact tq_));(·rfl);(·rfl);(·rfl);(·(exact to_))))|refine ycg ?_))
      (refine ycn (ycp Tryz.func100 rfl (by kernel_rfl) rfl) (M) rfl rfl rfl ?_ ?_; (· (exact to_)))
      repeat' (refine ycf ?_;(first|(first|(apply ybm;(·(first|(first|exact tk_|(apply yad;(·rfl);(·exact yaz 0 rfl);(·exact w_sz hbl))|(apply qv_slice_to;(·rfl);(·rfl);(·omega);(·omega))|(refine qv_slice_from (i := 64) rfl rfl (by omega)))|exact tq_));(·rfl);(·rfl);(·(exact th_)))|refine ybl rfl rfl ?_|((fail_if_success (refine ybi rfl ?_));refine ybj rfl ?_ ?_<;>(intro ht;rw [ht];first|replace ht := oet_ ht|replace ht := oef_ ht|skip))|(refine tb_ ?_ ?_ ?_;(·(exact to_));(·intro _;(exact to_));intro _)|(first|(refine ybg 0 rfl rfl rfl (w_sz hbl2) (w_fit hbl2 (w_sz hbl)) (w_one nx) (ybh (w_all hbl2 (w_sz hbl))) rfl rfl ?_ ?_ ?_;(·(exact to_));(·(exact to_)))|(refine tqs_ ?_ ?_ ?_;(·(exact to_));(·(exact to_))))|(apply ybn;(·(first|(first|exact tk_|(apply yad;(·rfl);(·exact yaz 0 rfl);(·exact w_sz hbl))|(apply qv_slice_to;(·rfl);(·rfl);(·omega);(·omega))|(refine qv_slice_from (i := 64) rfl rfl (by omega)))|exact tq_));(·rfl);(·rfl);(·rfl);(·(exact to_))))|refine ycg ?_))
      repeat' (first|(refine ycf ?_;apply ybk;(·first|(first|exact tk_|(apply yad;(·rfl);(·exact yaz 0 rfl);(·exact w_sz hbl))|(apply qv_slice_to;(·rfl);(·rfl);(·omega);(·omega))|(refine qv_slice_from (i := 64) rfl rfl (by omega))));(·rfl);(·rfl))|refine t1_ ?_|(refine ta_ ?_;intro _)|((fail_if_success (refine ybi rfl ?_));refine ybj rfl ?_ ?_<;>(intro ht;rw [ht];first|replace ht := oet_ ht|replace ht := oef_ ht|skip))|(refine ych ?_;first|(refine ybw rfl ?_ ?_<;>intro ht)|(refine ybx rfl ?_ ?_<;>intro ht)))
      refine nx_round (k + 1, cutF ad3 cap3 64 1, cap3 - 64) ⟨by show 64 * (k + 1) ≤ p.length; omega, hD⟩ (by show p.length - 64 * (k + 1) < p.length - 64 * k; omega) ?_ (fun _ s => by dsimp only; rw [hnx]; exact s)
      dsimp only
      rw [show p.length - 64 * (k + 1) = p.length - 64 * k - 64 by omega]
      exact ts_
    · have ek : k = p.length / 64 := by omega
      subst ek
      generalize hR : blocksF p (p.length / 64) = R at hbl ⊢
      repeat' (first|(refine ycf ?_;apply ybk;(·first|(first|exact tk_|(apply yad;(·rfl);(·exact yaz 0 rfl);(·exact w_sz hbl))));(·rfl);(·rfl))|refine t1_ ?_|(refine ta_ ?_;intro _)|((fail_if_success (refine ybi rfl ?_));refine ybj rfl ?_ ?_<;>(intro ht;rw [ht];first|replace ht := oet_ ht|replace ht := oef_ ht|skip))|(refine ych ?_;first|(refine ybw rfl ?_ ?_<;>intro ht)|(refine ybx rfl ?_ ?_<;>intro ht)))
      refine cx_row 5 1 ?_
      refine cx_loop (X := Nat × Value) (fun y => [(2, .pointer (some ⟨b2, 0, none⟩)), (6, y.2), (39, .agg (up32 R).toArray), (40, .int .i64 (y.1 : Nat))]) (fun _ => h1)
        (fun y => [rowB y.2 ((R.take y.1).flatMap fun x => num4 x.toNat), Res.blk b5 (.cells (up32 R).toArray 188 (0, 0)), Res.blk b2 (.cells (bcs (List.replicate 32 0)).toArray 25 (0, 0))])
        (fun y => y.1 ≤ 8) (fun y => 8 - y.1) (0, .slice none 0 0) (Nat.zero_le _) ts_ (fun _ s => s) ?_
      rintro ⟨i, vo⟩ hi
      replace hi : i ≤ 8 := hi
      dsimp only
      have hfl : ((R.take i).flatMap fun x => num4 x.toNat).length = 4 * i := by
        have : ∀ l : List W32, (l.flatMap fun x => num4 x.toNat).length = 4 * l.length := fun l => by
          induction l with
          | nil => rfl
          | cons a l ih => rw [List.flatMap_cons, List.length_append, num4_len, ih, List.length_cons]; omega
        rw [this, List.length_take]; omega
      by_cases hi8 : i < 8
      · have hgx := getD_at (l := R) (i := i) (by omega)
        have hfs : ((R.take (i + 1)).flatMap fun x => num4 x.toNat) = ((R.take i).flatMap fun x => num4 x.toNat) ++ num4 (R.getD i 0).toNat := by
          rw [flat_succ (by omega : i < R.length)]
          congr 3
          simp [List.getD_eq_getElem?_getD, hbl, hi8]
        generalize R.getD i 0 = xi at hgx hfs
        have hidx : (up32 R).toArray[((i : Int)).toNat * 1]? = some (v32 xi) := by
          rw [Nat.mul_one, Int.toNat_natCast, List.getElem?_toArray]
          exact up32_at hgx
        have hp4 := putLow_len 4 (xi.toNat : Int)
        have hx32 := xi.isLt
        repeat' (first|(refine ycf ?_;apply ybk;(·first|(first|exact tk_|(apply qv_index;(·rfl);(·rfl);(·omega);(·omega);(·exact hidx))|(refine qv_widen (m' := 64) rfl rfl rfl (by omega))));(·rfl);(·rfl))|refine t1_ ?_|(refine ta_ ?_;intro _)|((fail_if_success (refine ybi rfl ?_));refine ybj rfl ?_ ?_<;>(intro ht;rw [ht];first|replace ht := oet_ ht|replace ht := oef_ ht|skip))|(refine ych ?_;first|(refine ybw rfl ?_ ?_<;>intro ht)|(refine ybx rfl ?_ ?_<;>intro ht)))
        (refine yco (ycp Tryz.func74 rfl (by kernel_rfl) rfl) (PutHigh_sp (xi.toNat : Int) 4 ⟨by omega, by omega⟩ (by omega) (by omega) h1) rfl rfl rfl ?_ ?_ ?_; (· (exact to_)); (· intro _ _ hle; (exact to_)); intro x px hle)
        refine rx_rowform 0 rfl (fun _ h1 _ => (by rw [List.length_reverse] at h1; omega)) ?_
        rintro g4 cap4 rfl
        repeat' (first|refine tw_ ?_|(refine ta_ ?_;intro _)|((fail_if_success (refine ybi rfl ?_));refine ybj rfl ?_ ?_<;>(intro ht;rw [ht];first|replace ht := oet_ ht|replace ht := oef_ ht|skip))|(refine ych ?_;first|(refine ybw rfl ?_ ?_<;>intro ht)|(refine ybx rfl ?_ ?_<;>intro ht)))
        refine rx_append (sz := 1) 1 rfl rfl rfl (row_cells 0 rfl) (by rw [bcs_len, Nat.mul_one]) (bcs_one _) rfl (by omega) (by unfold maxLen; rw [List.length_reverse]; omega) (by rw [List.length_reverse]; omega) rfl rfl rfl ybf (fun _ => ybf) ?_
        intro v5 _
        repeat' (first|refine tw_ ?_|(refine ta_ ?_;intro _)|((fail_if_success (refine ybi rfl ?_));refine ybj rfl ?_ ?_<;>(intro ht;rw [ht];first|replace ht := oet_ ht|replace ht := oef_ ht|skip))|(refine ych ?_;first|(refine ybw rfl ?_ ?_<;>intro ht)|(refine ybx rfl ?_ ?_<;>intro ht)))
        refine nx_round (i + 1, v5) (by show i + 1 ≤ 8; omega) (by show 8 - (i + 1) < 8 - i; omega) ts_ (fun _ s => ?_)
        dsimp only
        rw [hfs]
        unfold rowB
        rw [List.length_append, bcs_app]
        exact s.tl
      · have ei : i = 8 := by omega
        subst ei
        rw [List.take_of_length_le (by omega)] at hfl ⊢
        repeat' (first|(refine ycf ?_;apply ybk;(·first|(exact tk_));(·rfl);(·rfl))|refine t1_ ?_|(refine ta_ ?_;intro _)|((fail_if_success (refine ybi rfl ?_));refine ybj rfl ?_ ?_<;>(intro ht;rw [ht];first|replace ht := oet_ ht|replace ht := oef_ ht|skip))|(refine ych ?_;first|(refine ybw rfl ?_ ?_<;>intro ht)|(refine ybx rfl ?_ ?_<;>intro ht)))
        refine rx_rowform 0 rfl (fun _ h1 _ => (by omega)) ?_
        rintro g6 cap6 rfl
        have hsha : shaF b = R.flatMap fun x => num4 x.toNat := by
          unfold shaF
          rw [hpF, hR]
        rw [hsha]
        generalize (R.flatMap fun x => num4 (x.toNat : Int)) = out at hfl ⊢
        have hol : (bcs out).length = 32 := by rw [bcs_len]; omega
        repeat' (first|(refine ycf ?_;apply ybk;(·first|(first|(refine qv_arrptr rfl (by omega))|(apply yad;(·rfl);(·exact row_cells 0 rfl);(·exact hol))));(·rfl);(·rfl))|(refine ybg 2 rfl rfl rfl (by show (bcs out).toArray.size = 32;simpa using hol) (by show 0 + (bcs out).toArray.size ≤ _;simp [bcs_len];omega) (List.all_eq_true.2 (bcs_one out)) (ybh (by show (bcs out).length = _;rw [hol];rfl)) rfl rfl ?_ ?_ ?_;(·(exact to_));(·(exact to_)))|refine t1_ ?_|(refine ta_ ?_;intro _)|((fail_if_success (refine ybi rfl ?_));refine ybj rfl ?_ ?_<;>(intro ht;rw [ht];first|replace ht := oet_ ht|replace ht := oef_ ht|skip))|(refine ych ?_;first|(refine ybw rfl ?_ ?_<;>intro ht)|(refine ybx rfl ?_ ?_<;>intro ht)))
        exact nx_ret1 rfl (rv_cells rfl (yaz 2 rfl) (by show (bcs out).toArray.toList.length = 32; simpa using hol)) (fun w' s' => ⟨rfl, s'.nil.base⟩)
end Go.Proofs.YtaofgcahmfailaaGreatDoor
end
