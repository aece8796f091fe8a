/-
  Part 10 of a proof: EvB EvD VaP VaQ EvF CkStr CkMark VaS.
  Conditions: each theorem states its own.
-/
import Derived.Laws.IdiomStrings
import Derived.Test.YtgeepceieckooaaGreatDoorEvGPM9
section
namespace Go.Proofs.YtgeepceieckooaaGreatDoor
open Go Go.Ck
set_option maxRecDepth 100000
set_option maxHeartbeats 4000000
set_option linter.unusedVariables false
theorem r11Epoch_sp (n : Int) (h : View) (w : World) (s : St ⟨w, h, []⟩ h [] w) :
    Calls Tryz.prog 64 [.int .i64 n].toArray w fun e w' => e = .returned (.bool (decide (1 ≤ n ∧ n ≤ 1048576))) ∧ St ⟨w, h, []⟩ h [] w' := by
  refine calls_enter Tryz.func64 rfl Tryz.ntmps64 rfl s ?_
  by_cases h1 : 1 ≤ n ∧ n ≤ 1048576
  · rw [decide_eq_true h1]
    repeat' (first|(refine ycf ?_;apply ybk;(·first|(exact tk_));(·rfl);(·rfl))|refine t1_ ?_|(refine ta_ ?_;intro _)|((fail_if_success (refine ybi rfl ?_));refine ybj rfl ?_ ?_<;>(intro ht;rw [ht];first|replace ht := oet_ ht|replace ht := oef_ ht|skip))|(refine ych ?_;first|(refine ybw rfl ?_ ?_<;>intro ht)|(refine ybx rfl ?_ ?_<;>intro ht)))
    exact nx_ret1 rfl (rv_tmp rfl) (fun w' s' => ⟨rfl, s'⟩)
  · rw [decide_eq_false h1]
    by_cases h2 : 1 ≤ n
    · repeat' (first|(refine ycf ?_;apply ybk;(·first|(exact tk_));(·rfl);(·rfl))|refine t1_ ?_|(refine ta_ ?_;intro _)|((fail_if_success (refine ybi rfl ?_));refine ybj rfl ?_ ?_<;>(intro ht;rw [ht];first|replace ht := oet_ ht|replace ht := oef_ ht|skip))|(refine ych ?_;first|(refine ybw rfl ?_ ?_<;>intro ht)|(refine ybx rfl ?_ ?_<;>intro ht)))
      exact nx_ret1 rfl (rv_tmp rfl) (fun w' s' => ⟨rfl, s'⟩)
    · repeat' (first|(refine ycf ?_;apply ybk;(·first|(exact tk_));(·rfl);(·rfl))|refine t1_ ?_|(refine ta_ ?_;intro _)|((fail_if_success (refine ybi rfl ?_));refine ybj rfl ?_ ?_<;>(intro ht;rw [ht];first|replace ht := oet_ ht|replace ht := oef_ ht|skip))|(refine ych ?_;first|(refine ybw rfl ?_ ?_<;>intro ht)|(refine ybx rfl ?_ ?_<;>intro ht)))
      exact nx_ret1 rfl (rv_tmp rfl) (fun w' s' => ⟨rfl, s'⟩)
theorem r11Counter_sp (n : Int) (h : View) (w : World) (s : St ⟨w, h, []⟩ h [] w) :
    Calls Tryz.prog 65 [.int .i64 n].toArray w fun e w' => e = .returned (.bool (decide (1 ≤ n ∧ n ≤ 4611686018427387904))) ∧ St ⟨w, h, []⟩ h [] w' := by
  refine calls_enter Tryz.func65 rfl Tryz.ntmps65 rfl s ?_
  by_cases h1 : 1 ≤ n ∧ n ≤ 4611686018427387904
  · rw [decide_eq_true h1]
    repeat' (first|(refine ycf ?_;apply ybk;(·first|(exact tk_));(·rfl);(·rfl))|refine t1_ ?_|(refine ta_ ?_;intro _)|((fail_if_success (refine ybi rfl ?_));refine ybj rfl ?_ ?_<;>(intro ht;rw [ht];first|replace ht := oet_ ht|replace ht := oef_ ht|skip))|(refine ych ?_;first|(refine ybw rfl ?_ ?_<;>intro ht)|(refine ybx rfl ?_ ?_<;>intro ht)))
    exact nx_ret1 rfl (rv_tmp rfl) (fun w' s' => ⟨rfl, s'⟩)
  · rw [decide_eq_false h1]
    by_cases h2 : 1 ≤ n
    · repeat' (first|(refine ycf ?_;apply ybk;(·first|(exact tk_));(·rfl);(·rfl))|refine t1_ ?_|(refine ta_ ?_;intro _)|((fail_if_success (refine ybi rfl ?_));refine ybj rfl ?_ ?_<;>(intro ht;rw [ht];first|replace ht := oet_ ht|replace ht := oef_ ht|skip))|(refine ych ?_;first|(refine ybw rfl ?_ ?_<;>intro ht)|(refine ybx rfl ?_ ?_<;>intro ht)))
      exact nx_ret1 rfl (rv_tmp rfl) (fun w' s' => ⟨rfl, s'⟩)
    · repeat' (first|(refine ycf ?_;apply ybk;(·first|(exact tk_));(·rfl);(·rfl))|refine t1_ ?_|(refine ta_ ?_;intro _)|((fail_if_success (refine ybi rfl ?_));refine ybj rfl ?_ ?_<;>(intro ht;rw [ht];first|replace ht := oet_ ht|replace ht := oef_ ht|skip))|(refine ych ?_;first|(refine ybw rfl ?_ ?_<;>intro ht)|(refine ybx rfl ?_ ?_<;>intro ht)))
      exact nx_ret1 rfl (rv_tmp rfl) (fun w' s' => ⟨rfl, s'⟩)
theorem r11Client_sp (n : Int) (h : View) (w : World) (s : St ⟨w, h, []⟩ h [] w) :
    Calls Tryz.prog 66 [.int .i64 n].toArray w fun e w' => e = .returned (.bool (decide (1 ≤ n ∧ n ≤ 16))) ∧ St ⟨w, h, []⟩ h [] w' := by
  refine calls_enter Tryz.func66 rfl Tryz.ntmps66 rfl s ?_
  by_cases h1 : 1 ≤ n ∧ n ≤ 16
  · rw [decide_eq_true h1]
    repeat' (first|(refine ycf ?_;apply ybk;(·first|(exact tk_));(·rfl);(·rfl))|refine t1_ ?_|(refine ta_ ?_;intro _)|((fail_if_success (refine ybi rfl ?_));refine ybj rfl ?_ ?_<;>(intro ht;rw [ht];first|replace ht := oet_ ht|replace ht := oef_ ht|skip))|(refine ych ?_;first|(refine ybw rfl ?_ ?_<;>intro ht)|(refine ybx rfl ?_ ?_<;>intro ht)))
    exact nx_ret1 rfl (rv_tmp rfl) (fun w' s' => ⟨rfl, s'⟩)
  · rw [decide_eq_false h1]
    by_cases h2 : 1 ≤ n
    · repeat' (first|(refine ycf ?_;apply ybk;(·first|(exact tk_));(·rfl);(·rfl))|refine t1_ ?_|(refine ta_ ?_;intro _)|((fail_if_success (refine ybi rfl ?_));refine ybj rfl ?_ ?_<;>(intro ht;rw [ht];first|replace ht := oet_ ht|replace ht := oef_ ht|skip))|(refine ych ?_;first|(refine ybw rfl ?_ ?_<;>intro ht)|(refine ybx rfl ?_ ?_<;>intro ht)))
      exact nx_ret1 rfl (rv_tmp rfl) (fun w' s' => ⟨rfl, s'⟩)
    · repeat' (first|(refine ycf ?_;apply ybk;(·first|(exact tk_));(·rfl);(·rfl))|refine t1_ ?_|(refine ta_ ?_;intro _)|((fail_if_success (refine ybi rfl ?_));refine ybj rfl ?_ ?_<;>(intro ht;rw [ht];first|replace ht := oet_ ht|replace ht := oef_ ht|skip))|(refine ych ?_;first|(refine ybw rfl ?_ ?_<;>intro ht)|(refine ybx rfl ?_ ?_<;>intro ht)))
      exact nx_ret1 rfl (rv_tmp rfl) (fun w' s' => ⟨rfl, s'⟩)
def renv (ek : List Int) (q : Hdr) (se : List Int) : List Value := [.string (bstr ek), .int .i64 q.ep, .int .i64 q.ct, .int .i64 q.cl, .int .i64 q.nu, .string (bstr q.past), .string (bstr se)]
theorem rhead_sp (ek : List Int) (q : Hdr) (se : List Int) (h : View) (w : World) (s : St ⟨w, h, []⟩ h [] w) :
    Calls Tryz.prog 31 [.agg (renv ek q se).toArray].toArray w fun e w' => e = .returned (.bool (decide q.ok)) ∧ St ⟨w, h, []⟩ h [] w' := by
  refine calls_enter Tryz.func31 rfl Tryz.ntmps31 rfl s ?_
  have W1 := r11Epoch_sp q.ep h
  have W2 := r11Counter_sp q.ct h
  have W3 := r11Client_sp q.cl h
  by_cases h1 : 1 ≤ q.ep ∧ q.ep ≤ 1048576
  · rw [decide_eq_true h1] at W1
    repeat' (first|(refine ycf ?_;apply ybk;(·first|(exact tk_));(·rfl);(·rfl))|refine t1_ ?_|(refine ta_ ?_;intro _)|((fail_if_success (refine ybi rfl ?_));refine ybj rfl ?_ ?_<;>(intro ht;rw [ht];first|replace ht := oet_ ht|replace ht := oef_ ht|skip))|(refine ych ?_;first|(refine ybw rfl ?_ ?_<;>intro ht)|(refine ybx rfl ?_ ?_<;>intro ht)))
    (refine ycn (ycp Tryz.func64 rfl (by kernel_rfl) rfl) (W1) rfl rfl rfl ?_ ?_; (· (exact to_)))
    by_cases h2 : 1 ≤ q.ct ∧ q.ct ≤ 4611686018427387904
    · rw [decide_eq_true h2] at W2
      repeat' (first|(refine ycf ?_;apply ybk;(·first|(exact tk_));(·rfl);(·rfl))|refine t1_ ?_|(refine ta_ ?_;intro _)|((fail_if_success (refine ybi rfl ?_));refine ybj rfl ?_ ?_<;>(intro ht;rw [ht];first|replace ht := oet_ ht|replace ht := oef_ ht|skip))|(refine ych ?_;first|(refine ybw rfl ?_ ?_<;>intro ht)|(refine ybx rfl ?_ ?_<;>intro ht)))
      (refine ycn (ycp Tryz.func65 rfl (by kernel_rfl) rfl) (W2) rfl rfl rfl ?_ ?_; (· (exact to_)))
      by_cases h3 : 1 ≤ q.cl ∧ q.cl ≤ 16
      · rw [decide_eq_true h3] at W3
        repeat' (first|(refine ycf ?_;apply ybk;(·first|(exact tk_));(·rfl);(·rfl))|refine t1_ ?_|(refine ta_ ?_;intro _)|((fail_if_success (refine ybi rfl ?_));refine ybj rfl ?_ ?_<;>(intro ht;rw [ht];first|replace ht := oet_ ht|replace ht := oef_ ht|skip))|(refine ych ?_;first|(refine ybw rfl ?_ ?_<;>intro ht)|(refine ybx rfl ?_ ?_<;>intro ht)))
        (refine ycn (ycp Tryz.func66 rfl (by kernel_rfl) rfl) (W3) rfl rfl rfl ?_ ?_; (· (exact to_)))
        by_cases h4 : 1 ≤ q.nu
        · by_cases h5 : q.nu ≤ 1099511627776
          · have e : decide q.ok = decide ((q.past.length : Int) ≤ 4096) := by
              rw [decide_eq_decide]
              unfold Hdr.ok
              constructor
              · rintro ⟨_, _, _, _, h6⟩; omega
              · intro h6; exact ⟨h1, h2, h3, ⟨h4, h5⟩, by omega⟩
            rw [e]
            repeat' (first|(refine ycf ?_;apply ybk;(·first|(first|exact qv_len_bstr rfl|exact tk_));(·rfl);(·rfl))|refine t1_ ?_|(refine ta_ ?_;intro _)|((fail_if_success (refine ybi rfl ?_));refine ybj rfl ?_ ?_<;>(intro ht;rw [ht];first|replace ht := oet_ ht|replace ht := oef_ ht|skip))|(refine ych ?_;first|(refine ybw rfl ?_ ?_<;>intro ht)|(refine ybx rfl ?_ ?_<;>intro ht)))
            exact nx_ret1 rfl (rv_tmp rfl) (fun w' s' => ⟨rfl, s'.nil⟩)
          · rw [decide_eq_false (fun q : Hdr.ok _ => h5 q.2.2.2.1.2)]
            repeat' (first|(refine ycf ?_;apply ybk;(·first|(first|exact tk_));(·rfl);(·rfl))|refine t1_ ?_|(refine ta_ ?_;intro _)|((fail_if_success (refine ybi rfl ?_));refine ybj rfl ?_ ?_<;>(intro ht;rw [ht];first|replace ht := oet_ ht|replace ht := oef_ ht|skip))|(refine ych ?_;first|(refine ybw rfl ?_ ?_<;>intro ht)|(refine ybx rfl ?_ ?_<;>intro ht)))
            exact nx_ret1 rfl (rv_tmp rfl) (fun w' s' => ⟨rfl, s'.nil⟩)
        · rw [decide_eq_false (fun q : Hdr.ok _ => h4 q.2.2.2.1.1)]
          repeat' (first|(refine ycf ?_;apply ybk;(·first|(first|exact tk_));(·rfl);(·rfl))|refine t1_ ?_|(refine ta_ ?_;intro _)|((fail_if_success (refine ybi rfl ?_));refine ybj rfl ?_ ?_<;>(intro ht;rw [ht];first|replace ht := oet_ ht|replace ht := oef_ ht|skip))|(refine ych ?_;first|(refine ybw rfl ?_ ?_<;>intro ht)|(refine ybx rfl ?_ ?_<;>intro ht)))
          exact nx_ret1 rfl (rv_tmp rfl) (fun w' s' => ⟨rfl, s'.nil⟩)
      · rw [decide_eq_false h3] at W3
        rw [decide_eq_false (fun q : Hdr.ok _ => h3 q.2.2.1)]
        repeat' (first|(refine ycf ?_;apply ybk;(·first|(first|exact tk_));(·rfl);(·rfl))|refine t1_ ?_|(refine ta_ ?_;intro _)|((fail_if_success (refine ybi rfl ?_));refine ybj rfl ?_ ?_<;>(intro ht;rw [ht];first|replace ht := oet_ ht|replace ht := oef_ ht|skip))|(refine ych ?_;first|(refine ybw rfl ?_ ?_<;>intro ht)|(refine ybx rfl ?_ ?_<;>intro ht)))
        (refine ycn (ycp Tryz.func66 rfl (by kernel_rfl) rfl) (W3) rfl rfl rfl ?_ ?_; (· (exact to_)))
        repeat' (first|(refine ycf ?_;apply ybk;(·first|(first|exact tk_));(·rfl);(·rfl))|refine t1_ ?_|(refine ta_ ?_;intro _)|((fail_if_success (refine ybi rfl ?_));refine ybj rfl ?_ ?_<;>(intro ht;rw [ht];first|replace ht := oet_ ht|replace ht := oef_ ht|skip))|(refine ych ?_;first|(refine ybw rfl ?_ ?_<;>intro ht)|(refine ybx rfl ?_ ?_<;>intro ht)))
        exact nx_ret1 rfl (rv_tmp rfl) (fun w' s' => ⟨rfl, s'.nil⟩)
    · rw [decide_eq_false h2] at W2
      rw [decide_eq_false (fun q : Hdr.ok _ => h2 q.2.1)]
      repeat' (first|(refine ycf ?_;apply ybk;(·first|(first|exact tk_));(·rfl);(·rfl))|refine t1_ ?_|(refine ta_ ?_;intro _)|((fail_if_success (refine ybi rfl ?_));refine ybj rfl ?_ ?_<;>(intro ht;rw [ht];first|replace ht := oet_ ht|replace ht := oef_ ht|skip))|(refine ych ?_;first|(refine ybw rfl ?_ ?_<;>intro ht)|(refine ybx rfl ?_ ?_<;>intro ht)))
      (refine ycn (ycp Tryz.func65 rfl (by kernel_rfl) rfl) (W2) rfl rfl rfl ?_ ?_; (· (exact to_)))
      repeat' (first|(refine ycf ?_;apply ybk;(·first|(first|exact tk_));(·rfl);(·rfl))|refine t1_ ?_|(refine ta_ ?_;intro _)|((fail_if_success (refine ybi rfl ?_));refine ybj rfl ?_ ?_<;>(intro ht;rw [ht];first|replace ht := oet_ ht|replace ht := oef_ ht|skip))|(refine ych ?_;first|(refine ybw rfl ?_ ?_<;>intro ht)|(refine ybx rfl ?_ ?_<;>intro ht)))
      exact nx_ret1 rfl (rv_tmp rfl) (fun w' s' => ⟨rfl, s'.nil⟩)
  · rw [decide_eq_false h1] at W1
    rw [decide_eq_false (fun q : Hdr.ok _ => h1 q.1)]
    repeat' (first|(refine ycf ?_;apply ybk;(·first|(first|exact tk_));(·rfl);(·rfl))|refine t1_ ?_|(refine ta_ ?_;intro _)|((fail_if_success (refine ybi rfl ?_));refine ybj rfl ?_ ?_<;>(intro ht;rw [ht];first|replace ht := oet_ ht|replace ht := oef_ ht|skip))|(refine ych ?_;first|(refine ybw rfl ?_ ?_<;>intro ht)|(refine ybx rfl ?_ ?_<;>intro ht)))
    (refine ycn (ycp Tryz.func64 rfl (by kernel_rfl) rfl) (W1) rfl rfl rfl ?_ ?_; (· (exact to_)))
    repeat' (first|(refine ycf ?_;apply ybk;(·first|(first|exact tk_));(·rfl);(·rfl))|refine t1_ ?_|(refine ta_ ?_;intro _)|((fail_if_success (refine ybi rfl ?_));refine ybj rfl ?_ ?_<;>(intro ht;rw [ht];first|replace ht := oet_ ht|replace ht := oef_ ht|skip))|(refine ych ?_;first|(refine ybw rfl ?_ ?_<;>intro ht)|(refine ybx rfl ?_ ?_<;>intro ht)))
    exact nx_ret1 rfl (rv_tmp rfl) (fun w' s' => ⟨rfl, s'.nil⟩)
theorem rRight_sp (ek : List Int) (q : Hdr) (se : List Int) (hs : se.length ≤ 1000000) (he : ek.length ≤ 1000000) (h : View) (w : World) (s : St ⟨w, h, []⟩ h [] w) :
    Calls Tryz.prog 39 [.agg (renv ek q se).toArray].toArray w fun e w' => e = .returned (.bool (decide (q.ok ∧ ek.length = 32 ∧ 16 ≤ se.length ∧ se.length ≤ 8192))) ∧ St ⟨w, h, []⟩ h [] w' := by
  refine calls_enter Tryz.func39 rfl Tryz.ntmps39 rfl s ?_
  have W1 := rhead_sp ek q se h
  by_cases h1 : q.ok
  · rw [decide_eq_true h1] at W1
    repeat' (first|(refine ycf ?_;apply ybk;(·first|(first|exact qv_len_bstr rfl|exact tk_));(·rfl);(·rfl))|refine t1_ ?_|(refine ta_ ?_;intro _)|((fail_if_success (refine ybi rfl ?_));refine ybj rfl ?_ ?_<;>(intro ht;rw [ht];first|replace ht := oet_ ht|replace ht := oef_ ht|skip))|(refine ych ?_;first|(refine ybw rfl ?_ ?_<;>intro ht)|(refine ybx rfl ?_ ?_<;>intro ht)))
    (refine ycn (ycp Tryz.func31 rfl (by kernel_rfl) rfl) (W1) rfl rfl rfl ?_ ?_; (· (exact to_)))
    by_cases h2 : ek.length = 32
    · by_cases h3 : 16 ≤ se.length
      · by_cases h4 : se.length ≤ 8192
        · rw [decide_eq_true ⟨h1, h2, h3, h4⟩]
          repeat' (first|(refine ycf ?_;apply ybk;(·first|(first|exact qv_len_bstr rfl|exact tk_));(·rfl);(·rfl))|refine t1_ ?_|(refine ta_ ?_;intro _)|((fail_if_success (refine ybi rfl ?_));refine ybj rfl ?_ ?_<;>(intro ht;rw [ht];first|replace ht := oet_ ht|replace ht := oef_ ht|skip))|(refine ych ?_;first|(refine ybw rfl ?_ ?_<;>intro ht)|(refine ybx rfl ?_ ?_<;>intro ht)))
          exact nx_ret1 rfl (rv_tmp rfl) (fun w' s' => ⟨rfl, s'.nil⟩)
        · rw [decide_eq_false (fun q => h4 q.2.2.2)]
          repeat' (first|(refine ycf ?_;apply ybk;(·first|(first|exact qv_len_bstr rfl|exact tk_));(·rfl);(·rfl))|refine t1_ ?_|(refine ta_ ?_;intro _)|((fail_if_success (refine ybi rfl ?_));refine ybj rfl ?_ ?_<;>(intro ht;rw [ht];first|replace ht := oet_ ht|replace ht := oef_ ht|skip))|(refine ych ?_;first|(refine ybw rfl ?_ ?_<;>intro ht)|(refine ybx rfl ?_ ?_<;>intro ht)))
          exact nx_ret1 rfl (rv_tmp rfl) (fun w' s' => ⟨rfl, s'.nil⟩)
      · rw [decide_eq_false (fun q => h3 q.2.2.1)]
        repeat' (first|(refine ycf ?_;apply ybk;(·first|(first|exact qv_len_bstr rfl|exact tk_));(·rfl);(·rfl))|refine t1_ ?_|(refine ta_ ?_;intro _)|((fail_if_success (refine ybi rfl ?_));refine ybj rfl ?_ ?_<;>(intro ht;rw [ht];first|replace ht := oet_ ht|replace ht := oef_ ht|skip))|(refine ych ?_;first|(refine ybw rfl ?_ ?_<;>intro ht)|(refine ybx rfl ?_ ?_<;>intro ht)))
        exact nx_ret1 rfl (rv_tmp rfl) (fun w' s' => ⟨rfl, s'.nil⟩)
    · rw [decide_eq_false (fun q => h2 q.2.1)]
      repeat' (first|(refine ycf ?_;apply ybk;(·first|(first|exact qv_len_bstr rfl|exact tk_));(·rfl);(·rfl))|refine t1_ ?_|(refine ta_ ?_;intro _)|((fail_if_success (refine ybi rfl ?_));refine ybj rfl ?_ ?_<;>(intro ht;rw [ht];first|replace ht := oet_ ht|replace ht := oef_ ht|skip))|(refine ych ?_;first|(refine ybw rfl ?_ ?_<;>intro ht)|(refine ybx rfl ?_ ?_<;>intro ht)))
      exact nx_ret1 rfl (rv_tmp rfl) (fun w' s' => ⟨rfl, s'.nil⟩)
  · rw [decide_eq_false h1] at W1
    rw [decide_eq_false (fun q => h1 q.1)]
    repeat' (first|(refine ycf ?_;apply ybk;(·first|(first|exact qv_len_bstr rfl|exact tk_));(·rfl);(·rfl))|refine t1_ ?_|(refine ta_ ?_;intro _)|((fail_if_success (refine ybi rfl ?_));refine ybj rfl ?_ ?_<;>(intro ht;rw [ht];first|replace ht := oet_ ht|replace ht := oef_ ht|skip))|(refine ych ?_;first|(refine ybw rfl ?_ ?_<;>intro ht)|(refine ybx rfl ?_ ?_<;>intro ht)))
    (refine ycn (ycp Tryz.func31 rfl (by kernel_rfl) rfl) (W1) rfl rfl rfl ?_ ?_; (· (exact to_)))
    repeat' (first|(refine ycf ?_;apply ybk;(·first|(first|exact qv_len_bstr rfl|exact tk_));(·rfl);(·rfl))|refine t1_ ?_|(refine ta_ ?_;intro _)|((fail_if_success (refine ybi rfl ?_));refine ybj rfl ?_ ?_<;>(intro ht;rw [ht];first|replace ht := oet_ ht|replace ht := oef_ ht|skip))|(refine ych ?_;first|(refine ybw rfl ?_ ?_<;>intro ht)|(refine ybx rfl ?_ ?_<;>intro ht)))
    exact nx_ret1 rfl (rv_tmp rfl) (fun w' s' => ⟨rfl, s'.nil⟩)
end Go.Proofs.YtgeepceieckooaaGreatDoor
end

section
namespace Go.Proofs.YtgeepceieckooaaGreatDoor
open Go Go.Ck
set_option maxRecDepth 100000
set_option maxHeartbeats 4000000
set_option linter.unusedVariables false
theorem rERead_sp (l : List Int) (hb : Bytes l) (hl : l.length ≤ 900000) (h : View) (w : World) (s : St ⟨w, h, []⟩ h [] w) :
    Calls Tryz.prog 16 [.string (bstr l)].toArray w fun en w' => en = .returned (.tuple #[.agg (if rdOk l then (renv (rdK l).1 (rdQ l) (rdZ l).1).toArray else (renv [] (hdOf [] []) []).toArray), .bool (decide (rdOk l))]) ∧ St ⟨w, h, []⟩ h [] w' := by
  obtain ⟨o1, o2, o3, o4⟩ := rd_oks hb (by omega)
  refine calls_enter Tryz.func16 rfl Tryz.ntmps16 rfl s ?_
  repeat' (first|refine tw_ ?_|(refine ta_ ?_;intro _)|((fail_if_success (refine ybi rfl ?_));refine ybj rfl ?_ ?_<;>(intro ht;rw [ht];first|replace ht := oet_ ht|replace ht := oef_ ht|skip))|(refine ych ?_;first|(refine ybw rfl ?_ ?_<;>intro ht)|(refine ybx rfl ?_ ?_<;>intro ht)))
  (refine rx_call_m (ycp Tryz.func47 rfl (by kernel_rfl) rfl) (perm_at (k := 0) rfl) (rInFixed_sp _ l 0 32 hb (by omega) (by omega) h) rfl rfl rfl ?_ ?_ ?_; (· (exact to_)); (· intro _ _ hle; (exact to_)); intro x px hle)
  repeat' (first|refine tw_ ?_|(refine ta_ ?_;intro _)|((fail_if_success (refine ybi rfl ?_));refine ybj rfl ?_ ?_<;>(intro ht;rw [ht];first|replace ht := oet_ ht|replace ht := oef_ ht|skip))|(refine ych ?_;first|(refine ybw rfl ?_ ?_<;>intro ht)|(refine ybx rfl ?_ ?_<;>intro ht)))
  (refine rx_call_m (ycp Tryz.func48 rfl (by kernel_rfl) rfl) (perm_at (k := 1) rfl) (rNum_sp _ (rdN (rdK l).2 0).2.1 (rdN (rdK l).2 0).2.2 4611686018427387904 (rdN_ok o1 0).1.b (by omega) h) rfl rfl rfl ?_ ?_ ?_; (· (exact to_)); (· intro _ _ hle; (exact to_)); intro x px hle)
  repeat' (first|refine tw_ ?_|(refine ta_ ?_;intro _)|((fail_if_success (refine ybi rfl ?_));refine ybj rfl ?_ ?_<;>(intro ht;rw [ht];first|replace ht := oet_ ht|replace ht := oef_ ht|skip))|(refine ych ?_;first|(refine ybw rfl ?_ ?_<;>intro ht)|(refine ybx rfl ?_ ?_<;>intro ht)))
  (refine rx_call_m (ycp Tryz.func48 rfl (by kernel_rfl) rfl) (perm_at (k := 0) rfl) (rNum_sp _ (rdN (rdK l).2 1).2.1 (rdN (rdK l).2 1).2.2 4611686018427387904 (rdN_ok o1 1).1.b (by omega) h) rfl rfl rfl ?_ ?_ ?_; (· (exact to_)); (· intro _ _ hle; (exact to_)); intro x px hle)
  repeat' (first|refine tw_ ?_|(refine ta_ ?_;intro _)|((fail_if_success (refine ybi rfl ?_));refine ybj rfl ?_ ?_<;>(intro ht;rw [ht];first|replace ht := oet_ ht|replace ht := oef_ ht|skip))|(refine ych ?_;first|(refine ybw rfl ?_ ?_<;>intro ht)|(refine ybx rfl ?_ ?_<;>intro ht)))
  (refine rx_call_m (ycp Tryz.func48 rfl (by kernel_rfl) rfl) (perm_at (k := 0) rfl) (rNum_sp _ (rdN (rdK l).2 2).2.1 (rdN (rdK l).2 2).2.2 4611686018427387904 (rdN_ok o1 2).1.b (by omega) h) rfl rfl rfl ?_ ?_ ?_; (· (exact to_)); (· intro _ _ hle; (exact to_)); intro x px hle)
  repeat' (first|refine tw_ ?_|(refine ta_ ?_;intro _)|((fail_if_success (refine ybi rfl ?_));refine ybj rfl ?_ ?_<;>(intro ht;rw [ht];first|replace ht := oet_ ht|replace ht := oef_ ht|skip))|(refine ych ?_;first|(refine ybw rfl ?_ ?_<;>intro ht)|(refine ybx rfl ?_ ?_<;>intro ht)))
  (refine rx_call_m (ycp Tryz.func48 rfl (by kernel_rfl) rfl) (perm_at (k := 0) rfl) (rNum_sp _ (rdN (rdK l).2 3).2.1 (rdN (rdK l).2 3).2.2 4611686018427387904 (rdN_ok o1 3).1.b (by omega) h) rfl rfl rfl ?_ ?_ ?_; (· (exact to_)); (· intro _ _ hle; (exact to_)); intro x px hle)
  repeat' (first|refine tw_ ?_|(refine ta_ ?_;intro _)|((fail_if_success (refine ybi rfl ?_));refine ybj rfl ?_ ?_<;>(intro ht;rw [ht];first|replace ht := oet_ ht|replace ht := oef_ ht|skip))|(refine ych ?_;first|(refine ybw rfl ?_ ?_<;>intro ht)|(refine ybx rfl ?_ ?_<;>intro ht)))
  (refine rx_call_m (ycp Tryz.func49 rfl (by kernel_rfl) rfl) (perm_at (k := 0) rfl) (rInBytes_sp _ (rdH l).2.1 (rdH l).2.2 4096 o2.b (by omega) o2.l h) rfl rfl rfl ?_ ?_ ?_; (· (exact to_)); (· intro _ _ hle; (exact to_)); intro x px hle)
  repeat' (first|refine tw_ ?_|(refine ta_ ?_;intro _)|((fail_if_success (refine ybi rfl ?_));refine ybj rfl ?_ ?_<;>(intro ht;rw [ht];first|replace ht := oet_ ht|replace ht := oef_ ht|skip))|(refine ych ?_;first|(refine ybw rfl ?_ ?_<;>intro ht)|(refine ybx rfl ?_ ?_<;>intro ht)))
  (refine rx_call_m (ycp Tryz.func49 rfl (by kernel_rfl) rfl) (perm_at (k := 0) rfl) (rInBytes_sp _ (rdP l).2.1 (rdP l).2.2 8192 o3.b (by omega) o3.l h) rfl rfl rfl ?_ ?_ ?_; (· (exact to_)); (· intro _ _ hle; (exact to_)); intro x px hle)
  repeat' (first|refine tw_ ?_|(refine ta_ ?_;intro _)|((fail_if_success (refine ybi rfl ?_));refine ybj rfl ?_ ?_<;>(intro ht;rw [ht];first|replace ht := oet_ ht|replace ht := oef_ ht|skip))|(refine ych ?_;first|(refine ybw rfl ?_ ?_<;>intro ht)|(refine ybx rfl ?_ ?_<;>intro ht)))
  (refine rx_call_m (ycp Tryz.func50 rfl (by kernel_rfl) rfl) (perm_at (k := 0) rfl) (rEnd_sp _ (rdZ l).2.1 (rdZ l).2.2 h) rfl rfl rfl ?_ ?_ ?_; (· (exact to_)); (· intro _ _ hle; (exact to_)); intro x px hle)
  rename_i b2 bi _ _ _ be _ _ _ _ _ _ _ _ _ _ _ _ _ _ _ _ _ _
  refine rx_perm (L' := [rinR bi (rdZ l).2.1 (rdZ l).2.2, Res.blk be (.cells (renv (rdK l).1 (rdQ l) (rdZ l).1).toArray 28 (0, 0)), Res.blk b2 (.cells (renv [] (hdOf [] []) []).toArray 28 (0, 0))]) (.refl _) ?_
  have hen : endC ((rdZ l).2.1, (rdZ l).2.2) = endC (rdZ l).2 := rfl
  rw [hen]
  have hzl : (rdZ l).1.length ≤ 8192 := by
    have h1 := (o3.by (most := 8192) (by omega)).2.2
    have h1 : ((rdZ l).1.length : Int) ≤ 8192 := h1
    omega
  have hkl : (rdK l).1.length ≤ 32 := by
    rcases fix32 (l, 0) 32 with hk | hk
    · show (fixC (l, 0) 32).1.length ≤ 32; omega
    · show (fixC (l, 0) 32).1.length ≤ 32; rw [hk]; simp
  have R1 := rRight_sp (rdK l).1 (rdQ l) (rdZ l).1 (by omega) (by omega) h
  by_cases hE : endC (rdZ l).2 = 0
  · rw [hE]
    have hK := (rd13_took hb (by omega) hE).1
    repeat' (first|(refine ycf ?_;apply ybk;(·first|(exact tk_));(·rfl);(·rfl))|refine t1_ ?_|(refine ta_ ?_;intro _)|((fail_if_success (refine ybi rfl ?_));refine ybj rfl ?_ ?_<;>(intro ht;rw [ht];first|replace ht := oet_ ht|replace ht := oef_ ht|skip))|(refine ych ?_;first|(refine ybw rfl ?_ ?_<;>intro ht)|(refine ybx rfl ?_ ?_<;>intro ht)))
    (refine ycn (ycp Tryz.func39 rfl (by kernel_rfl) rfl) (R1) rfl rfl rfl ?_ ?_; (· (exact to_)))
    by_cases hR : (rdQ l).ok ∧ 16 ≤ (rdZ l).1.length ∧ (rdZ l).1.length ≤ 8192
    · have hok : rdOk l := ⟨hE, hR⟩
      rw [decide_eq_true (⟨hR.1, hK, hR.2⟩ : (rdQ l).ok ∧ (rdK l).1.length = 32 ∧ 16 ≤ (rdZ l).1.length ∧ (rdZ l).1.length ≤ 8192), if_pos hok, decide_eq_true hok]
      repeat' (first|(refine ycf ?_;apply ybk;(·first|(exact tk_));(·rfl);(·rfl))|refine t1_ ?_|(refine ta_ ?_;intro _)|((fail_if_success (refine ybi rfl ?_));refine ybj rfl ?_ ?_<;>(intro ht;rw [ht];first|replace ht := oet_ ht|replace ht := oef_ ht|skip))|(refine ych ?_;first|(refine ybw rfl ?_ ?_<;>intro ht)|(refine ybx rfl ?_ ?_<;>intro ht)))
      exact nx_ret2 rfl (rv_cells rfl (yaz 2 rfl) rfl) (rv_tmp rfl) (fun w' s' => ⟨rfl, s'.nil⟩)
    · have hok : ¬ rdOk l := fun q => hR q.2
      rw [decide_eq_false (fun q => hR ⟨q.1, q.2.2⟩ : ¬ ((rdQ l).ok ∧ (rdK l).1.length = 32 ∧ 16 ≤ (rdZ l).1.length ∧ (rdZ l).1.length ≤ 8192)), if_neg hok, decide_eq_false hok]
      repeat' (first|(refine ycf ?_;apply ybk;(·first|(exact tk_));(·rfl);(·rfl))|refine t1_ ?_|(refine ta_ ?_;intro _)|((fail_if_success (refine ybi rfl ?_));refine ybj rfl ?_ ?_<;>(intro ht;rw [ht];first|replace ht := oet_ ht|replace ht := oef_ ht|skip))|(refine ych ?_;first|(refine ybw rfl ?_ ?_<;>intro ht)|(refine ybx rfl ?_ ?_<;>intro ht)))
      exact nx_ret2 rfl (rv_cells rfl (yaz 2 rfl) rfl) (rv_tmp rfl) (fun w' s' => ⟨rfl, s'.nil⟩)
  · have hok : ¬ rdOk l := fun q => hE q.1
    rw [if_neg hok, decide_eq_false hok]
    repeat' (first|(refine ycf ?_;apply ybk;(·first|(exact tk_));(·rfl);(·rfl))|refine t1_ ?_|(refine ta_ ?_;intro _)|((fail_if_success (refine ybi rfl ?_));refine ybj rfl ?_ ?_<;>(intro ht;rw [ht];first|replace ht := oet_ ht|replace ht := oef_ ht|skip))|(refine ych ?_;first|(refine ybw rfl ?_ ?_<;>intro ht)|(refine ybx rfl ?_ ?_<;>intro ht)))
    exact nx_ret2 rfl (rv_cells rfl (yaz 2 rfl) rfl) (rv_tmp rfl) (fun w' s' => ⟨rfl, s'.nil⟩)
end Go.Proofs.YtgeepceieckooaaGreatDoor
end

section
namespace Go.Proofs.YtgeepceieckooaaGreatDoor
open Go Go.Ck
set_option maxRecDepth 100000
set_option maxHeartbeats 4000000
set_option linter.unusedVariables false
def vlF (l : List Int) : List Int × Bool × Int := if l.length = 1 ∧ l.getD 0 0 = 0 then ([], true, 0) else if 0 < l.length ∧ l.getD 0 0 = 1 then (l.drop 1, false, 0) else ([], false, 2)
def valF (p : List Int) : List Int × Bool × Int := if cutOk p then vlF (cutV p) else ([], false, 2)
theorem value_sp (v : Value) (p : List Int) (yb : Bytes p) (hl : p.length ≤ 900000) (h : View) (hb : Bs8 h v p) (w : World) (s : St ⟨w, h, []⟩ h [] w) :
    Calls Tryz.prog 38 [v].toArray w fun e w' => ∃ x : View × Value, e = .returned (.tuple #[x.2, .bool (valF p).2.1, .int .i64 (valF p).2.2]) ∧ St ⟨w, h, []⟩ x.1 [] w' ∧ Bs8 x.1 x.2 (valF p).1 := by
  obtain ⟨_, ad, cap, rfl, hcap, _⟩ := id hb
  have C1 := Cut_sp _ p yb hl h hb
  unfold valF
  generalize cutOk p = ok at C1 ⊢
  generalize cutV p = l at C1 ⊢
  refine calls_enter Tryz.func38 rfl Tryz.ntmps38 rfl s ?_
  repeat' (first|refine tw_ ?_|(refine ta_ ?_;intro _)|((fail_if_success (refine ybi rfl ?_));refine ybj rfl ?_ ?_<;>(intro ht;rw [ht];first|replace ht := oet_ ht|replace ht := oef_ ht|skip))|(refine ych ?_;first|(refine ybw rfl ?_ ?_<;>intro ht)|(refine ybx rfl ?_ ?_<;>intro ht)))
  (refine yco (ycp Tryz.func76 rfl (by kernel_rfl) rfl) (C1) rfl rfl rfl ?_ ?_ ?_; (· (exact to_)); (· intro _ _ hle; (exact to_)); intro x px hle)
  obtain ⟨h1, vl⟩ := x
  dsimp only at px ⊢
  cases ok with
  | false =>
    rw [if_neg (by simp)] at px
    rw [if_neg (by simp), if_neg (by simp)]
    repeat' (first|(refine ycf ?_;apply ybk;(·first|(exact tk_));(·rfl);(·rfl))|refine t1_ ?_|(refine ta_ ?_;intro _)|((fail_if_success (refine ybi rfl ?_));refine ybj rfl ?_ ?_<;>(intro ht;rw [ht];first|replace ht := oet_ ht|replace ht := oef_ ht|skip))|(refine ych ?_;first|(refine ybw rfl ?_ ?_<;>intro ht)|(refine ybx rfl ?_ ?_<;>intro ht)))
    exact nx_ret3 rfl (rv_tmp rfl) (rv_tmp rfl) (rv_tmp rfl) (fun w' s' => ⟨(h1, .slice none 0 0), rfl, s'.nil, Sc.nil _ _ _ _⟩)
  | true =>
    rw [if_pos rfl] at px
    rw [if_pos rfl, if_pos rfl]
    obtain ⟨_, adl, capl, rfl, hcapl, _⟩ := id px
    unfold vlF
    by_cases h0 : 0 < l.length
    · obtain ⟨bl, ol, rfl⟩ := px.ad (by omega) (by omega)
      have hc : ∀ L, CellAt h1 L bl (ol + 0 * 1) (.int .u8 (l.getD 0 0)) := fun L => (px.cells (L := L)).cell (by simp [bcs, h0])
      have hdrop : Bs8 h1 (.slice (cutF (some ⟨bl, ol, none⟩) capl 1 1) (l.length - 1) (capl - 1)) (l.drop 1) := by
        have := sc_drop (j := 1) px (by omega) (by omega)
        unfold Bs8
        rw [List.length_drop]
        simpa [bcs, List.map_drop] using this
      generalize l.getD 0 0 = a at hc ⊢
      by_cases h1' : l.length = 1
      · by_cases ha : a = 0
        · rw [if_pos ⟨h1', ha⟩]
          repeat' (first|(refine ycf ?_;apply ybk;(·first|(exact tk_)|(apply yae;(·rfl);(·(exact hc _))));(·rfl);(·rfl))|refine t1_ ?_|(refine ta_ ?_;intro _)|((fail_if_success (refine ybi rfl ?_));refine ybj rfl ?_ ?_<;>(intro ht;rw [ht];first|replace ht := oet_ ht|replace ht := oef_ ht|skip))|(refine ych ?_;first|(refine ybw rfl ?_ ?_<;>intro ht)|(refine ybx rfl ?_ ?_<;>intro ht)))
          exact nx_ret3 rfl (rv_tmp rfl) (rv_tmp rfl) (rv_tmp rfl) (fun w' s' => ⟨(h1, .slice none 0 0), rfl, s'.nil, Sc.nil _ _ _ _⟩)
        · rw [if_neg (fun q => ha q.2)]
          by_cases ha1 : a = 1
          · rw [if_pos ⟨h0, ha1⟩]
            repeat' (first|(refine ycf ?_;apply ybk;(·first|(first|exact tk_|(refine qv_slice_from (i := 1) rfl rfl (by omega)))|(apply yae;(·rfl);(·(exact hc _))));(·rfl);(·rfl))|refine t1_ ?_|(refine ta_ ?_;intro _)|((fail_if_success (refine ybi rfl ?_));refine ybj rfl ?_ ?_<;>(intro ht;rw [ht];first|replace ht := oet_ ht|replace ht := oef_ ht|skip))|(refine ych ?_;first|(refine ybw rfl ?_ ?_<;>intro ht)|(refine ybx rfl ?_ ?_<;>intro ht)))
            exact nx_ret3 rfl (rv_tmp rfl) (rv_tmp rfl) (rv_tmp rfl) (fun w' s' => ⟨(h1, _), rfl, s'.nil, hdrop⟩)
          · rw [if_neg (fun q => ha1 q.2)]
            repeat' (first|(refine ycf ?_;apply ybk;(·first|(exact tk_)|(apply yae;(·rfl);(·(exact hc _))));(·rfl);(·rfl))|refine t1_ ?_|(refine ta_ ?_;intro _)|((fail_if_success (refine ybi rfl ?_));refine ybj rfl ?_ ?_<;>(intro ht;rw [ht];first|replace ht := oet_ ht|replace ht := oef_ ht|skip))|(refine ych ?_;first|(refine ybw rfl ?_ ?_<;>intro ht)|(refine ybx rfl ?_ ?_<;>intro ht)))
            exact nx_ret3 rfl (rv_tmp rfl) (rv_tmp rfl) (rv_tmp rfl) (fun w' s' => ⟨(h1, .slice none 0 0), rfl, s'.nil, Sc.nil _ _ _ _⟩)
      · rw [if_neg (fun q => h1' q.1)]
        by_cases ha1 : a = 1
        · rw [if_pos ⟨h0, ha1⟩]
          repeat' (first|(refine ycf ?_;apply ybk;(·first|(first|exact tk_|(refine qv_slice_from (i := 1) rfl rfl (by omega)))|(apply yae;(·rfl);(·(exact hc _))));(·rfl);(·rfl))|refine t1_ ?_|(refine ta_ ?_;intro _)|((fail_if_success (refine ybi rfl ?_));refine ybj rfl ?_ ?_<;>(intro ht;rw [ht];first|replace ht := oet_ ht|replace ht := oef_ ht|skip))|(refine ych ?_;first|(refine ybw rfl ?_ ?_<;>intro ht)|(refine ybx rfl ?_ ?_<;>intro ht)))
          exact nx_ret3 rfl (rv_tmp rfl) (rv_tmp rfl) (rv_tmp rfl) (fun w' s' => ⟨(h1, _), rfl, s'.nil, hdrop⟩)
        · rw [if_neg (fun q => ha1 q.2)]
          repeat' (first|(refine ycf ?_;apply ybk;(·first|(exact tk_)|(apply yae;(·rfl);(·(exact hc _))));(·rfl);(·rfl))|refine t1_ ?_|(refine ta_ ?_;intro _)|((fail_if_success (refine ybi rfl ?_));refine ybj rfl ?_ ?_<;>(intro ht;rw [ht];first|replace ht := oet_ ht|replace ht := oef_ ht|skip))|(refine ych ?_;first|(refine ybw rfl ?_ ?_<;>intro ht)|(refine ybx rfl ?_ ?_<;>intro ht)))
          exact nx_ret3 rfl (rv_tmp rfl) (rv_tmp rfl) (rv_tmp rfl) (fun w' s' => ⟨(h1, .slice none 0 0), rfl, s'.nil, Sc.nil _ _ _ _⟩)
    · rw [if_neg (fun q => by omega), if_neg (fun q => h0 q.1)]
      repeat' (first|(refine ycf ?_;apply ybk;(·first|(exact tk_));(·rfl);(·rfl))|refine t1_ ?_|(refine ta_ ?_;intro _)|((fail_if_success (refine ybi rfl ?_));refine ybj rfl ?_ ?_<;>(intro ht;rw [ht];first|replace ht := oet_ ht|replace ht := oef_ ht|skip))|(refine ych ?_;first|(refine ybw rfl ?_ ?_<;>intro ht)|(refine ybx rfl ?_ ?_<;>intro ht)))
      exact nx_ret3 rfl (rv_tmp rfl) (rv_tmp rfl) (rv_tmp rfl) (fun w' s' => ⟨(h1, .slice none 0 0), rfl, s'.nil, Sc.nil _ _ _ _⟩)
end Go.Proofs.YtgeepceieckooaaGreatDoor
end

section
namespace Go.Proofs.YtgeepceieckooaaGreatDoor
open Go Go.Ck
set_option maxRecDepth 100000
set_option maxHeartbeats 4000000
set_option linter.unusedVariables false
theorem arr_neq {T e m by' : Nat} {z : Value} [tu : TyU Tryz.prog T (.array m e)] [te : TyU Tryz.prog e (.int .u8)] [ta : TyA Tryz.prog e false] [tb : TyB Tryz.prog e z 1 by'] [tg : TyG Tryz.prog T] {n : Nat} {F : List (Nat × Value)} {h : View} {L : List Res} {dst : Option Nat} {ty T' : Nat} {pos : String} {af : Array Edge} {gd : Option (Nat × Bool)} {x y : Operand} {a b : List Int}
    (hx : ev F x = some (.agg (bcs a).toArray)) (hy : ev F y = some (.agg (bcs b).toArray)) (ha : a.length = m) (hb : b.length = m) : QV Tryz.prog n F h L ⟨dst, .binOp .neq T x y T', ty, pos, af, gd⟩ (.bool (!decide (a = b))) :=
  qv_neq_agg hx hy (fun w => run_equal_arr (k := .u8) a b ha hb w)
def openF (key : List Int) (N : List (List Int)) (T : Tab) (nm ek : List Int) (q : Hdr) (se : List Int) : List Int × Bool × Int :=
  if blindF key N nm = ek then match mget T (q.cl, q.ct, q.ep, bstr (boundF ek q), bstr se) with
    | some x => valF x.2
    | none => ([], false, 6)
  else ([], false, 6)
theorem EOpen_sp (bv : Nat) (key : List Int) (bn bu bt : Nat) (N : List (List Int)) (T : Tab) (nm ek se : List Int) (vn pv sv : Value) (q : Hdr) (hk : Bytes key) (hk32 : key.length = 32) (he32 : ek.length = 32)
    (hN : Names N) (hNl : N.length < 900000) (hTl : ∀ x ∈ T, x.2.2.length ≤ 900000 ∧ Bytes x.2.2) (hnm : Bytes nm) (hnl : 1 ≤ nm.length ∧ nm.length ≤ 64) (hok : q.ok) (hsl : 16 ≤ se.length ∧ se.length ≤ 8192)
    (h : View) (hT : TbOk h T) (hv : Vb h bv true key bn bu bt) (hsn : Bs8 h vn nm) (hsp : Bs8 h pv q.past) (hss : Bs8 h sv se) (w : World) (s : St ⟨w, h, doms [nmR bn N, tbR bt T]⟩ h [nmR bn N, tbR bt T] w) :
    Calls Tryz.prog 12 [.pointer (some ⟨bv, 0, none⟩), vn, .agg (envc ek q pv sv).toArray].toArray w fun e w' => ∃ y : View × Value, e = .returned (.tuple #[y.2, .bool (openF key N T nm ek q se).2.1, .int .i64 (openF key N T nm ek q se).2.2]) ∧
      St ⟨w, h, doms [nmR bn N, tbR bt T]⟩ y.1 [nmR bn (addN N nm), tbR bt T] w' ∧ Bs8 y.1 y.2 (openF key N T nm ek q se).1 := by
  obtain ⟨_, adn, capn, rfl, hcapn, _⟩ := id hsn
  obtain ⟨_, adp, capp, rfl, hcapp, _⟩ := id hsp
  obtain ⟨_, ads, caps, rfl, hcaps, _⟩ := id hss
  have HR := eright_sp ek q _ _ se he32 h hsp hss
  have HN := name_sp _ nm h hsn
  have e1 : decide (q.ok ∧ 16 ≤ se.length ∧ se.length ≤ 8192) = true := by simpa using ⟨hok, hsl⟩
  have e2 : decide (1 ≤ nm.length ∧ nm.length ≤ 64) = true := by simpa using hnl
  have hbk := drawF_len key 0 (N.idxOf nm + 1) 32 (by omega)
  have hbk : (blindF key N nm).length = 32 := hbk
  rw [e1] at HR
  rw [e2] at HN
  refine calls_enter Tryz.func12 rfl Tryz.ntmps12 rfl s ?_
  repeat' (first|(refine ycf ?_;apply ybk;(·first|(first|exact tk_|(apply qv_eql_pnil<;>rfl)|(apply qv_nilCheck;rfl)|(apply yad;(·rfl);(·exact yaz 0 rfl);(·exact envc_len he32))));(·rfl);(·rfl))|(refine ybg 0 rfl rfl rfl (by show (envc ek q _ _).toArray.size = 38;simpa using envc_len he32) (by show 0 + (envc ek q _ _).toArray.size ≤ _;rw [List.size_toArray, envc_len he32];exact nble rfl) (List.all_eq_true.2 (envc_one rfl rfl)) (ybh (by show (envc ek q _ _).length = _;rw [envc_len he32];rfl)) rfl rfl ?_ ?_ ?_;(·(exact to_));(·(exact to_)))|refine t1_ ?_|(refine ta_ ?_;intro _)|((fail_if_success (refine ybi rfl ?_));refine ybj rfl ?_ ?_<;>(intro ht;rw [ht];first|replace ht := oet_ ht|replace ht := oef_ ht|skip))|(refine ych ?_;first|(refine ybw rfl ?_ ?_<;>intro ht)|(refine ybx rfl ?_ ?_<;>intro ht)))
  (refine ycn (ycp Tryz.func22 rfl (by kernel_rfl) rfl) (HN) rfl rfl rfl ?_ ?_; (· (exact to_)))
  repeat' (first|(refine ycf ?_;apply ybk;(·first|(first|exact tk_|(apply qv_eql_pnil<;>rfl)|(apply qv_nilCheck;rfl)|(apply yad;(·rfl);(·exact yaz 0 rfl);(·exact envc_len he32))));(·rfl);(·rfl))|(refine ybg 0 rfl rfl rfl (by show (envc ek q _ _).toArray.size = 38;simpa using envc_len he32) (by show 0 + (envc ek q _ _).toArray.size ≤ _;rw [List.size_toArray, envc_len he32];exact nble rfl) (List.all_eq_true.2 (envc_one rfl rfl)) (ybh (by show (envc ek q _ _).length = _;rw [envc_len he32];rfl)) rfl rfl ?_ ?_ ?_;(·(exact to_));(·(exact to_)))|refine t1_ ?_|(refine ta_ ?_;intro _)|((fail_if_success (refine ybi rfl ?_));refine ybj rfl ?_ ?_<;>(intro ht;rw [ht];first|replace ht := oet_ ht|replace ht := oef_ ht|skip))|(refine ych ?_;first|(refine ybw rfl ?_ ?_<;>intro ht)|(refine ybx rfl ?_ ?_<;>intro ht)))
  (refine ycn (ycp Tryz.func36 rfl (by kernel_rfl) rfl) (HR) rfl rfl rfl ?_ ?_; (· (exact to_)))
  repeat' (first|(refine ycf ?_;apply ybk;(·first|(first|exact tk_|(apply qv_eql_pnil<;>rfl)|(apply qv_nilCheck;rfl)|(apply yad;(·rfl);(·exact yaz 0 rfl);(·exact envc_len he32))));(·rfl);(·rfl))|(refine ybg 0 rfl rfl rfl (by show (envc ek q _ _).toArray.size = 38;simpa using envc_len he32) (by show 0 + (envc ek q _ _).toArray.size ≤ _;rw [List.size_toArray, envc_len he32];exact nble rfl) (List.all_eq_true.2 (envc_one rfl rfl)) (ybh (by show (envc ek q _ _).length = _;rw [envc_len he32];rfl)) rfl rfl ?_ ?_ ?_;(·(exact to_));(·(exact to_)))|refine t1_ ?_|(refine ta_ ?_;intro _)|((fail_if_success (refine ybi rfl ?_));refine ybj rfl ?_ ?_<;>(intro ht;rw [ht];first|replace ht := oet_ ht|replace ht := oef_ ht|skip))|(refine ych ?_;first|(refine ybw rfl ?_ ?_<;>intro ht)|(refine ybx rfl ?_ ?_<;>intro ht)))
  (refine rx_call_m (ycp Tryz.func25 rfl (by kernel_rfl) rfl) (perm_at (k := 1) rfl) (Blind_sp bv key bn bu bt N _ nm hk hk32 hN hNl hnm hnl h hv hsn) rfl rfl rfl ?_ ?_ ?_; (· (exact to_)); (· intro _ _ hle; (exact to_)); intro x px hle)
  clear px hle
  generalize hbkk : blindF key N nm = bk at hbk ⊢
  have hol : (bcs bk).length = 32 := by rw [bcs_len, hbk]
  by_cases hbe : bk = ek
  · have hd : (!decide (bk = ek)) = false := by simpa using hbe
    have hop : openF key N T nm ek q se = (match mget T (q.cl, q.ct, q.ep, bstr (boundF ek q), bstr se) with | some x => valF x.2 | none => ([], false, 6)) := by unfold openF; rw [hbkk, if_pos hbe]
    rw [hop]
    have hneq : ∀ {n : Nat} {F : List (Nat × Value)} {h : View} {L : List Res} {dst : Option Nat} {ty T' : Nat} {pos : String} {af : Array Edge} {gd : Option (Nat × Bool)} {x y : Operand}, ev F x = some (.agg (bcs bk).toArray) → ev F y = some (.agg (bcs ek).toArray) → QV Tryz.prog n F h L ⟨dst, .binOp .neq 39 x y T', ty, pos, af, gd⟩ (.bool false) := fun hx hy => by rw [← hd]; exact arr_neq hx hy hbk he32
    repeat' (first|(refine ycf ?_;apply ybk;(·first|(first|exact tk_|(refine hneq rfl rfl)|(apply yad;(·rfl);(·exact yaz 0 rfl);(·exact hol))|(apply yad;(·rfl);(·exact env_key (yaz 2 rfl));(·rw [bcs_len, he32]))|(apply yad;(·rfl);(·exact yaz 2 rfl);(·exact envc_len he32))));(·rfl);(·rfl))|(refine ybg 0 rfl rfl rfl (by show (bcs bk).toArray.size = 32;simpa using hol) (by show 0 + (bcs bk).toArray.size ≤ _;rw [List.size_toArray, hol];exact nble rfl) (List.all_eq_true.2 (bcs_one bk)) (ybh (by show (bcs bk).length = _;rw [hol];rfl)) rfl rfl ?_ ?_ ?_;(·(exact to_));(·(exact to_)))|refine t1_ ?_|(refine ta_ ?_;intro _)|((fail_if_success (refine ybi rfl ?_));refine ybj rfl ?_ ?_<;>(intro ht;rw [ht];first|replace ht := oet_ ht|replace ht := oef_ ht|skip))|(refine ych ?_;first|(refine ybw rfl ?_ ?_<;>intro ht)|(refine ybx rfl ?_ ?_<;>intro ht)))
    have hbl := boundF_len (q := q) he32
    (refine yco (ycp Tryz.func27 rfl (by kernel_rfl) rfl) (bound_sp ek q _ _ he32 hok rfl h hsp) rfl rfl rfl ?_ ?_ ?_; (· (exact to_)); (· intro _ _ hle; (exact to_)); intro x px hle)
    obtain ⟨bo, vo⟩ := x
    clear px hle
    repeat' (first|(refine ycf ?_;apply ybk;(·first|(exact tk_));(·rfl);(·rfl))|refine t1_ ?_|(refine ta_ ?_;intro _)|((fail_if_success (refine ybi rfl ?_));refine ybj rfl ?_ ?_<;>(intro ht;rw [ht];first|replace ht := oet_ ht|replace ht := oef_ ht|skip))|(refine ych ?_;first|(refine ybw rfl ?_ ?_<;>intro ht)|(refine ybx rfl ?_ ?_<;>intro ht)))
    (refine rx_call_2 (ycp Tryz.func28 rfl (by kernel_rfl) rfl) (Done_sp bo vo (boundF ek q) (by rw [hbl]; have := hok.2.2.2.2; omega) h) rfl rfl rfl ?_ ?_ ?_; (· (exact to_)); (· intro _ _ hle; (exact to_)); intro x px hle)
    refine rx_persistA (by intro z hz; simp only [doms, List.flatMap_cons, List.flatMap_nil, List.mem_append, Res.mp, List.mem_singleton] at hz ⊢; simp; rcases hz with hz | hz; (· simp_all); (· simp_all)) fun h2 hle2 hvw => ?_
    have hvw : Bs8 h2 x (boundF ek q) := hvw
    obtain ⟨_, adw, capw, rfl, hcapw, _⟩ := id hvw
    have hv2 := hv.mono hle2
    have hT2 := hT.mono hle2
    have hss2 := hss.mono hle2
    repeat' (first|(refine ycf ?_;apply ybk;(·first|(exact tk_)|(apply yae;(·rfl);(·(first|exact (env_head he32 (yaz 4 rfl)).cell (j := 0) rfl|exact (env_head he32 (yaz 4 rfl)).cell (j := 1) rfl|exact (env_head he32 (yaz 4 rfl)).cell (j := 2) rfl|exact env_seal he32 (yaz 4 rfl)))));(·rfl);(·rfl))|refine t1_ ?_|(refine ta_ ?_;intro _)|((fail_if_success (refine ybi rfl ?_));refine ybj rfl ?_ ?_<;>(intro ht;rw [ht];first|replace ht := oet_ ht|replace ht := oef_ ht|skip))|(refine ych ?_;first|(refine ybw rfl ?_ ?_<;>intro ht)|(refine ybx rfl ?_ ?_<;>intro ht)))
    subst hbe
    cases hx : mget T (q.cl, q.ct, q.ep, bstr (boundF bk q), bstr se) with
    | none =>
      refine rx_call_m (ycp Tryz.func37 rfl (by kernel_rfl) rfl) (perm_at (k := 5) rfl) (VOpen_none bv key bn bu bt T q.ep q.cl q.ct _ _ (boundF bk q) se hk32 hok.sealk hsl.1 hx h2 hv2 hvw hss2) rfl rfl rfl ybf (fun _ _ _ => ybf) ?_
      intro _ _ _
      repeat' (first|(refine ycf ?_;apply ybk;(·first|(exact tk_));(·rfl);(·rfl))|refine t1_ ?_|(refine ta_ ?_;intro _)|((fail_if_success (refine ybi rfl ?_));refine ybj rfl ?_ ?_<;>(intro ht;rw [ht];first|replace ht := oet_ ht|replace ht := oef_ ht|skip))|(refine ych ?_;first|(refine ybw rfl ?_ ?_<;>intro ht)|(refine ybx rfl ?_ ?_<;>intro ht)))
      refine nx_ret3 rfl (rv_tmp rfl) (rv_tmp rfl) (rv_tmp rfl) (fun w' s' => ⟨(h2, .slice none 0 0), rfl, ?_, Sc.nil _ _ _ _⟩)
      exact s'.picks [4, 0]
    | some r =>
      have hr : r.2.length ≤ 900000 ∧ Bytes r.2 := hTl _ (mget_mem hx)
      refine rx_call_m (ycp Tryz.func37 rfl (by kernel_rfl) rfl) (perm_at (k := 5) rfl) (VOpen_some bv key bn bu bt T q.ep q.cl q.ct _ _ (boundF bk q) se r hk32 hok.sealk hsl.1 hx (by omega) h2 hT2 hv2 hvw hss2) rfl rfl rfl ybf (fun _ _ _ => ybf) ?_
      intro vo2 _ _
      refine rx_persistA (by intro z hz; simp only [doms, List.flatMap_cons, List.flatMap_nil, List.mem_append, Res.mp, List.mem_singleton] at hz ⊢; simp; rcases hz with hz | hz; (· simp_all); (· simp_all)) fun h3 hle3 hvo => ?_
      have hvo : Bs8 h3 vo2 r.2 := hvo
      obtain ⟨_, ado, capo, rfl, hcapo, _⟩ := id hvo
      repeat' (first|(refine ycf ?_;apply ybk;(·first|(exact tk_));(·rfl);(·rfl))|refine t1_ ?_|(refine ta_ ?_;intro _)|((fail_if_success (refine ybi rfl ?_));refine ybj rfl ?_ ?_<;>(intro ht;rw [ht];first|replace ht := oet_ ht|replace ht := oef_ ht|skip))|(refine ych ?_;first|(refine ybw rfl ?_ ?_<;>intro ht)|(refine ybx rfl ?_ ?_<;>intro ht)))
      (refine yco (ycp Tryz.func38 rfl (by kernel_rfl) rfl) (value_sp _ r.2 hr.2 hr.1 h3 hvo) rfl rfl rfl ?_ ?_ ?_; (· (exact to_)); (· intro _ _ hle; (exact to_)); intro x px hle)
      obtain ⟨h4, vr⟩ := x
      dsimp only at px ⊢
      repeat' (first|(refine ycf ?_;apply ybk;(·first|(exact tk_));(·rfl);(·rfl))|refine t1_ ?_|(refine ta_ ?_;intro _)|((fail_if_success (refine ybi rfl ?_));refine ybj rfl ?_ ?_<;>(intro ht;rw [ht];first|replace ht := oet_ ht|replace ht := oef_ ht|skip))|(refine ych ?_;first|(refine ybw rfl ?_ ?_<;>intro ht)|(refine ybx rfl ?_ ?_<;>intro ht)))
      refine nx_ret3 rfl (rv_tmp rfl) (rv_tmp rfl) (rv_tmp rfl) (fun w' s' => ⟨(h4, vr), rfl, ?_, px⟩)
      exact s'.picks [4, 0]
  · have hd : (!decide (bk = ek)) = true := by simpa using hbe
    have hop : openF key N T nm ek q se = ([], false, 6) := by unfold openF; rw [hbkk, if_neg hbe]
    rw [hop]
    have hneq : ∀ {n : Nat} {F : List (Nat × Value)} {h : View} {L : List Res} {dst : Option Nat} {ty T' : Nat} {pos : String} {af : Array Edge} {gd : Option (Nat × Bool)} {x y : Operand}, ev F x = some (.agg (bcs bk).toArray) → ev F y = some (.agg (bcs ek).toArray) → QV Tryz.prog n F h L ⟨dst, .binOp .neq 39 x y T', ty, pos, af, gd⟩ (.bool true) := fun hx hy => by rw [← hd]; exact arr_neq hx hy hbk he32
    repeat' (first|(refine ycf ?_;apply ybk;(·first|(first|exact tk_|(refine hneq rfl rfl)|(apply yad;(·rfl);(·exact yaz 0 rfl);(·exact hol))|(apply yad;(·rfl);(·exact env_key (yaz 2 rfl));(·rw [bcs_len, he32]))));(·rfl);(·rfl))|(refine ybg 0 rfl rfl rfl (by show (bcs bk).toArray.size = 32;simpa using hol) (by show 0 + (bcs bk).toArray.size ≤ _;rw [List.size_toArray, hol];exact nble rfl) (List.all_eq_true.2 (bcs_one bk)) (ybh (by show (bcs bk).length = _;rw [hol];rfl)) rfl rfl ?_ ?_ ?_;(·(exact to_));(·(exact to_)))|refine t1_ ?_|(refine ta_ ?_;intro _)|((fail_if_success (refine ybi rfl ?_));refine ybj rfl ?_ ?_<;>(intro ht;rw [ht];first|replace ht := oet_ ht|replace ht := oef_ ht|skip))|(refine ych ?_;first|(refine ybw rfl ?_ ?_<;>intro ht)|(refine ybx rfl ?_ ?_<;>intro ht)))
    refine nx_ret3 rfl (rv_tmp rfl) (rv_tmp rfl) (rv_tmp rfl) (fun w' s' => ⟨(h, .slice none 0 0), rfl, ?_, Sc.nil _ _ _ _⟩)
    exact s'.picks [1, 2]
end Go.Proofs.YtgeepceieckooaaGreatDoor
end

section
namespace Go.Proofs.YtgeepceieckooaaGreatDoor
open Go Go.Ck
set_option maxRecDepth 100000
set_option maxHeartbeats 4000000
set_option linter.unusedVariables false
theorem qv_str_len {P : Program} {n : Nat} {F : List (Nat × Value)} {h : View} {L : List Res} {dst : Option Nat} {ty : Nat} {pos : String} {af : Array Edge} {gd : Option (Nat × Bool)} {S D e m : Nat} {x : Operand} {ad : Addr} {cap : Nat} {l : List Int} [tS : TyU P S (.slice e)] [te : TyU P e (.int .u8)] [tD : TyU P D .string] (hl : l.length = m) (hx : ev F x = some (.slice (some ad) m cap)) (hc : Cells h L ad (bcs l)) :
    QV P n F h L ⟨dst, .convert S D x, ty, pos, af, gd⟩ (.string (bstr l)) := by
  subst hl
  exact qv_str_of hx hc
theorem EWrite_sp (ek : List Int) (q : Hdr) (pv sv : Value) (se : List Int) (hk32 : ek.length = 32) (hok : q.ok) (hsl : 16 ≤ se.length ∧ se.length ≤ 8192) (h : View) (hp : Bs8 h pv q.past) (hs : Bs8 h sv se) (w : World) (s : St ⟨w, h, []⟩ h [] w) :
    Calls Tryz.prog 17 [.agg (envc ek q pv sv).toArray].toArray w fun en w' => ∃ v, en = .returned (.tuple #[v, .int .i64 0]) ∧ St ⟨w, h, []⟩ h [rowB v (encE ek q se)] w' ∧ True := by
  obtain ⟨_, adp, capp, rfl, hcapp, _⟩ := id hp
  obtain ⟨_, ads, caps, rfl, hcaps, _⟩ := id hs
  have R1 := eright_sp ek q _ _ se hk32 h hp hs
  rw [decide_eq_true (⟨hok, hsl⟩ : q.ok ∧ 16 ≤ se.length ∧ se.length ≤ 8192)] at R1
  have hbl := boundF_len (q := q) hk32
  have hpl := hok.2.2.2.2
  refine calls_enter Tryz.func17 rfl Tryz.ntmps17 rfl s ?_
  repeat' (first|(refine ycf ?_;apply ybk;(·first|(first|exact tk_|(apply yad;(·rfl);(·exact yaz 0 rfl);(·exact envc_len hk32))));(·rfl);(·rfl))|(refine ybg 0 rfl rfl rfl (by show (envc ek q _ _).toArray.size = 38;simpa using envc_len hk32) (by show 0 + (envc ek q _ _).toArray.size ≤ _;rw [List.size_toArray, envc_len hk32];exact nble rfl) (List.all_eq_true.2 (envc_one rfl rfl)) (ybh (by show (envc ek q _ _).length = _;rw [envc_len hk32];rfl)) rfl rfl ?_ ?_ ?_;(·(exact to_));(·(exact to_)))|refine t1_ ?_|(refine ta_ ?_;intro _)|((fail_if_success (refine ybi rfl ?_));refine ybj rfl ?_ ?_<;>(intro ht;rw [ht];first|replace ht := oet_ ht|replace ht := oef_ ht|skip))|(refine ych ?_;first|(refine ybw rfl ?_ ?_<;>intro ht)|(refine ybx rfl ?_ ?_<;>intro ht)))
  (refine ycn (ycp Tryz.func36 rfl (by kernel_rfl) rfl) (R1) rfl rfl rfl ?_ ?_; (· (exact to_)))
  repeat' (first|(refine ycf ?_;apply ybk;(·first|(first|exact tk_|(apply yad;(·rfl);(·exact yaz 0 rfl);(·exact envc_len hk32))));(·rfl);(·rfl))|(refine ybg 0 rfl rfl rfl (by show (envc ek q _ _).toArray.size = 38;simpa using envc_len hk32) (by show 0 + (envc ek q _ _).toArray.size ≤ _;rw [List.size_toArray, envc_len hk32];exact nble rfl) (List.all_eq_true.2 (envc_one rfl rfl)) (ybh (by show (envc ek q _ _).length = _;rw [envc_len hk32];rfl)) rfl rfl ?_ ?_ ?_;(·(exact to_));(·(exact to_)))|refine t1_ ?_|(refine ta_ ?_;intro _)|((fail_if_success (refine ybi rfl ?_));refine ybj rfl ?_ ?_<;>(intro ht;rw [ht];first|replace ht := oet_ ht|replace ht := oef_ ht|skip))|(refine ych ?_;first|(refine ybw rfl ?_ ?_<;>intro ht)|(refine ybx rfl ?_ ?_<;>intro ht)))
  refine cx_region_draw' rfl (by kernel_rfl) ?_
  repeat' (refine ycf ?_;(first|(first|(apply ybm;(·(first|(first|exact tk_|(apply yad;(·rfl);(·exact yaz 0 rfl);(·exact envc_len hk32)))|exact tq_));(·rfl);(·rfl);(·(exact th_)))|refine ybl rfl rfl ?_|((fail_if_success (refine ybi rfl ?_));refine ybj rfl ?_ ?_<;>(intro ht;rw [ht];first|replace ht := oet_ ht|replace ht := oef_ ht|skip))|(refine tb_ ?_ ?_ ?_;(·(exact to_));(·intro _;(exact to_));intro _)|(first|(refine tqs_ ?_ ?_ ?_;(·(exact to_));(·(exact to_))))|(apply ybn;(·(first|(first|exact tk_|(apply yad;(·rfl);(·exact yaz 0 rfl);(·exact envc_len hk32)))|exact tq_));(·rfl);(·rfl);(·rfl);(·(exact to_))))|refine ycg ?_))
  (refine yco (ycp Tryz.func27 rfl (by kernel_rfl) rfl) (bound_sp ek q _ _ hk32 hok rfl h hp) rfl rfl rfl ?_ ?_ ?_; (· (exact to_)); (· intro _ _ hle; (exact to_)); intro x px hle)
  obtain ⟨bo, vo⟩ := x
  clear px hle
  dsimp only
  repeat' (refine ycf ?_;(first|(first|(apply ybm;(·(first|(apply yae;(·rfl);(·(exact env_seal hk32 (yaz 0 rfl))))|exact tq_));(·rfl);(·rfl);(·(exact th_)))|refine ybl rfl rfl ?_|((fail_if_success (refine ybi rfl ?_));refine ybj rfl ?_ ?_<;>(intro ht;rw [ht];first|replace ht := oet_ ht|replace ht := oef_ ht|skip))|(refine tb_ ?_ ?_ ?_;(·(exact to_));(·intro _;(exact to_));intro _)|(first|(refine tqs_ ?_ ?_ ?_;(·(exact to_));(·(exact to_))))|(apply ybn;(·(first|(apply yae;(·rfl);(·(exact env_seal hk32 (yaz 0 rfl))))|exact tq_));(·rfl);(·rfl);(·rfl);(·(exact to_))))|refine ycg ?_))
  (refine rx_call_2 (ycp Tryz.func51 rfl (by kernel_rfl) rfl) (OutBytes_sp bo vo _ false _ se (by rw [hbl]; omega) h hs) rfl rfl rfl ?_ ?_ ?_; (· (exact to_)); (· intro _ _ hle; (exact to_)); intro x px hle)
  repeat' (refine ycf ?_;(first|(first|(apply ybm;(·(first|(apply yae;(·rfl);(·(exact env_seal hk32 (yaz 0 rfl))))|exact tq_));(·rfl);(·rfl);(·(exact th_)))|refine ybl rfl rfl ?_|((fail_if_success (refine ybi rfl ?_));refine ybj rfl ?_ ?_<;>(intro ht;rw [ht];first|replace ht := oet_ ht|replace ht := oef_ ht|skip))|(refine tb_ ?_ ?_ ?_;(·(exact to_));(·intro _;(exact to_));intro _)|(first|(refine tqs_ ?_ ?_ ?_;(·(exact to_));(·(exact to_))))|(apply ybn;(·(first|(apply yae;(·rfl);(·(exact env_seal hk32 (yaz 0 rfl))))|exact tq_));(·rfl);(·rfl);(·rfl);(·(exact to_))))|refine ycg ?_))
  (refine rx_call_2 (ycp Tryz.func28 rfl (by kernel_rfl) rfl) (Done_sp bo x _ (by simp only [List.length_append, hbl, num4_len]; omega) h) rfl rfl rfl ?_ ?_ ?_; (· (exact to_)); (· intro _ _ hle; (exact to_)); intro x px hle)
  repeat' (refine ycf ?_;(first|(first|(apply ybm;(·(first|(apply yae;(·rfl);(·(exact env_seal hk32 (yaz 0 rfl))))|exact tq_));(·rfl);(·rfl);(·(exact th_)))|refine ybl rfl rfl ?_|((fail_if_success (refine ybi rfl ?_));refine ybj rfl ?_ ?_<;>(intro ht;rw [ht];first|replace ht := oet_ ht|replace ht := oef_ ht|skip))|(refine tb_ ?_ ?_ ?_;(·(exact to_));(·intro _;(exact to_));intro _)|(first|(refine tqs_ ?_ ?_ ?_;(·(exact to_));(·(exact to_))))|(apply ybn;(·(first|(apply yae;(·rfl);(·(exact env_seal hk32 (yaz 0 rfl))))|exact tq_));(·rfl);(·rfl);(·rfl);(·(exact to_))))|refine ycg ?_))
  repeat' (first|refine tw_ ?_|(refine ta_ ?_;intro _)|((fail_if_success (refine ybi rfl ?_));refine ybj rfl ?_ ?_<;>(intro ht;rw [ht];first|replace ht := oet_ ht|replace ht := oef_ ht|skip))|(refine ych ?_;first|(refine ybw rfl ?_ ?_<;>intro ht)|(refine ybx rfl ?_ ?_<;>intro ht)))
  refine nx_ret2 rfl (rv_tmp rfl) (rv_tmp rfl) (fun w' s' => ⟨_, rfl, ?_, trivial⟩)
  exact s'.picks [0]
theorem from_sp (ek : List Int) (q : Hdr) (pv sv : Value) (se : List Int) (hk32 : ek.length = 32) (h : View) (hp : Bs8 h pv q.past) (hs : Bs8 h sv se) (w : World) (s : St ⟨w, h, []⟩ h [] w) :
    Calls Tryz.prog 18 [.agg (envc ek q pv sv).toArray].toArray w fun en w' => en = .returned (.agg (renv ek q se).toArray) ∧ St ⟨w, h, []⟩ h [] w' := by
  obtain ⟨_, adp, capp, rfl, hcapp, _⟩ := id hp
  obtain ⟨_, ads, caps, rfl, hcaps, _⟩ := id hs
  refine calls_enter Tryz.func18 rfl Tryz.ntmps18 rfl s ?_
  repeat' (first|(refine ybg 1 rfl rfl rfl (by show (envc ek q _ _).toArray.size = 38;simpa using envc_len hk32) (by show 0 + (envc ek q _ _).toArray.size ≤ _;rw [List.size_toArray, envc_len hk32];exact nble rfl) (List.all_eq_true.2 (envc_one rfl rfl)) (ybh (by show (envc ek q _ _).length = _;rw [envc_len hk32];rfl)) rfl rfl ?_ ?_ ?_;(·(exact to_));(·(exact to_)))|refine t1_ ?_|(refine ta_ ?_;intro _)|((fail_if_success (refine ybi rfl ?_));refine ybj rfl ?_ ?_<;>(intro ht;rw [ht];first|replace ht := oet_ ht|replace ht := oef_ ht|skip))|(refine ych ?_;first|(refine ybw rfl ?_ ?_<;>intro ht)|(refine ybx rfl ?_ ?_<;>intro ht)))
  refine cx_region_drawY [20] rfl (by kernel_rfl) ?_
  repeat' (refine ycf ?_;(first|(first|(apply ybm;(·(first|(first|exact qv_slice_arr rfl|(refine qv_str_len hk32 rfl (env_key (yaz 1 rfl)))|(refine qv_str_bs rfl hp)|(refine qv_str_bs rfl hs)|(apply yad (vs := [.int .i64 q.cl, .int .i64 q.nu]);(·rfl);(·exact ((env_head hk32 (yaz 1 rfl)).drop 2).take 2);(·rfl)))|(apply yae;(·rfl);(·(first|exact (env_head hk32 (yaz 1 rfl)).cell (j := 0) rfl|exact (env_head hk32 (yaz 1 rfl)).cell (j := 1) rfl|exact (env_head hk32 (yaz 1 rfl)).cell (j := 4) rfl|exact env_seal hk32 (yaz 1 rfl))))|exact tq_));(·rfl);(·rfl);(·(exact th_)))|refine ybl rfl rfl ?_|((fail_if_success (refine ybi rfl ?_));refine ybj rfl ?_ ?_<;>(intro ht;rw [ht];first|replace ht := oet_ ht|replace ht := oef_ ht|skip))|(refine tb_ ?_ ?_ ?_;(·(exact to_));(·intro _;(exact to_));intro _)|(first|(refine tqs_ ?_ ?_ ?_;(·(exact to_));(·(exact to_))))|(apply ybn;(·(first|(first|exact qv_slice_arr rfl|(refine qv_str_len hk32 rfl (env_key (yaz 1 rfl)))|(refine qv_str_bs rfl hp)|(refine qv_str_bs rfl hs)|(apply yad (vs := [.int .i64 q.cl, .int .i64 q.nu]);(·rfl);(·exact ((env_head hk32 (yaz 1 rfl)).drop 2).take 2);(·rfl)))|(apply yae;(·rfl);(·(first|exact (env_head hk32 (yaz 1 rfl)).cell (j := 0) rfl|exact (env_head hk32 (yaz 1 rfl)).cell (j := 1) rfl|exact (env_head hk32 (yaz 1 rfl)).cell (j := 4) rfl|exact env_seal hk32 (yaz 1 rfl))))|exact tq_));(·rfl);(·rfl);(·rfl);(·(exact to_))))|refine ycg ?_))
  repeat' (first|(refine ycf ?_;apply ybk;(·first|(first|exact qv_slice_arr rfl|(refine qv_str_len hk32 rfl (env_key (yaz 1 rfl)))|(refine qv_str_bs rfl hp)|(refine qv_str_bs rfl hs)|(apply yad (vs := [.int .i64 q.cl, .int .i64 q.nu]);(·rfl);(·exact ((env_head hk32 (yaz 1 rfl)).drop 2).take 2);(·rfl)))|(apply yae;(·rfl);(·(first|exact (env_head hk32 (yaz 1 rfl)).cell (j := 0) rfl|exact (env_head hk32 (yaz 1 rfl)).cell (j := 1) rfl|exact (env_head hk32 (yaz 1 rfl)).cell (j := 4) rfl|exact env_seal hk32 (yaz 1 rfl)))));(·rfl);(·rfl))|refine t1_ ?_|(refine ta_ ?_;intro _)|((fail_if_success (refine ybi rfl ?_));refine ybj rfl ?_ ?_<;>(intro ht;rw [ht];first|replace ht := oet_ ht|replace ht := oef_ ht|skip))|(refine ych ?_;first|(refine ybw rfl ?_ ?_<;>intro ht)|(refine ybx rfl ?_ ?_<;>intro ht)))
  exact nx_ret1 rfl (rv_cells rfl (yaz 0 rfl) rfl) (fun w' s' => ⟨rfl, s'.nil⟩)
instance tykDot : TyK Tryz.prog 24 [(3, 0), (3, 1)] := ⟨by kernel_rfl, by kernel_rfl, by kernel_rfl, by kernel_rfl⟩
instance tykEnv : TyK Tryz.prog 28 [(9, 0), (3, 1), (3, 2), (24, 3), (9, 5), (9, 6)] := ⟨by kernel_rfl, by kernel_rfl, by kernel_rfl, by kernel_rfl⟩
theorem dotk_parts (a b : Int) : Parts Tryz.prog #[.int .i64 a, .int .i64 b] [(3, 0), (3, 1)] [.int .i64 a, .int .i64 b] := .cons (part1 rfl) (.cons (part1 rfl) .nil)
theorem renv_parts (ek : List Int) (q : Hdr) (se : List Int) : Parts Tryz.prog (renv ek q se).toArray [(9, 0), (3, 1), (3, 2), (24, 3), (9, 5), (9, 6)]
    [.string (bstr ek), .int .i64 q.ep, .int .i64 q.ct, .agg #[.int .i64 q.cl, .int .i64 q.nu], .string (bstr q.past), .string (bstr se)] :=
  .cons (part1 rfl) (.cons (part1 rfl) (.cons (part1 rfl) (.cons (partA (k := 2) rfl) (.cons (part1 rfl) (.cons (part1 rfl) .nil)))))
theorem dotk_refl (d : Nat) (a b : Int) (w : World) : (Op.equalIn (d + 2) 24 (.agg #[.int .i64 a, .int .i64 b]) (.agg #[.int .i64 a, .int .i64 b])).run Tryz.prog w = .ok true w := by
  have := struct_eq (P := Tryz.prog) (T := 24) (d := d + 1) w (bs := [a == a, b == b]) rfl (dotk_parts a b) (dotk_parts a b) (by
    intro i t u v r h1 h2 h3 h4 w
    match i, h1, h2, h3, h4 with
    | 0, h1, h2, h3, h4 => cases h1; cases h2; cases h3; cases h4; exact run_equalIn_int w d _ _ _ _ _ (TyU.u (d := .int .i64))
    | 1, h1, h2, h3, h4 => cases h1; cases h2; cases h3; cases h4; exact run_equalIn_int w d _ _ _ _ _ (TyU.u (d := .int .i64)))
  rw [this]
  simp
theorem renv_refl (ek : List Int) (q : Hdr) (se : List Int) (w : World) : (Op.equal 28 (.agg (renv ek q se).toArray) (.agg (renv ek q se).toArray)).run Tryz.prog w = .ok true w := by
  have := struct_eq (P := Tryz.prog) (T := 28) (d := 9999) w (bs := [(bstr ek).toList == (bstr ek).toList, q.ep == q.ep, q.ct == q.ct, true, (bstr q.past).toList == (bstr q.past).toList, (bstr se).toList == (bstr se).toList]) rfl (renv_parts ek q se) (renv_parts ek q se) (by
    intro i t u v r h1 h2 h3 h4 w
    match i, h1, h2, h3, h4 with
    | 0, h1, h2, h3, h4 => cases h1; cases h2; cases h3; cases h4; exact run_equalIn_string w 9998 _ _ _ (TyU.u (d := .string))
    | 1, h1, h2, h3, h4 => cases h1; cases h2; cases h3; cases h4; exact run_equalIn_int w 9998 _ _ _ _ _ (TyU.u (d := .int .i64))
    | 2, h1, h2, h3, h4 => cases h1; cases h2; cases h3; cases h4; exact run_equalIn_int w 9998 _ _ _ _ _ (TyU.u (d := .int .i64))
    | 3, h1, h2, h3, h4 => cases h1; cases h2; cases h3; cases h4; exact dotk_refl 9997 _ _ w
    | 4, h1, h2, h3, h4 => cases h1; cases h2; cases h3; cases h4; exact run_equalIn_string w 9998 _ _ _ (TyU.u (d := .string))
    | 5, h1, h2, h3, h4 => cases h1; cases h2; cases h3; cases h4; exact run_equalIn_string w 9998 _ _ _ (TyU.u (d := .string)))
  unfold Op.equal Op.maxDepth
  rw [this]
  simp
end Go.Proofs.YtgeepceieckooaaGreatDoor
end

section
namespace Go.Ck
open Go
set_option linter.unusedVariables false
set_option linter.unusedSimpArgs false
set_option maxHeartbeats 4000000
def OwnsB (w : World) (e : TypeId) (v : Value) (n : Nat) (xs : List Value) : Prop :=
  xs.length = n ∧ ((v = .slice none 0 0 ∧ n = 0) ∨
    ∃ g cap cur fz, v = .slice (some ⟨g, 0, none⟩) n cap ∧ w.heap[g]? = some (.cells cur e fz) ∧ n ≤ cap ∧ cap ≤ maxLen ∧ cur.size = cap ∧ cur.toList.take n = xs ∧ (fz.2 ≤ fz.1 ∨ cur.size ≤ fz.1))
def Res.srow (e : TypeId) (v : Value) (n : Nat) (xs : List Value) : Res where
  dom := v.ownBlock.toList
  sat := fun w => OwnsB w e v n xs
  loc := fun w w' hh hs => by
    refine ⟨hs.1, ?_⟩
    rcases hs.2 with hn | ⟨g, cap, cur, fz, rfl, hgg, rest⟩
    · exact .inl hn
    · exact .inr ⟨g, cap, cur, fz, rfl, by rw [hh g (by simp [Value.ownBlock])]; exact hgg, rest⟩
  lt := fun w hs b hb => by
    have hb : v.ownBlock = some b := by simpa using hb
    rcases hs.2 with ⟨rfl, _⟩ | ⟨g, cap, cur, fz, rfl, hgg, rest⟩
    · cases hb
    · simp only [Value.ownBlock, Option.some.injEq] at hb
      subst hb
      exact (Array.getElem?_eq_some_iff.1 hgg).1
structure Src (P : Program) (h : View) (L : List Res) (x : Value) (m : Nat) (news : List Value) : Prop where
  len : ∀ w, (Builtin.lenOf x).run P w = .ok m w
  cells : ∀ w, Hd h L w → (Builtin.firstCells 1 m x).run P w = .ok news.toArray w
  nl : news.length = m
section
variable {P : Program} {n : Nat} {K : Bs} {F : List (Nat × Value)} {h : View} {L : List Res} {Q : Exit → Act → World → Prop}
variable {dst : Option Nat} {ty : Nat} {pos : String} {af : Array Edge} {gd : Option (Nat × Bool)}
theorem Hd.heap {w w' : World} (hd : Hd h L w) (e : w'.heap = w.heap) : Hd h L w' := ⟨fun b o hb => by rw [e]; exact hd.view b o hb, fun r hr => r.loc w w' (fun b _ => by rw [e]) (hd.own r hr)⟩
theorem St.srowPersist {e : TypeId} {v : Value} {m : Nat} {xs : List Value} {w : World} (s : St K h (Res.srow e v m xs :: L) w) (hA : K.A = []) : ∃ h', Le h h' ∧ Sc h' 1 v m xs ∧ St K h' L w := by
  have ho : OwnsB w e v m xs := s.hd.own _ (List.mem_cons_self ..)
  obtain ⟨q0, q1 | ⟨g, cap, cur, fz, rfl, q3, q4, q5, q6, q7, q8⟩⟩ := ho
  · obtain ⟨rfl, rfl⟩ := q1
    have hx : xs = [] := List.eq_nil_of_length_eq_zero (by omega)
    subst hx
    exact ⟨h, Le.refl h, Sc.nil h 1 none 0, s.tl⟩
  · have s1 : St K h (Res.blk g (.cells cur e fz) :: L) w := by
      refine ⟨s.os, s.tape, s.output, s.drawn, s.size, s.keep, ⟨s.hd.view, fun r hr => ?_⟩, ?_, ?_, s.grow, s.new, ?_⟩
      · rcases List.mem_cons.1 hr with rfl | hr
        · exact q3
        · exact s.hd.own r (List.mem_cons_of_mem _ hr)
      · have := s.nd
        simpa [doms_cons, Res.srow, Res.blk, Value.ownBlock] using this
      · intro b hb
        refine s.src b ?_
        simpa [doms_cons, Res.srow, Res.blk, Value.ownBlock] using hb
      · intro b hb
        refine s.dis b ?_
        simpa [doms_cons, Res.srow, Res.blk, Value.ownBlock] using hb
    have hnone : h g = none := s1.dis g (by rw [doms_cons]; exact List.mem_append_left _ (List.mem_singleton.2 rfl))
    refine ⟨_, Le.addV hnone, ⟨by omega, some ⟨g, 0, none⟩, cap, rfl, q4, .inr ⟨g, 0, cur, e, fz, rfl, addV_same, fun j u hj => ?_⟩⟩, s1.persist hA⟩
    rw [Nat.zero_add]
    rw [← q7, List.getElem?_take] at hj
    split at hj
    · simpa using hj
    · cases hj
theorem rx_persist_s {g : Rg} {prs : List (Nat × Oper)} {e : TypeId} {m : Nat} {v : Value} {xs : List Value} (hA : K.A = []) (hx : ∀ h', Le h h' → Sc h' 1 v m xs → RX P n K g prs F h' L Q) : RX P n K g prs F h (Res.srow e v m xs :: L) Q := by
  unfold RX at *
  intro a w f s
  obtain ⟨h', h1, h2, h3⟩ := s.srowPersist hA
  exact hx h' h1 h2 a w f h3
end
end Go.Ck
end

section
namespace Go.Ck
open Go
set_option linter.unusedVariables false
section
variable {P : Program} {n : Nat} {K : Bs} {F : List (Nat × Value)} {h : View} {L : List Res} {Q : Exit → Act → World → Prop}
variable {dst : Option Nat} {ty : Nat} {pos : String} {af : Array Edge} {gd : Option (Nat × Bool)}
theorem rx_mark {g : Rg} {i : Nat} {r : List (Nat × Oper)} {S e b m : Nat} {x : Operand} {cs : Array Value} (k : Nat) [tS : TyU P S (.slice e)] [te : TyU P e (.int .u8)] (hx : ev F x = some (.slice (some ⟨b, 0, none⟩) m m)) (hk : L[k]? = some (Res.blk b (.cells cs e (0, 0)))) (hm : cs.size = m) (h63 : m ≤ maxLen)
    (hw : wantedF g.ops F ⟨dst, .convert S S x, ty, pos, af, gd⟩ = some true) (hd : okd n dst = true) (hl : g.lo i = true) (o1 : Owe g i h L) (o2 : Owe g i h (L.set k (Res.srow e (.slice (some ⟨b, 0, none⟩) m m) m cs.toList)))
    (hn : RX P n K g r (putF dst (.slice (some ⟨b, 0, none⟩) m m) F) h (L.set k (Res.srow e (.slice (some ⟨b, 0, none⟩) m m) m cs.toList)) Q) : RX P n K g ((i, ⟨dst, .convert S S x, ty, pos, af, gd⟩) :: r) F h L Q := by
  unfold RX at *
  intro a w f s
  have hb : w.heap[b]? = some (.cells cs e (0, 0)) := s.hd.own _ (List.mem_of_getElem? hk)
  have he : (execOp a.eval ⟨dst, .convert S S x, ty, pos, af, gd⟩).run P w = .ok (.value (.slice (some ⟨b, 0, none⟩) m m)) (w.freeze ⟨b, cs.size, none⟩ 1) := by
    simp [execOp, f.ev hx, convert, run_underlying tS.u, run_underlying te.u, markStringish, World.shape?, hb]
  have s2 : St K h (L.set k (Res.srow e (.slice (some ⟨b, 0, none⟩) m m) m cs.toList)) (w.freeze ⟨b, cs.size, none⟩ 1) := by
    have hfz : (w.freeze ⟨b, cs.size, none⟩ 1).heap = w.heap.modify b fun o => match o with
      | .cells c elem (lo, hi) => .cells c elem (if lo == hi then (cs.size, cs.size + 1) else (min lo cs.size, max hi (cs.size + 1)))
      | o => o := by
      simp only [World.freeze, Nat.one_ne_zero, if_false]
      rfl
    have hlt := (Array.getElem?_eq_some_iff.1 hb).1
    refine s.swap hk rfl rfl rfl (Nat.le_refl _) (by rw [hfz, Array.size_modify]; exact Nat.le_refl _) (fun j hj hjd => ?_) ⟨by simpa using hm, .inr ⟨b, m, cs, (cs.size, cs.size + 1), rfl, ?_, Nat.le_refl _, h63, hm, by rw [← hm]; exact List.take_of_length_le (by simp), .inr (Nat.le_refl _)⟩⟩ (by simp [Res.srow, Value.ownBlock]) (fun c hc => .inl ?_)
    · rw [hfz, Array.getElem?_modify, if_neg]
      intro e
      exact hjd (by rw [← e]; exact List.mem_singleton.2 rfl)
    · rw [hfz, Array.getElem?_modify, if_pos rfl, hb]
      rfl
    · have : c = b := by simpa [Res.srow, Value.ownBlock] using hc
      rw [this]; exact List.mem_singleton.2 rfl
  refine .inr (.inr ⟨wantedF_ok f hw, hl, o1.out s, ?_⟩)
  unfold Oper.wp
  rw [he]
  exact ⟨o2.out s2, hn _ _ (f.put hd _) s2⟩
end
end Go.Ck
end

section
namespace Go.Proofs.YtgeepceieckooaaGreatDoor
open Go Go.Ck
set_option maxRecDepth 100000
set_option maxHeartbeats 4000000
set_option linter.unusedVariables false
theorem blindF_ne (key : List Int) {N M : List (List Int)} {x y : List Int} (h1 : N.idxOf x < 900000) (h2 : M.idxOf y < 900000) (h : N.idxOf x ≠ M.idxOf y) : blindF key N x ≠ blindF key M y :=
  drawF_ne key (by omega) (by omega) (by omega)
theorem byC_putV {b r : List Int} {most : Int} (hl : (b.length : Int) ≤ most) (h4 : b.length < 4294967296) : byC (num4 (b.length : Int) ++ b ++ r, 0) most = (b, (r, 0)) := by
  have h1 : lookC (num4 (b.length : Int) ++ b ++ r) 4 most = ((b.length : Int), 0) := by
    have := numC_put (size := 4) (x := (b.length : Int)) (most := most) (r := b ++ r) (by omega) hl (by
      have e : (256 : Int) ^ 4 = 4294967296 := by decide
      rw [e]; omega)
    unfold numC at this
    rw [if_neg (by simp)] at this
    dsimp only at this
    rw [show (putLow 4 (b.length : Int)).reverse ++ (b ++ r) = num4 (b.length : Int) ++ b ++ r by rw [List.append_assoc]; rfl] at this
    split at this
    · rename_i hz
      have e1 := congrArg Prod.fst this
      dsimp only at e1
      exact Prod.ext e1 hz
    · rename_i hz
      have e2 := congrArg (fun p => p.2.2) this
      exact absurd e2 hz
  have hlen : (num4 (b.length : Int) ++ b ++ r).length = 4 + b.length + r.length := by simp only [List.length_append, num4_len]
  have hd : (num4 (b.length : Int) ++ b ++ r).drop 4 = b ++ r := by
    rw [List.append_assoc, List.drop_append_of_le_length (by rw [num4_len]; exact Nat.le_refl _), List.drop_of_length_le (by rw [num4_len]; exact Nat.le_refl _), List.nil_append]
  unfold byC
  rw [if_neg (by simp)]
  dsimp only
  rw [h1, if_neg (by simp)]
  dsimp only
  rw [hlen, Int.toNat_natCast, if_neg (by omega), hd]
  rw [List.take_left, List.drop_left]
theorem cutV_pad {b : List Int} (hb : Bytes b) (hl : b.length ≤ 4000) : cutV (padF b) = b := by
  unfold cutV padF
  rw [byC_putV (by omega) (by omega)]
theorem cutOk_pad {b : List Int} (hb : Bytes b) (hl : b.length ≤ 4000) : cutOk (padF b) = true := by
  unfold cutOk
  rw [cutV_pad hb hl]
  simp
theorem valF_pad {del : Bool} {val : List Int} (hb : Bytes val) (hl : del = false → val.length ≤ 3999) : valF (padF (inF del val)) = (if del then [] else val, del, 0) := by
  unfold valF
  rw [if_pos (cutOk_pad (inF_by hb) (inF_len hl)), cutV_pad (inF_by hb) (inF_len hl)]
  unfold vlF inF
  cases del <;> simp
end Go.Proofs.YtgeepceieckooaaGreatDoor
end
