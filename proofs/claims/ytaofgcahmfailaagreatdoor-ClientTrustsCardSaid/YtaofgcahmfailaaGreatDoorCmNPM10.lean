/-
  Part 10 of a proof: VaM VaN VaO VaP VaQ PoA PoB PoC.
  Conditions: each theorem states its own.
-/
import Derived.Test.YtaofgcahmfailaaGreatDoorCmNPM9
set_option maxRecDepth 100000
set_option linter.unusedVariables false
set_option linter.unusedSimpArgs false
section
namespace Go.Proofs.YtaofgcahmfailaaGreatDoor
open Go Go.Ck
set_option maxHeartbeats 4000000
structure Hdr where
  ep : Int
  ct : Int
  cl : Int
  nu : Int
  past : List Int
def Hdr.ok (x : Hdr) : Prop := (1 ≤ x.ep ∧ x.ep ≤ 1048576) ∧ (1 ≤ x.ct ∧ x.ct ≤ 4611686018427387904) ∧ (1 ≤ x.cl ∧ x.cl ≤ 16) ∧ (1 ≤ x.nu ∧ x.nu ≤ 1099511627776) ∧ x.past.length ≤ 4096
instance (x : Hdr) : Decidable x.ok := by unfold Hdr.ok; exact inferInstance
def hdc (x : Hdr) (pv : Value) : List Value := [.int .i64 x.ep, .int .i64 x.ct, .int .i64 x.cl, .int .i64 x.nu, pv]
def envc (key : List Int) (x : Hdr) (pv sv : Value) : List Value := bcs key ++ (hdc x pv ++ [sv])
theorem within_sp (n a b : Int) (h : View) (w : World) (s : St ⟨w, h, []⟩ h [] w) :
    Calls Tryz.prog 52 [.int .i64 n, .int .i64 a, .int .i64 b].toArray w fun e w' => e = .returned (.bool (decide (a ≤ n ∧ n ≤ b))) ∧ St ⟨w, h, []⟩ h [] w' := by
  refine calls_enter Tryz.func52 rfl Tryz.ntmps52 rfl s ?_
  by_cases h1 : a ≤ n
  · by_cases h2 : n ≤ b
    · have e : decide (a ≤ n ∧ n ≤ b) = true := by simp [h1, h2]
      rw [e]
      repeat' (first|(refine ycf ?_;apply ybk;(·first|(exact tk_));(·rfl);(·rfl))|refine t1_ ?_|(refine ta_ ?_;intro _)|((fail_if_success (refine ybi rfl ?_));refine ybj rfl ?_ ?_<;>(intro ht;rw [ht];first|replace ht := oet_ ht|replace ht := oef_ ht|skip))|(refine ych ?_;first|(refine ybw rfl ?_ ?_<;>intro ht)|(refine ybx rfl ?_ ?_<;>intro ht)))
      exact nx_ret1 rfl (rv_tmp rfl) (fun w' s' => ⟨rfl, s'⟩)
    · have e : decide (a ≤ n ∧ n ≤ b) = false := by simp [h2]
      rw [e]
      repeat' (first|(refine ycf ?_;apply ybk;(·first|(exact tk_));(·rfl);(·rfl))|refine t1_ ?_|(refine ta_ ?_;intro _)|((fail_if_success (refine ybi rfl ?_));refine ybj rfl ?_ ?_<;>(intro ht;rw [ht];first|replace ht := oet_ ht|replace ht := oef_ ht|skip))|(refine ych ?_;first|(refine ybw rfl ?_ ?_<;>intro ht)|(refine ybx rfl ?_ ?_<;>intro ht)))
      exact nx_ret1 rfl (rv_tmp rfl) (fun w' s' => ⟨rfl, s'⟩)
  · have e : decide (a ≤ n ∧ n ≤ b) = false := by simp [h1]
    rw [e]
    repeat' (first|(refine ycf ?_;apply ybk;(·first|(exact tk_));(·rfl);(·rfl))|refine t1_ ?_|(refine ta_ ?_;intro _)|((fail_if_success (refine ybi rfl ?_));refine ybj rfl ?_ ?_<;>(intro ht;rw [ht];first|replace ht := oet_ ht|replace ht := oef_ ht|skip))|(refine ych ?_;first|(refine ybw rfl ?_ ?_<;>intro ht)|(refine ybx rfl ?_ ?_<;>intro ht)))
    exact nx_ret1 rfl (rv_tmp rfl) (fun w' s' => ⟨rfl, s'⟩)
theorem name_sp (v : Value) (l : List Int) (h : View) (hs : Bs8 h v l) (w : World) (s : St ⟨w, h, []⟩ h [] w) :
    Calls Tryz.prog 34 [v].toArray w fun e w' => e = .returned (.bool (decide (1 ≤ l.length ∧ l.length ≤ 64))) ∧ St ⟨w, h, []⟩ h [] w' := by
  obtain ⟨_, ad, cap, rfl, hcap, _⟩ := id hs
  have e : decide (1 ≤ l.length ∧ l.length ≤ 64) = decide ((1 : Int) ≤ (l.length : Int) ∧ (l.length : Int) ≤ 64) := by
    rw [decide_eq_decide]; omega
  rw [e]
  refine calls_enter Tryz.func34 rfl Tryz.ntmps34 rfl s ?_
  repeat' (first|(refine ycf ?_;apply ybk;(·first|(exact tk_));(·rfl);(·rfl))|refine t1_ ?_|(refine ta_ ?_;intro _)|((fail_if_success (refine ybi rfl ?_));refine ybj rfl ?_ ?_<;>(intro ht;rw [ht];first|replace ht := oet_ ht|replace ht := oef_ ht|skip))|(refine ych ?_;first|(refine ybw rfl ?_ ?_<;>intro ht)|(refine ybx rfl ?_ ?_<;>intro ht)))
  (refine ycn (ycp Tryz.func52 rfl (by kernel_rfl) rfl) (within_sp (l.length : Int) 1 64 h) rfl rfl rfl ?_ ?_; (· (exact to_)))
  repeat' (first|(refine ycf ?_;apply ybk;(·first|(exact tk_));(·rfl);(·rfl))|refine t1_ ?_|(refine ta_ ?_;intro _)|((fail_if_success (refine ybi rfl ?_));refine ybj rfl ?_ ?_<;>(intro ht;rw [ht];first|replace ht := oet_ ht|replace ht := oef_ ht|skip))|(refine ych ?_;first|(refine ybw rfl ?_ ?_<;>intro ht)|(refine ybx rfl ?_ ?_<;>intro ht)))
  exact nx_ret1 rfl (rv_tmp rfl) (fun w' s' => ⟨rfl, s'⟩)
theorem hright_sp (x : Hdr) (pv : Value) (h : View) (hp : Bs8 h pv x.past) (w : World) (s : St ⟨w, h, []⟩ h [] w) :
    Calls Tryz.prog 35 [.agg (hdc x pv).toArray].toArray w fun e w' => e = .returned (.bool (decide x.ok)) ∧ St ⟨w, h, []⟩ h [] w' := by
  obtain ⟨_, ad, cap, rfl, hcap, _⟩ := id hp
  refine calls_enter Tryz.func35 rfl Tryz.ntmps35 rfl s ?_
  repeat' (first|(refine ycf ?_;apply ybk;(·first|(exact tk_));(·rfl);(·rfl))|refine t1_ ?_|(refine ta_ ?_;intro _)|((fail_if_success (refine ybi rfl ?_));refine ybj rfl ?_ ?_<;>(intro ht;rw [ht];first|replace ht := oet_ ht|replace ht := oef_ ht|skip))|(refine ych ?_;first|(refine ybw rfl ?_ ?_<;>intro ht)|(refine ybx rfl ?_ ?_<;>intro ht)))
  have e : decide x.ok = (decide (1 ≤ x.ep ∧ x.ep ≤ 1048576) && (decide (1 ≤ x.ct ∧ x.ct ≤ 4611686018427387904) && (decide (1 ≤ x.cl ∧ x.cl ≤ 16) && (decide (1 ≤ x.nu ∧ x.nu ≤ 1099511627776) && decide ((x.past.length : Int) ≤ 4096))))) := by
    rw [Bool.eq_iff_iff]
    simp only [decide_eq_true_eq, Bool.and_eq_true]
    unfold Hdr.ok
    constructor
    · rintro ⟨a, b, c, d, e⟩; exact ⟨a, b, c, d, by omega⟩
    · rintro ⟨a, b, c, d, e⟩; exact ⟨a, b, c, d, by omega⟩
  rw [e]
  have W1 := within_sp x.ep 1 1048576 h
  have W2 := within_sp x.ct 1 4611686018427387904 h
  have W3 := within_sp x.cl 1 16 h
  have W4 := within_sp x.nu 1 1099511627776 h
  generalize decide (1 ≤ x.ep ∧ x.ep ≤ 1048576) = b1 at W1 ⊢
  generalize decide (1 ≤ x.ct ∧ x.ct ≤ 4611686018427387904) = b2 at W2 ⊢
  generalize decide (1 ≤ x.cl ∧ x.cl ≤ 16) = b3 at W3 ⊢
  generalize decide (1 ≤ x.nu ∧ x.nu ≤ 1099511627776) = b4 at W4 ⊢
  (refine ycn (ycp Tryz.func52 rfl (by kernel_rfl) rfl) (W1) rfl rfl rfl ?_ ?_; (· (exact to_)))
  cases b1
  · repeat' (first|(refine ycf ?_;apply ybk;(·first|(exact tk_));(·rfl);(·rfl))|refine t1_ ?_|(refine ta_ ?_;intro _)|((fail_if_success (refine ybi rfl ?_));refine ybj rfl ?_ ?_<;>(intro ht;rw [ht];first|replace ht := oet_ ht|replace ht := oef_ ht|skip))|(refine ych ?_;first|(refine ybw rfl ?_ ?_<;>intro ht)|(refine ybx rfl ?_ ?_<;>intro ht)))
    exact nx_ret1 rfl (rv_tmp rfl) (fun w' s' => ⟨rfl, s'.nil⟩)
  repeat' (first|(refine ycf ?_;apply ybk;(·first|(exact tk_));(·rfl);(·rfl))|refine t1_ ?_|(refine ta_ ?_;intro _)|((fail_if_success (refine ybi rfl ?_));refine ybj rfl ?_ ?_<;>(intro ht;rw [ht];first|replace ht := oet_ ht|replace ht := oef_ ht|skip))|(refine ych ?_;first|(refine ybw rfl ?_ ?_<;>intro ht)|(refine ybx rfl ?_ ?_<;>intro ht)))
  (refine ycn (ycp Tryz.func52 rfl (by kernel_rfl) rfl) (W2) rfl rfl rfl ?_ ?_; (· (exact to_)))
  cases b2
  · repeat' (first|(refine ycf ?_;apply ybk;(·first|(exact tk_));(·rfl);(·rfl))|refine t1_ ?_|(refine ta_ ?_;intro _)|((fail_if_success (refine ybi rfl ?_));refine ybj rfl ?_ ?_<;>(intro ht;rw [ht];first|replace ht := oet_ ht|replace ht := oef_ ht|skip))|(refine ych ?_;first|(refine ybw rfl ?_ ?_<;>intro ht)|(refine ybx rfl ?_ ?_<;>intro ht)))
    exact nx_ret1 rfl (rv_tmp rfl) (fun w' s' => ⟨rfl, s'.nil⟩)
  repeat' (first|(refine ycf ?_;apply ybk;(·first|(exact tk_));(·rfl);(·rfl))|refine t1_ ?_|(refine ta_ ?_;intro _)|((fail_if_success (refine ybi rfl ?_));refine ybj rfl ?_ ?_<;>(intro ht;rw [ht];first|replace ht := oet_ ht|replace ht := oef_ ht|skip))|(refine ych ?_;first|(refine ybw rfl ?_ ?_<;>intro ht)|(refine ybx rfl ?_ ?_<;>intro ht)))
  (refine ycn (ycp Tryz.func52 rfl (by kernel_rfl) rfl) (W3) rfl rfl rfl ?_ ?_; (· (exact to_)))
  cases b3
  · repeat' (first|(refine ycf ?_;apply ybk;(·first|(exact tk_));(·rfl);(·rfl))|refine t1_ ?_|(refine ta_ ?_;intro _)|((fail_if_success (refine ybi rfl ?_));refine ybj rfl ?_ ?_<;>(intro ht;rw [ht];first|replace ht := oet_ ht|replace ht := oef_ ht|skip))|(refine ych ?_;first|(refine ybw rfl ?_ ?_<;>intro ht)|(refine ybx rfl ?_ ?_<;>intro ht)))
    exact nx_ret1 rfl (rv_tmp rfl) (fun w' s' => ⟨rfl, s'.nil⟩)
  repeat' (first|(refine ycf ?_;apply ybk;(·first|(exact tk_));(·rfl);(·rfl))|refine t1_ ?_|(refine ta_ ?_;intro _)|((fail_if_success (refine ybi rfl ?_));refine ybj rfl ?_ ?_<;>(intro ht;rw [ht];first|replace ht := oet_ ht|replace ht := oef_ ht|skip))|(refine ych ?_;first|(refine ybw rfl ?_ ?_<;>intro ht)|(refine ybx rfl ?_ ?_<;>intro ht)))
  (refine ycn (ycp Tryz.func52 rfl (by kernel_rfl) rfl) (W4) rfl rfl rfl ?_ ?_; (· (exact to_)))
  cases b4
  · repeat' (first|(refine ycf ?_;apply ybk;(·first|(exact tk_));(·rfl);(·rfl))|refine t1_ ?_|(refine ta_ ?_;intro _)|((fail_if_success (refine ybi rfl ?_));refine ybj rfl ?_ ?_<;>(intro ht;rw [ht];first|replace ht := oet_ ht|replace ht := oef_ ht|skip))|(refine ych ?_;first|(refine ybw rfl ?_ ?_<;>intro ht)|(refine ybx rfl ?_ ?_<;>intro ht)))
    exact nx_ret1 rfl (rv_tmp rfl) (fun w' s' => ⟨rfl, s'.nil⟩)
  repeat' (first|(refine ycf ?_;apply ybk;(·first|(exact tk_));(·rfl);(·rfl))|refine t1_ ?_|(refine ta_ ?_;intro _)|((fail_if_success (refine ybi rfl ?_));refine ybj rfl ?_ ?_<;>(intro ht;rw [ht];first|replace ht := oet_ ht|replace ht := oef_ ht|skip))|(refine ych ?_;first|(refine ybw rfl ?_ ?_<;>intro ht)|(refine ybx rfl ?_ ?_<;>intro ht)))
  exact nx_ret1 rfl (rv_tmp rfl) (fun w' s' => ⟨rfl, s'.nil⟩)
def boundF (key : List Int) (x : Hdr) : List Int := key ++ num8 x.ep ++ num8 x.ct ++ num8 x.cl ++ num8 x.nu ++ num4 x.past.length ++ x.past
theorem envc_len {key : List Int} {x : Hdr} {pv sv : Value} (hk : key.length = 32) : (envc key x pv sv).length = 38 := by
  simp [envc, hdc, bcs_len, hk]
theorem envc_one {key : List Int} {x : Hdr} {pv sv : Value} (h1 : pv.oneCell' = true) (h2 : sv.oneCell' = true) : ∀ u ∈ envc key x pv sv, u.oneCell' = true := fun u hu => by
  simp only [envc, hdc, List.mem_append, List.mem_cons, List.not_mem_nil, or_false] at hu
  rcases hu with hu | (rfl | rfl | rfl | rfl | rfl) | rfl
  · exact bcs_one _ u hu
  all_goals first | rfl | assumption
section
variable {h : View} {L : List Res} {b o : Nat} {key : List Int} {x : Hdr} {pv sv : Value}
theorem env_key (c : Cells h L ⟨b, o, none⟩ (envc key x pv sv)) : Cells h L ⟨b, o, none⟩ (bcs key) := by
  have := c.take (bcs key).length
  simpa [envc] using this
theorem env_head (hk : key.length = 32) (c : Cells h L ⟨b, o, none⟩ (envc key x pv sv)) : Cells h L ⟨b, o + 32, none⟩ (hdc x pv) := by
  have h1 := (c.drop 32).take 5
  have hb : (bcs key).length = 32 := by rw [bcs_len, hk]
  rw [envc, List.drop_left' hb] at h1
  exact h1
theorem env_seal (hk : key.length = 32) (c : Cells h L ⟨b, o, none⟩ (envc key x pv sv)) : CellAt h L b (o + 37) sv := by
  have hb : (bcs key).length = 32 := by rw [bcs_len, hk]
  refine c.cell ?_
  rw [envc, List.getElem?_append_right (by omega), hb]
  rfl
end
theorem eright_sp (key : List Int) (x : Hdr) (pv sv : Value) (se : List Int) (hk32 : key.length = 32) (h : View) (hp : Bs8 h pv x.past) (hs : Bs8 h sv se) (w : World) (s : St ⟨w, h, []⟩ h [] w) :
    Calls Tryz.prog 42 [.agg (envc key x pv sv).toArray].toArray w fun e w' => e = .returned (.bool (decide (x.ok ∧ 16 ≤ se.length ∧ se.length ≤ 8192))) ∧ St ⟨w, h, []⟩ h [] w' := by
  obtain ⟨_, ad, cap, rfl, hcap, _⟩ := id hs
  have hone : pv.oneCell' = true := by
    obtain ⟨_, _, _, rfl, _, _⟩ := id hp
    rfl
  refine calls_enter Tryz.func42 rfl Tryz.ntmps42 rfl s ?_
  have W0 := hright_sp x pv h hp
  have W1 := within_sp (se.length : Int) 16 8192 h
  have e : decide (x.ok ∧ 16 ≤ se.length ∧ se.length ≤ 8192) = (decide x.ok && decide ((16 : Int) ≤ (se.length : Int) ∧ (se.length : Int) ≤ 8192)) := by
    rw [Bool.eq_iff_iff]
    simp only [decide_eq_true_eq, Bool.and_eq_true]
    constructor
    · rintro ⟨a, b⟩; exact ⟨a, by omega⟩
    · rintro ⟨a, b⟩; exact ⟨a, by omega⟩
  rw [e]
  generalize decide x.ok = b0 at W0 ⊢
  repeat' (first|(refine ycf ?_;apply ybk;(·first|(apply yad;(·rfl);(·exact env_head hk32 (yaz 0 rfl));(·rfl))|(apply yae;(·rfl);(·(exact env_seal hk32 (yaz 0 rfl)))));(·rfl);(·rfl))|(refine ybg 0 rfl rfl rfl (by show (envc key x pv _).toArray.size = 38;simpa using envc_len hk32) (by show 0 + (envc key x pv _).toArray.size ≤ _;rw [List.size_toArray, envc_len hk32];exact nble rfl) (List.all_eq_true.2 (envc_one hone rfl)) (ybh (by show (envc key x pv _).length = _;rw [envc_len hk32];rfl)) rfl rfl ?_ ?_ ?_;(·(exact to_));(·(exact to_)))|refine t1_ ?_|(refine ta_ ?_;intro _)|((fail_if_success (refine ybi rfl ?_));refine ybj rfl ?_ ?_<;>(intro ht;rw [ht];first|replace ht := oet_ ht|replace ht := oef_ ht|skip))|(refine ych ?_;first|(refine ybw rfl ?_ ?_<;>intro ht)|(refine ybx rfl ?_ ?_<;>intro ht)))
  (refine ycn (ycp Tryz.func35 rfl (by kernel_rfl) rfl) (W0) rfl rfl rfl ?_ ?_; (· (exact to_)))
  cases b0
  · repeat' (first|(refine ycf ?_;apply ybk;(·first|(apply yad;(·rfl);(·exact env_head hk32 (yaz 0 rfl));(·rfl))|(apply yae;(·rfl);(·(exact env_seal hk32 (yaz 0 rfl)))));(·rfl);(·rfl))|(refine ybg 0 rfl rfl rfl (by show (envc key x pv _).toArray.size = 38;simpa using envc_len hk32) (by show 0 + (envc key x pv _).toArray.size ≤ _;rw [List.size_toArray, envc_len hk32];exact nble rfl) (List.all_eq_true.2 (envc_one hone rfl)) (ybh (by show (envc key x pv _).length = _;rw [envc_len hk32];rfl)) rfl rfl ?_ ?_ ?_;(·(exact to_));(·(exact to_)))|refine t1_ ?_|(refine ta_ ?_;intro _)|((fail_if_success (refine ybi rfl ?_));refine ybj rfl ?_ ?_<;>(intro ht;rw [ht];first|replace ht := oet_ ht|replace ht := oef_ ht|skip))|(refine ych ?_;first|(refine ybw rfl ?_ ?_<;>intro ht)|(refine ybx rfl ?_ ?_<;>intro ht)))
    exact nx_ret1 rfl (rv_tmp rfl) (fun w' s' => ⟨rfl, s'.nil⟩)
  repeat' (first|(refine ycf ?_;apply ybk;(·first|(apply yad;(·rfl);(·exact env_head hk32 (yaz 0 rfl));(·rfl))|(apply yae;(·rfl);(·(exact env_seal hk32 (yaz 0 rfl)))));(·rfl);(·rfl))|(refine ybg 0 rfl rfl rfl (by show (envc key x pv _).toArray.size = 38;simpa using envc_len hk32) (by show 0 + (envc key x pv _).toArray.size ≤ _;rw [List.size_toArray, envc_len hk32];exact nble rfl) (List.all_eq_true.2 (envc_one hone rfl)) (ybh (by show (envc key x pv _).length = _;rw [envc_len hk32];rfl)) rfl rfl ?_ ?_ ?_;(·(exact to_));(·(exact to_)))|refine t1_ ?_|(refine ta_ ?_;intro _)|((fail_if_success (refine ybi rfl ?_));refine ybj rfl ?_ ?_<;>(intro ht;rw [ht];first|replace ht := oet_ ht|replace ht := oef_ ht|skip))|(refine ych ?_;first|(refine ybw rfl ?_ ?_<;>intro ht)|(refine ybx rfl ?_ ?_<;>intro ht)))
  (refine ycn (ycp Tryz.func52 rfl (by kernel_rfl) rfl) (W1) rfl rfl rfl ?_ ?_; (· (exact to_)))
  repeat' (first|(refine ycf ?_;apply ybk;(·first|(apply yad;(·rfl);(·exact env_head hk32 (yaz 0 rfl));(·rfl))|(apply yae;(·rfl);(·(exact env_seal hk32 (yaz 0 rfl)))));(·rfl);(·rfl))|(refine ybg 0 rfl rfl rfl (by show (envc key x pv _).toArray.size = 38;simpa using envc_len hk32) (by show 0 + (envc key x pv _).toArray.size ≤ _;rw [List.size_toArray, envc_len hk32];exact nble rfl) (List.all_eq_true.2 (envc_one hone rfl)) (ybh (by show (envc key x pv _).length = _;rw [envc_len hk32];rfl)) rfl rfl ?_ ?_ ?_;(·(exact to_));(·(exact to_)))|refine t1_ ?_|(refine ta_ ?_;intro _)|((fail_if_success (refine ybi rfl ?_));refine ybj rfl ?_ ?_<;>(intro ht;rw [ht];first|replace ht := oet_ ht|replace ht := oef_ ht|skip))|(refine ych ?_;first|(refine ybw rfl ?_ ?_<;>intro ht)|(refine ybx rfl ?_ ?_<;>intro ht)))
  exact nx_ret1 rfl (rv_tmp rfl) (fun w' s' => ⟨rfl, s'.nil⟩)
end Go.Proofs.YtaofgcahmfailaaGreatDoor
end

section
namespace Go.Proofs.YtaofgcahmfailaaGreatDoor
open Go Go.Ck
set_option maxHeartbeats 4000000
theorem bclone_sp (sv : Value) (l : List Int) (h : View) (hs : Bs8 h sv l) (hl : l.length ≤ 1000000) (w : World) (s : St ⟨w, h, []⟩ h [] w) :
    Calls Tryz.prog 38 [sv].toArray w fun e w' => ∃ v, e = .returned v ∧ St ⟨w, h, []⟩ h [rowB v l] w' ∧ True := by
  obtain ⟨_, ad, cap, rfl, hcap, _⟩ := id hs
  refine calls_enter Tryz.func38 rfl Tryz.ntmps38 rfl s ?_
  repeat' (first|(refine ycf ?_;apply ybk;(·first|(first|(apply qv_eql_slnil<;>rfl)));(·rfl);(·rfl))|refine t1_ ?_|(refine ta_ ?_;intro _)|((fail_if_success (refine ybi rfl ?_));refine ybj rfl ?_ ?_<;>(intro ht;rw [ht];first|replace ht := oet_ ht|replace ht := oef_ ht|skip))|(refine ych ?_;first|(refine ybw rfl ?_ ?_<;>intro ht)|(refine ybx rfl ?_ ?_<;>intro ht)))
  · cases ad with
    | some ad => cases ht
    | none =>
      have h0 : l = [] := by
        obtain ⟨h1, ad', cap', h2, h3, h4⟩ := hs
        cases h2
        rcases h4 with h4 | ⟨b, o, cs, e, fz, q1, _⟩
        · have := congrArg List.length h4
          rw [bcs_len] at this
          exact List.eq_nil_of_length_eq_zero this
        · cases q1
      subst h0
      refine nx_ret1 rfl (rv_tmp rfl) (fun w' s' => ⟨_, rfl, ?_, trivial⟩)
      exact s'.rowNil _ _
  · refine yba ma_buildSlice0 rfl rfl rfl ybf (fun _ => ybf) ?_
    intro b
    refine rx_rowOf 1 0 0 (by omega) (by unfold maxLen; omega) rfl ?_
    repeat' (first|(refine ycf ?_;apply ybk;(·first|(first|(apply qv_eql_slnil<;>rfl)));(·rfl);(·rfl))|refine t1_ ?_|(refine ta_ ?_;intro _)|((fail_if_success (refine ybi rfl ?_));refine ybj rfl ?_ ?_<;>(intro ht;rw [ht];first|replace ht := oet_ ht|replace ht := oef_ ht|skip))|(refine ych ?_;first|(refine ybw rfl ?_ ?_<;>intro ht)|(refine ybx rfl ?_ ?_<;>intro ht)))
    refine rx_append_sc (sz := 1) 0 rfl rfl rfl hs (bcs_one l) rfl (by omega) (by unfold maxLen; omega) (by omega) rfl rfl rfl ybf (fun _ => ybf) ?_
    intro v' _
    repeat' (first|(refine ycf ?_;apply ybk;(·first|(first|(apply qv_eql_slnil<;>rfl)));(·rfl);(·rfl))|refine t1_ ?_|(refine ta_ ?_;intro _)|((fail_if_success (refine ybi rfl ?_));refine ybj rfl ?_ ?_<;>(intro ht;rw [ht];first|replace ht := oet_ ht|replace ht := oef_ ht|skip))|(refine ych ?_;first|(refine ybw rfl ?_ ?_<;>intro ht)|(refine ybx rfl ?_ ?_<;>intro ht)))
    refine nx_ret1 rfl (rv_tmp rfl) (fun w' s' => ⟨_, rfl, ?_, trivial⟩)
    simpa using s'
theorem bound_sp (key : List Int) (q : Hdr) (pv sv : Value) (hk32 : key.length = 32) (hok : q.ok) (hsv : sv.oneCell' = true) (h : View) (hp : Bs8 h pv q.past) (w : World) (s : St ⟨w, h, []⟩ h [] w) :
    Calls Tryz.prog 39 [.agg (envc key q pv sv).toArray].toArray w fun e w' => ∃ y : Nat × Value, e = .returned (.pointer (some ⟨y.1, 0, none⟩)) ∧ St ⟨w, h, []⟩ h [outR y.1 y.2 false, rowB y.2 (boundF key q)] w' ∧ True := by
  obtain ⟨_, ad, cap, rfl, hcap, _⟩ := id hp
  obtain ⟨⟨e1, e2⟩, ⟨c1, c2⟩, ⟨d1, d2⟩, ⟨n1, n2⟩, pl⟩ := id hok
  refine calls_enter Tryz.func39 rfl Tryz.ntmps39 rfl s ?_
  repeat' (first|(refine ycf ?_;apply ybk;(·first|(apply yad;(·rfl);(·exact env_head hk32 (yaz 0 rfl));(·rfl)));(·rfl);(·rfl))|(refine ybg 0 rfl rfl rfl (by show (envc key q _ _).toArray.size = 38;simpa using envc_len hk32) (by show 0 + (envc key q _ _).toArray.size ≤ _;rw [List.size_toArray, envc_len hk32];exact nble rfl) (List.all_eq_true.2 (envc_one rfl hsv)) (ybh (by show (envc key q _ _).length = _;rw [envc_len hk32];rfl)) rfl rfl ?_ ?_ ?_;(·(exact to_));(·(exact to_)))|refine t1_ ?_|(refine ta_ ?_;intro _)|((fail_if_success (refine ybi rfl ?_));refine ybj rfl ?_ ?_<;>(intro ht;rw [ht];first|replace ht := oet_ ht|replace ht := oef_ ht|skip))|(refine ych ?_;first|(refine ybw rfl ?_ ?_<;>intro ht)|(refine ybx rfl ?_ ?_<;>intro ht)))
  rename_i be bh bo
  refine cx_perm (perm_at (k := 2) rfl) ?_
  refine cx_bpersist rfl fun hn => ?_
  have hcells : (addV h be (Obj.cells (Value.agg (envc key q (Value.slice ad q.past.length cap) sv).toArray).cells 90)) be = some (.cells (envc key q (Value.slice ad q.past.length cap) sv).toArray 90 (0, 0)) := by
    unfold addV
    rw [if_pos rfl]
    rfl
  have hle1 : Le h (addV h be (Obj.cells (Value.agg (envc key q (Value.slice ad q.past.length cap) sv).toArray).cells 90)) := fun z o hz => by
    unfold addV
    by_cases hzb : z = be
    · subst hzb; rw [hn] at hz; cases hz
    · rw [if_neg hzb]; exact hz
  have hp1 := hp.mono hle1
  generalize hv1 : addV h be _ = h1 at *
  have hkey : Bs8 h1 (.slice (some ⟨be, 0, none⟩) 32 32) key := by
    have hb := bcs_len key
    refine ⟨by rw [hb, Nat.mul_one], _, _, by rw [hk32], by rw [hk32]; exact Nat.le_refl _, .inr ⟨be, 0, _, _, _, rfl, hcells, fun j u hj => ?_⟩⟩
    have hjl : j < (bcs key).length := (List.getElem?_eq_some_iff.1 hj).1
    show (envc key q _ _).toArray[0 + j]? = _
    rw [Nat.zero_add, List.getElem?_toArray, envc, List.getElem?_append_left hjl]
    exact hj
  refine cx_row 5 1 ?_
  refine cx_perm (List.Perm.swap _ _ _) ?_
  refine cx_region_draw [Res.blk bh (.cells (hdc q (.slice ad q.past.length cap)).toArray 86 (0, 0))] rfl (by kernel_rfl) ?_
  repeat' (refine ycf ?_;(first|(first|(apply ybm;(·(first|(exact qv_slice_arr rfl)|exact tq_));(·rfl);(·rfl);(·(exact fun _ s => Hd.sub s (Le.refl h1) (fun r hr => List.mem_cons_of_mem _ (List.mem_cons_of_mem _ hr)))))|refine ybl rfl rfl ?_|((fail_if_success (refine ybi rfl ?_));refine ybj rfl ?_ ?_<;>(intro ht;rw [ht];first|replace ht := oet_ ht|replace ht := oef_ ht|skip))|(refine tb_ ?_ ?_ ?_;(·(first|exact ybf|(refine .inl ?_;(exact fun _ s => Hd.sub s (Le.refl h1) (fun r hr => List.mem_cons_of_mem _ (List.mem_cons_of_mem _ hr))))|exact to_));(·intro _;(first|exact ybf|(refine .inl ?_;(exact fun _ s => Hd.sub s (Le.refl h1) (fun r hr => List.mem_cons_of_mem _ (List.mem_cons_of_mem _ hr))))|exact to_));intro _)|(first|(refine tqs_ ?_ ?_ ?_;(·(first|exact ybf|(refine .inl ?_;(exact fun _ s => Hd.sub s (Le.refl h1) (fun r hr => List.mem_cons_of_mem _ (List.mem_cons_of_mem _ hr))))|exact to_));(·(first|exact ybf|(refine .inl ?_;(exact fun _ s => Hd.sub s (Le.refl h1) (fun r hr => List.mem_cons_of_mem _ (List.mem_cons_of_mem _ hr))))|exact to_))))|(apply ybn;(·(first|(exact qv_slice_arr rfl)|exact tq_));(·rfl);(·rfl);(·rfl);(·(first|exact ybf|(refine .inl ?_;(exact fun _ s => Hd.sub s (Le.refl h1) (fun r hr => List.mem_cons_of_mem _ (List.mem_cons_of_mem _ hr))))|exact to_))))|refine ycg ?_))
  (refine rx_call_2 (ycp Tryz.func56 rfl (by kernel_rfl) rfl) (OutFixed_sp bo (.slice none 0 0) [] false _ key (by simp;omega) h1 hkey) rfl rfl rfl ?_ ?_ ?_;(·(first|exact ybf|(refine .inl ?_;(exact fun _ s => Hd.sub s (Le.refl h1) (fun r hr => List.mem_cons_of_mem _ (List.mem_cons_of_mem _ hr))))|exact to_));(·intro _ _ hle;(first|exact ybf|(refine .inl ?_;(exact fun _ s => Hd.sub s (Le.refl h1) (fun r hr => List.mem_cons_of_mem _ (List.mem_cons_of_mem _ hr))))|exact to_));intro x px hle)
  repeat' (refine ycf ?_;(first|(first|(apply ybm;(·exact tq_);(·rfl);(·rfl);(·(exact fun _ s => Hd.sub s (Le.refl h1) (fun r hr => List.mem_cons_of_mem _ (List.mem_cons_of_mem _ hr)))))|refine ybl rfl rfl ?_|((fail_if_success (refine ybi rfl ?_));refine ybj rfl ?_ ?_<;>(intro ht;rw [ht];first|replace ht := oet_ ht|replace ht := oef_ ht|skip))|(refine tb_ ?_ ?_ ?_;(·(first|exact ybf|(refine .inl ?_;(exact fun _ s => Hd.sub s (Le.refl h1) (fun r hr => List.mem_cons_of_mem _ (List.mem_cons_of_mem _ hr))))|exact to_));(·intro _;(first|exact ybf|(refine .inl ?_;(exact fun _ s => Hd.sub s (Le.refl h1) (fun r hr => List.mem_cons_of_mem _ (List.mem_cons_of_mem _ hr))))|exact to_));intro _)|(first|(refine tqs_ ?_ ?_ ?_;(·(first|exact ybf|(refine .inl ?_;(exact fun _ s => Hd.sub s (Le.refl h1) (fun r hr => List.mem_cons_of_mem _ (List.mem_cons_of_mem _ hr))))|exact to_));(·(first|exact ybf|(refine .inl ?_;(exact fun _ s => Hd.sub s (Le.refl h1) (fun r hr => List.mem_cons_of_mem _ (List.mem_cons_of_mem _ hr))))|exact to_))))|(apply ybn;(·exact tq_);(·rfl);(·rfl);(·rfl);(·(first|exact ybf|(refine .inl ?_;(exact fun _ s => Hd.sub s (Le.refl h1) (fun r hr => List.mem_cons_of_mem _ (List.mem_cons_of_mem _ hr))))|exact to_))))|refine ycg ?_))
  (refine rx_call_2 (ycp Tryz.func48 rfl (by kernel_rfl) rfl) (OutNum_sp bo x _ false q.ep (by omega) (by omega) (by simp;omega) h1) rfl rfl rfl ?_ ?_ ?_;(·(first|exact ybf|(refine .inl ?_;(exact fun _ s => Hd.sub s (Le.refl h1) (fun r hr => List.mem_cons_of_mem _ (List.mem_cons_of_mem _ hr))))|exact to_));(·intro _ _ hle;(first|exact ybf|(refine .inl ?_;(exact fun _ s => Hd.sub s (Le.refl h1) (fun r hr => List.mem_cons_of_mem _ (List.mem_cons_of_mem _ hr))))|exact to_));intro x px hle)
  repeat' (refine ycf ?_;(first|(first|(apply ybm;(·exact tq_);(·rfl);(·rfl);(·(exact fun _ s => Hd.sub s (Le.refl h1) (fun r hr => List.mem_cons_of_mem _ (List.mem_cons_of_mem _ hr)))))|refine ybl rfl rfl ?_|((fail_if_success (refine ybi rfl ?_));refine ybj rfl ?_ ?_<;>(intro ht;rw [ht];first|replace ht := oet_ ht|replace ht := oef_ ht|skip))|(refine tb_ ?_ ?_ ?_;(·(first|exact ybf|(refine .inl ?_;(exact fun _ s => Hd.sub s (Le.refl h1) (fun r hr => List.mem_cons_of_mem _ (List.mem_cons_of_mem _ hr))))|exact to_));(·intro _;(first|exact ybf|(refine .inl ?_;(exact fun _ s => Hd.sub s (Le.refl h1) (fun r hr => List.mem_cons_of_mem _ (List.mem_cons_of_mem _ hr))))|exact to_));intro _)|(first|(refine tqs_ ?_ ?_ ?_;(·(first|exact ybf|(refine .inl ?_;(exact fun _ s => Hd.sub s (Le.refl h1) (fun r hr => List.mem_cons_of_mem _ (List.mem_cons_of_mem _ hr))))|exact to_));(·(first|exact ybf|(refine .inl ?_;(exact fun _ s => Hd.sub s (Le.refl h1) (fun r hr => List.mem_cons_of_mem _ (List.mem_cons_of_mem _ hr))))|exact to_))))|(apply ybn;(·exact tq_);(·rfl);(·rfl);(·rfl);(·(first|exact ybf|(refine .inl ?_;(exact fun _ s => Hd.sub s (Le.refl h1) (fun r hr => List.mem_cons_of_mem _ (List.mem_cons_of_mem _ hr))))|exact to_))))|refine ycg ?_))
  (refine rx_call_2 (ycp Tryz.func48 rfl (by kernel_rfl) rfl) (OutNum_sp bo x _ false q.ct (by omega) (by omega) (by simp [putLow_len];omega) h1) rfl rfl rfl ?_ ?_ ?_;(·(first|exact ybf|(refine .inl ?_;(exact fun _ s => Hd.sub s (Le.refl h1) (fun r hr => List.mem_cons_of_mem _ (List.mem_cons_of_mem _ hr))))|exact to_));(·intro _ _ hle;(first|exact ybf|(refine .inl ?_;(exact fun _ s => Hd.sub s (Le.refl h1) (fun r hr => List.mem_cons_of_mem _ (List.mem_cons_of_mem _ hr))))|exact to_));intro x px hle)
  repeat' (refine ycf ?_;(first|(first|(apply ybm;(·exact tq_);(·rfl);(·rfl);(·(exact fun _ s => Hd.sub s (Le.refl h1) (fun r hr => List.mem_cons_of_mem _ (List.mem_cons_of_mem _ hr)))))|refine ybl rfl rfl ?_|((fail_if_success (refine ybi rfl ?_));refine ybj rfl ?_ ?_<;>(intro ht;rw [ht];first|replace ht := oet_ ht|replace ht := oef_ ht|skip))|(refine tb_ ?_ ?_ ?_;(·(first|exact ybf|(refine .inl ?_;(exact fun _ s => Hd.sub s (Le.refl h1) (fun r hr => List.mem_cons_of_mem _ (List.mem_cons_of_mem _ hr))))|exact to_));(·intro _;(first|exact ybf|(refine .inl ?_;(exact fun _ s => Hd.sub s (Le.refl h1) (fun r hr => List.mem_cons_of_mem _ (List.mem_cons_of_mem _ hr))))|exact to_));intro _)|(first|(refine tqs_ ?_ ?_ ?_;(·(first|exact ybf|(refine .inl ?_;(exact fun _ s => Hd.sub s (Le.refl h1) (fun r hr => List.mem_cons_of_mem _ (List.mem_cons_of_mem _ hr))))|exact to_));(·(first|exact ybf|(refine .inl ?_;(exact fun _ s => Hd.sub s (Le.refl h1) (fun r hr => List.mem_cons_of_mem _ (List.mem_cons_of_mem _ hr))))|exact to_))))|(apply ybn;(·exact tq_);(·rfl);(·rfl);(·rfl);(·(first|exact ybf|(refine .inl ?_;(exact fun _ s => Hd.sub s (Le.refl h1) (fun r hr => List.mem_cons_of_mem _ (List.mem_cons_of_mem _ hr))))|exact to_))))|refine ycg ?_))
  (refine rx_call_2 (ycp Tryz.func48 rfl (by kernel_rfl) rfl) (OutNum_sp bo x _ false q.cl (by omega) (by omega) (by simp [putLow_len];omega) h1) rfl rfl rfl ?_ ?_ ?_;(·(first|exact ybf|(refine .inl ?_;(exact fun _ s => Hd.sub s (Le.refl h1) (fun r hr => List.mem_cons_of_mem _ (List.mem_cons_of_mem _ hr))))|exact to_));(·intro _ _ hle;(first|exact ybf|(refine .inl ?_;(exact fun _ s => Hd.sub s (Le.refl h1) (fun r hr => List.mem_cons_of_mem _ (List.mem_cons_of_mem _ hr))))|exact to_));intro x px hle)
  repeat' (refine ycf ?_;(first|(first|(apply ybm;(·exact tq_);(·rfl);(·rfl);(·(exact fun _ s => Hd.sub s (Le.refl h1) (fun r hr => List.mem_cons_of_mem _ (List.mem_cons_of_mem _ hr)))))|refine ybl rfl rfl ?_|((fail_if_success (refine ybi rfl ?_));refine ybj rfl ?_ ?_<;>(intro ht;rw [ht];first|replace ht := oet_ ht|replace ht := oef_ ht|skip))|(refine tb_ ?_ ?_ ?_;(·(first|exact ybf|(refine .inl ?_;(exact fun _ s => Hd.sub s (Le.refl h1) (fun r hr => List.mem_cons_of_mem _ (List.mem_cons_of_mem _ hr))))|exact to_));(·intro _;(first|exact ybf|(refine .inl ?_;(exact fun _ s => Hd.sub s (Le.refl h1) (fun r hr => List.mem_cons_of_mem _ (List.mem_cons_of_mem _ hr))))|exact to_));intro _)|(first|(refine tqs_ ?_ ?_ ?_;(·(first|exact ybf|(refine .inl ?_;(exact fun _ s => Hd.sub s (Le.refl h1) (fun r hr => List.mem_cons_of_mem _ (List.mem_cons_of_mem _ hr))))|exact to_));(·(first|exact ybf|(refine .inl ?_;(exact fun _ s => Hd.sub s (Le.refl h1) (fun r hr => List.mem_cons_of_mem _ (List.mem_cons_of_mem _ hr))))|exact to_))))|(apply ybn;(·exact tq_);(·rfl);(·rfl);(·rfl);(·(first|exact ybf|(refine .inl ?_;(exact fun _ s => Hd.sub s (Le.refl h1) (fun r hr => List.mem_cons_of_mem _ (List.mem_cons_of_mem _ hr))))|exact to_))))|refine ycg ?_))
  (refine rx_call_2 (ycp Tryz.func48 rfl (by kernel_rfl) rfl) (OutNum_sp bo x _ false q.nu (by omega) (by omega) (by simp [putLow_len];omega) h1) rfl rfl rfl ?_ ?_ ?_;(·(first|exact ybf|(refine .inl ?_;(exact fun _ s => Hd.sub s (Le.refl h1) (fun r hr => List.mem_cons_of_mem _ (List.mem_cons_of_mem _ hr))))|exact to_));(·intro _ _ hle;(first|exact ybf|(refine .inl ?_;(exact fun _ s => Hd.sub s (Le.refl h1) (fun r hr => List.mem_cons_of_mem _ (List.mem_cons_of_mem _ hr))))|exact to_));intro x px hle)
  repeat' (refine ycf ?_;(first|(first|(apply ybm;(·exact tq_);(·rfl);(·rfl);(·(exact fun _ s => Hd.sub s (Le.refl h1) (fun r hr => List.mem_cons_of_mem _ (List.mem_cons_of_mem _ hr)))))|refine ybl rfl rfl ?_|((fail_if_success (refine ybi rfl ?_));refine ybj rfl ?_ ?_<;>(intro ht;rw [ht];first|replace ht := oet_ ht|replace ht := oef_ ht|skip))|(refine tb_ ?_ ?_ ?_;(·(first|exact ybf|(refine .inl ?_;(exact fun _ s => Hd.sub s (Le.refl h1) (fun r hr => List.mem_cons_of_mem _ (List.mem_cons_of_mem _ hr))))|exact to_));(·intro _;(first|exact ybf|(refine .inl ?_;(exact fun _ s => Hd.sub s (Le.refl h1) (fun r hr => List.mem_cons_of_mem _ (List.mem_cons_of_mem _ hr))))|exact to_));intro _)|(first|(refine tqs_ ?_ ?_ ?_;(·(first|exact ybf|(refine .inl ?_;(exact fun _ s => Hd.sub s (Le.refl h1) (fun r hr => List.mem_cons_of_mem _ (List.mem_cons_of_mem _ hr))))|exact to_));(·(first|exact ybf|(refine .inl ?_;(exact fun _ s => Hd.sub s (Le.refl h1) (fun r hr => List.mem_cons_of_mem _ (List.mem_cons_of_mem _ hr))))|exact to_))))|(apply ybn;(·exact tq_);(·rfl);(·rfl);(·rfl);(·(first|exact ybf|(refine .inl ?_;(exact fun _ s => Hd.sub s (Le.refl h1) (fun r hr => List.mem_cons_of_mem _ (List.mem_cons_of_mem _ hr))))|exact to_))))|refine ycg ?_))
  (refine rx_call_2 (ycp Tryz.func43 rfl (by kernel_rfl) rfl) (OutBytes_sp bo x _ false _ q.past (by simp [putLow_len];omega) h1 hp1) rfl rfl rfl ?_ ?_ ?_;(·(first|exact ybf|(refine .inl ?_;(exact fun _ s => Hd.sub s (Le.refl h1) (fun r hr => List.mem_cons_of_mem _ (List.mem_cons_of_mem _ hr))))|exact to_));(·intro _ _ hle;(first|exact ybf|(refine .inl ?_;(exact fun _ s => Hd.sub s (Le.refl h1) (fun r hr => List.mem_cons_of_mem _ (List.mem_cons_of_mem _ hr))))|exact to_));intro x px hle)
  repeat' (refine ycf ?_;(first|(first|(apply ybm;(·exact tq_);(·rfl);(·rfl);(·(exact fun _ s => Hd.sub s (Le.refl h1) (fun r hr => List.mem_cons_of_mem _ (List.mem_cons_of_mem _ hr)))))|refine ybl rfl rfl ?_|((fail_if_success (refine ybi rfl ?_));refine ybj rfl ?_ ?_<;>(intro ht;rw [ht];first|replace ht := oet_ ht|replace ht := oef_ ht|skip))|(refine tb_ ?_ ?_ ?_;(·(first|exact ybf|(refine .inl ?_;(exact fun _ s => Hd.sub s (Le.refl h1) (fun r hr => List.mem_cons_of_mem _ (List.mem_cons_of_mem _ hr))))|exact to_));(·intro _;(first|exact ybf|(refine .inl ?_;(exact fun _ s => Hd.sub s (Le.refl h1) (fun r hr => List.mem_cons_of_mem _ (List.mem_cons_of_mem _ hr))))|exact to_));intro _)|(first|(refine tqs_ ?_ ?_ ?_;(·(first|exact ybf|(refine .inl ?_;(exact fun _ s => Hd.sub s (Le.refl h1) (fun r hr => List.mem_cons_of_mem _ (List.mem_cons_of_mem _ hr))))|exact to_));(·(first|exact ybf|(refine .inl ?_;(exact fun _ s => Hd.sub s (Le.refl h1) (fun r hr => List.mem_cons_of_mem _ (List.mem_cons_of_mem _ hr))))|exact to_))))|(apply ybn;(·exact tq_);(·rfl);(·rfl);(·rfl);(·(first|exact ybf|(refine .inl ?_;(exact fun _ s => Hd.sub s (Le.refl h1) (fun r hr => List.mem_cons_of_mem _ (List.mem_cons_of_mem _ hr))))|exact to_))))|refine ycg ?_))
  repeat' (first|refine tw_ ?_|(refine ta_ ?_;intro _)|((fail_if_success (refine ybi rfl ?_));refine ybj rfl ?_ ?_<;>(intro ht;rw [ht];first|replace ht := oet_ ht|replace ht := oef_ ht|skip))|(refine ych ?_;first|(refine ybw rfl ?_ ?_<;>intro ht)|(refine ybx rfl ?_ ?_<;>intro ht)))
  refine nx_ret1 rfl (rv_tmp rfl) (fun w' s' => ⟨(bo, x), rfl, ?_, trivial⟩)
  have s2 := St.drop (L := [_]) (s'.perm (List.perm_append_comm (l₁ := [_, _]) (l₂ := [_])))
  rw [List.nil_append] at s2
  exact s2.baseL
end Go.Proofs.YtaofgcahmfailaaGreatDoor
end

section
namespace Go.Proofs.YtaofgcahmfailaaGreatDoor
open Go Go.Ck
set_option maxHeartbeats 4000000
def inF (del : Bool) (val : List Int) : List Int := if del then [0] else 1 :: val
theorem inF_by {del : Bool} {val : List Int} (h : Bytes val) : Bytes (inF del val) := by
  unfold inF
  split
  · intro x hx; rw [List.mem_singleton.1 hx]; omega
  · intro x hx
    rcases List.mem_cons.1 hx with rfl | hx
    · omega
    · exact h x hx
theorem inF_len {del : Bool} {val : List Int} (h : del = false → val.length ≤ 3999) : (inF del val).length ≤ 4000 := by
  unfold inF
  split
  · simp
  · rename_i hd
    have := h (by simpa using hd)
    simp; omega
theorem Hdr.ok.sealk {q : Hdr} (h : q.ok) : sealOk q.ep q.cl q.ct := by
  obtain ⟨⟨e1, e2⟩, ⟨c1, c2⟩, ⟨d1, d2⟩, ⟨n1, n2⟩, pl⟩ := h
  exact ⟨⟨d1, d2, c1, c2⟩, e1, e2⟩
def zEnv : Array Value := (envc (List.replicate 32 0) ⟨0, 0, 0, 0, []⟩ (.slice none 0 0) (.slice none 0 0)).toArray
theorem boundF_len {key : List Int} {q : Hdr} (hk : key.length = 32) : (boundF key q).length = 68 + q.past.length := by
  simp only [boundF, num8, List.length_append, List.length_reverse, putLow_len, num4_len]
  omega
theorem spl_seal {key : List Int} {q : Hdr} {pv s0 sv : Value} (hk : key.length = 32) : spl (envc key q pv s0) (0 + 37) [sv] = envc key q pv sv := by
  have hb : (bcs key).length = 32 := by rw [bcs_len, hk]
  unfold envc hdc
  generalize bcs key = l at hb ⊢
  have t37 : l.take 37 = l := List.take_of_length_le (by omega)
  have d38 : l.drop 38 = [] := List.drop_eq_nil_of_le (by omega)
  simp [spl, hb, List.take_append, List.drop_append, t37, d38]
theorem fill_env {key : List Int} {q : Hdr} {pv : Value} (hol : (bcs key).length = 32) : fillL (fun i : Nat => ([(0, 32), (32, 5), (37, 1)] : List (Nat × Nat))[i]?) zEnv.toList [(0, .agg (bcs key).toArray), (1, .agg (hdc q pv).toArray)] = some (envc key q pv (.slice none 0 0)) := by
  have hz : zEnv.toList = List.replicate 32 (.int .u8 0) ++ [.int .i64 0, .int .i64 0, .int .i64 0, .int .i64 0, .slice none 0 0, .slice none 0 0] := rfl
  rw [hz]
  unfold envc hdc
  generalize bcs key = l at hol ⊢
  have d37 : l.drop 37 = [] := List.drop_eq_nil_of_le (by omega)
  simp [fillL, spl, hol, Value.cells, List.drop_append, d37]
theorem ESeal_sp (bv : Nat) (key : List Int) (bn bu bt : Nat) (N : List (List Int)) (U : List UseK) (T : Tab) (nm val : List Int) (vn vv pv : Value) (q : Hdr) (del : Bool) (hk : Bytes key) (hk32 : key.length = 32)
    (hN : Names N) (hNl : N.length < 900000) (hU : U.length < 900000) (hT : Held U T) (hnm : Bytes nm) (hnl : 1 ≤ nm.length ∧ nm.length ≤ 64) (hok : q.ok) (hnew : (q.cl, q.ct) ∉ U) (yv : Bytes val) (hvl : del = false → val.length ≤ 3999)
    (h : View) (hv : Vb h bv true key bn bu bt) (hsn : Bs8 h vn nm) (hsv : Bs8 h vv val) (hsp : Bs8 h pv q.past) (w : World) (s : St ⟨w, h, doms [nmR bn N, usR bu U, tbR bt T]⟩ h [nmR bn N, usR bu U, tbR bt T] w) :
    Calls Tryz.prog 25 [.pointer (some ⟨bv, 0, none⟩), vn, .agg (hdc q pv).toArray, vv, .bool del].toArray w fun e w' => ∃ y : View × Value × Value × Value, e = .returned (.tuple #[.agg (envc (blindF key N nm) q y.2.1 y.2.2.1).toArray, .int .i64 0]) ∧
      St ⟨w, h, doms [nmR bn N, usR bu U, tbR bt T]⟩ y.1 [rowB y.2.1 q.past, rowB y.2.2.1 (sealF key U (padW (inF del val))), nmR bn (addN N nm), usR bu (U ++ [(q.cl, q.ct)]),
        tbR bt (T ++ [((q.cl, q.ct, q.ep, bstr (boundF (blindF key N nm) q), bstr (sealF key U (padW (inF del val)))), y.2.2.2, padW (inF del val))])] w' ∧ Bs8 y.1 y.2.2.2 (padW (inF del val)) := by
  obtain ⟨_, adn, capn, rfl, hcapn, _⟩ := id hsn
  obtain ⟨_, adv, capv, rfl, hcapv, _⟩ := id hsv
  obtain ⟨_, adp, capp, rfl, hcapp, _⟩ := id hsp
  have HR := hright_sp q _ h hsp
  have HN := name_sp _ nm h hsn
  have e1 : decide q.ok = true := by simpa using hok
  have e2 : decide (1 ≤ nm.length ∧ nm.length ≤ 64) = true := by simpa using hnl
  rw [e1] at HR
  rw [e2] at HN
  refine calls_enter Tryz.func25 rfl Tryz.ntmps25 rfl s ?_
  repeat' (first|(refine ycf ?_;apply ybk;(·first|(first|exact tk_|(apply qv_eql_pnil<;>rfl)|(apply qv_nilCheck;rfl)));(·rfl);(·rfl))|refine t1_ ?_|(refine ta_ ?_;intro _)|((fail_if_success (refine ybi rfl ?_));refine ybj rfl ?_ ?_<;>(intro ht;rw [ht];first|replace ht := oet_ ht|replace ht := oef_ ht|skip))|(refine ych ?_;first|(refine ybw rfl ?_ ?_<;>intro ht)|(refine ybx rfl ?_ ?_<;>intro ht)))
  (refine ycn (ycp Tryz.func34 rfl (by kernel_rfl) rfl) (HN) rfl rfl rfl ?_ ?_; (· (exact to_)))
  repeat' (first|(refine ycf ?_;apply ybk;(·first|(first|exact tk_|(apply qv_eql_pnil<;>rfl)|(apply qv_nilCheck;rfl)));(·rfl);(·rfl))|refine t1_ ?_|(refine ta_ ?_;intro _)|((fail_if_success (refine ybi rfl ?_));refine ybj rfl ?_ ?_<;>(intro ht;rw [ht];first|replace ht := oet_ ht|replace ht := oef_ ht|skip))|(refine ych ?_;first|(refine ybw rfl ?_ ?_<;>intro ht)|(refine ybx rfl ?_ ?_<;>intro ht)))
  (refine ycn (ycp Tryz.func35 rfl (by kernel_rfl) rfl) (HR) rfl rfl rfl ?_ ?_; (· (exact to_)))
  iterate 12 (first|(refine ycf ?_;apply ybk;(·first|(exact tk_));(·rfl);(·rfl))|refine t1_ ?_|(refine ta_ ?_;intro _)|((fail_if_success (refine ybi rfl ?_));refine ybj rfl ?_ ?_<;>(intro ht;rw [ht];first|replace ht := oet_ ht|replace ht := oef_ ht|skip))|(refine ych ?_;first|(refine ybw rfl ?_ ?_<;>intro ht)|(refine ybx rfl ?_ ?_<;>intro ht)))
  rename_i b7 b10 bi
  refine yby ?_
  refine ybo ?_
  have hil := inF_len hvl
  have hiy := inF_by (del := del) yv
  refine cx_cut (X := Value) (fun y => [(0, .pointer (some ⟨bv, 0, none⟩)), (1, .slice adn nm.length capn), (7, .pointer (some ⟨b7, 0, none⟩)), (10, .pointer (some ⟨b10, 0, none⟩)), (12, y)]) (fun _ => h) (fun y => [rowB y (inF del val), Res.blk b10 (.cells zEnv 90 (0, 0)), Res.blk b7 (.cells (hdc q (.slice adp q.past.length capp)).toArray 86 (0, 0)), nmR bn N, usR bu U, tbR bt T]) (fun _ => True) ?_ ?_
  · cases del with
    | true =>
      repeat' (first|(refine ycf ?_;apply ybk;(·first|(exact tk_));(·rfl);(·rfl))|refine t1_ ?_|(refine ta_ ?_;intro _)|((fail_if_success (refine ybi rfl ?_));refine ybj rfl ?_ ?_<;>(intro ht;rw [ht];first|replace ht := oet_ ht|replace ht := oef_ ht|skip))|(refine ych ?_;first|(refine ybw rfl ?_ ?_<;>intro ht)|(refine ybx rfl ?_ ?_<;>intro ht)))
      refine nx_cut (.slice (some ⟨bi, 0, none⟩) 1 1) trivial ts_ (fun w' s' => ?_)
      exact s'.rowOf (k := 1) (m := 1) (cap := 1) (Nat.le_refl _) (by unfold maxLen; omega) rfl
    | false =>
      have hvl := hvl rfl
      repeat' (first|(refine ycf ?_;apply ybk;(·first|(exact tk_));(·rfl);(·rfl))|refine t1_ ?_|(refine ta_ ?_;intro _)|((fail_if_success (refine ybi rfl ?_));refine ybj rfl ?_ ?_<;>(intro ht;rw [ht];first|replace ht := oet_ ht|replace ht := oef_ ht|skip))|(refine ych ?_;first|(refine ybw rfl ?_ ?_<;>intro ht)|(refine ybx rfl ?_ ?_<;>intro ht)))
      refine rx_rowOf 1 1 1 (Nat.le_refl _) (by unfold maxLen; omega) rfl ?_
      refine rx_append_sc (sz := 1) 0 rfl rfl rfl hsv (bcs_one val) rfl (by omega) (by unfold maxLen; omega) (by omega) rfl rfl rfl ybf (fun _ => ybf) ?_
      intro v2 _
      repeat' (first|(refine ycf ?_;apply ybk;(·first|(exact tk_));(·rfl);(·rfl))|refine t1_ ?_|(refine ta_ ?_;intro _)|((fail_if_success (refine ybi rfl ?_));refine ybj rfl ?_ ?_<;>(intro ht;rw [ht];first|replace ht := oet_ ht|replace ht := oef_ ht|skip))|(refine ych ?_;first|(refine ybw rfl ?_ ?_<;>intro ht)|(refine ybx rfl ?_ ?_<;>intro ht)))
      refine nx_cut v2 trivial ts_ (fun w' s' => ?_)
      have s2 := (s'.perm (perm_at (k := 1) rfl)).tl
      have e : (inF false val).length = 1 + val.length := by simp [inF]; omega
      unfold rowB
      rw [e]
      exact s2
  intro vi _
  generalize inF del val = ins at *
  have hpd := padW_len hil
  have hsz := sizeF_bd (n := (ins.length : Nat)) (by omega) (by omega)
  refine yby ?_
  repeat' (first|(refine ycf ?_;apply ybk;(·first|(exact tk_));(·rfl);(·rfl))|refine t1_ ?_|(refine ta_ ?_;intro _)|((fail_if_success (refine ybi rfl ?_));refine ybj rfl ?_ ?_<;>(intro ht;rw [ht];first|replace ht := oet_ ht|replace ht := oef_ ht|skip))|(refine ych ?_;first|(refine ybw rfl ?_ ?_<;>intro ht)|(refine ybx rfl ?_ ?_<;>intro ht)))
  refine rx_call_lendx (u := fun y : Value => .tuple #[y, .int .i64 0]) (LL := fun y => [rowB y (padW ins)]) 0 (ycp Tryz.func36 rfl (by kernel_rfl) rfl) rfl (fun h' _ hsc w s => Pad_sp vi ins hil h' hsc w s) rfl rfl rfl ybf (fun _ => ybf) ?_
  intro vp
  refine rx_persistA (by intro z hz; simp only [doms, List.flatMap_cons, List.flatMap_nil, List.mem_append, Res.mp, List.mem_singleton] at hz ⊢; simp; rcases hz with hz | hz | hz; (· simp_all); (· simp_all); (· simp_all)) fun h1 hle1 hvp => ?_
  have hvp : Bs8 h1 vp (padW ins) := hvp
  obtain ⟨_, adq, capq, rfl, hcapq, _⟩ := id hvp
  have hv1 := hv.mono hle1
  have hsn1 := hsn.mono hle1
  have hsp1 := hsp.mono hle1
  repeat' (first|(refine ycf ?_;apply ybk;(·first|(exact tk_));(·rfl);(·rfl))|refine t1_ ?_|(refine ta_ ?_;intro _)|((fail_if_success (refine ybi rfl ?_));refine ybj rfl ?_ ?_<;>(intro ht;rw [ht];first|replace ht := oet_ ht|replace ht := oef_ ht|skip))|(refine ych ?_;first|(refine ybw rfl ?_ ?_<;>intro ht)|(refine ybx rfl ?_ ?_<;>intro ht)))
  (refine rx_call_m (ycp Tryz.func37 rfl (by kernel_rfl) rfl) (perm_at (k := 3) rfl) (Blind_sp bv key bn bu bt N _ nm hk hk32 hN hNl hnm hnl h1 hv1 hsn1) rfl rfl rfl ?_ ?_ ?_; (· (exact to_)); (· intro _ _ hle; (exact to_)); intro x px hle)
  have hb32 : (blindF key N nm).length = 32 := drawF_len _ _ _ _ (by omega)
  have hby : Bytes (blindF key N nm) := drawF_by _ _ _ _
  generalize hbk : blindF key N nm = bk at hb32 hby ⊢
  have hol : (bcs bk).length = 32 := by rw [bcs_len, hb32]
  clear px hle
  repeat' (first|(refine ycf ?_;apply ybk;(·first|(exact tk_));(·rfl);(·rfl))|(refine ybg 0 rfl rfl rfl (by show (bcs bk).toArray.size = 32;simpa using hol) (by show 0 + (bcs bk).toArray.size ≤ _;rw [List.size_toArray, hol];exact nble rfl) (List.all_eq_true.2 (bcs_one bk)) (ybh (by show (bcs bk).length = _;rw [hol];rfl)) rfl rfl ?_ ?_ ?_;(·(exact to_));(·(exact to_)))|refine t1_ ?_|(refine ta_ ?_;intro _)|((fail_if_success (refine ybi rfl ?_));refine ybj rfl ?_ ?_<;>(intro ht;rw [ht];first|replace ht := oet_ ht|replace ht := oef_ ht|skip))|(refine ych ?_;first|(refine ybw rfl ?_ ?_<;>intro ht)|(refine ybx rfl ?_ ?_<;>intro ht)))
  have hpl : q.past.length ≤ 1000000 := by have := hok.2.2.2.2; omega
  (refine yco (ycp Tryz.func38 rfl (by kernel_rfl) rfl) (bclone_sp _ q.past h1 hsp1 hpl) rfl rfl rfl ?_ ?_ ?_; (· (exact to_)); (· intro _ _ hle; (exact to_)); intro x px hle)
  rename_i pc _ _
  refine rx_rowsl 0 rfl fun adx capx hpx => ?_
  subst hpx
  repeat' (first|(refine ycf ?_;apply ybk;(·first|(first|exact tk_|(apply yad;(·rfl);(·exact yaz 1 rfl);(·exact hol))|(apply yax (cs := envc bk q (.slice adx q.past.length capx) (.slice none 0 0));(·rfl);(·exact fill_env hol))));(·rfl);(·rfl))|refine t1_ ?_|(refine ta_ ?_;intro _)|((fail_if_success (refine ybi rfl ?_));refine ybj rfl ?_ ?_<;>(intro ht;rw [ht];first|replace ht := oet_ ht|replace ht := oef_ ht|skip))|(refine ych ?_;first|(refine ybw rfl ?_ ?_<;>intro ht)|(refine ybx rfl ?_ ?_<;>intro ht)))
  repeat' (first|(refine ycf ?_;apply ybk;(·first|(first|exact tk_|(apply yad;(·rfl);(·exact yaz 0 rfl);(·exact envc_len hb32))));(·rfl);(·rfl))|(refine ybg 0 rfl rfl rfl (by show (envc bk q _ _).toArray.size = 38;simpa using envc_len hb32) (by show 0 + (envc bk q _ _).toArray.size ≤ _;rw [List.size_toArray, envc_len hb32];exact nble rfl) (List.all_eq_true.2 (envc_one rfl rfl)) (ybh (by show (envc bk q _ _).length = _;rw [envc_len hb32];rfl)) rfl rfl ?_ ?_ ?_;(·(exact to_));(·(exact to_)))|refine t1_ ?_|(refine ta_ ?_;intro _)|((fail_if_success (refine ybi rfl ?_));refine ybj rfl ?_ ?_<;>(intro ht;rw [ht];first|replace ht := oet_ ht|replace ht := oef_ ht|skip))|(refine ych ?_;first|(refine ybw rfl ?_ ?_<;>intro ht)|(refine ybx rfl ?_ ?_<;>intro ht)))
  refine rx_call_lendx (u := fun y : Nat × Value => .pointer (some ⟨y.1, 0, none⟩)) (LL := fun y => [outR y.1 y.2 false, rowB y.2 (boundF bk q)]) 1 (ycp Tryz.func39 rfl (by kernel_rfl) rfl) rfl (fun h' _ hsc w s => bound_sp bk q _ _ hb32 hok rfl h' hsc w s) rfl rfl rfl ybf (fun _ => ybf) ?_
  rintro ⟨bo, vo⟩
  dsimp only
  have hbl := boundF_len (q := q) hb32
  repeat' (first|(refine ycf ?_;apply ybk;(·first|(exact tk_));(·rfl);(·rfl))|refine t1_ ?_|(refine ta_ ?_;intro _)|((fail_if_success (refine ybi rfl ?_));refine ybj rfl ?_ ?_<;>(intro ht;rw [ht];first|replace ht := oet_ ht|replace ht := oef_ ht|skip))|(refine ych ?_;first|(refine ybw rfl ?_ ?_<;>intro ht)|(refine ybx rfl ?_ ?_<;>intro ht)))
  (refine rx_call_2 (ycp Tryz.func40 rfl (by kernel_rfl) rfl) (Done_sp bo vo (boundF bk q) (by rw [hbl]; have := hok.2.2.2.2; omega) h1) rfl rfl rfl ?_ ?_ ?_; (· (exact to_)); (· intro _ _ hle; (exact to_)); intro x px hle)
  refine rx_persistA (by intro z hz; simp only [doms, List.flatMap_cons, List.flatMap_nil, List.mem_append, Res.mp, List.mem_singleton] at hz ⊢; simp; rcases hz with hz | hz | hz; (· simp_all); (· simp_all); (· simp_all)) fun h2 hle2 hvw => ?_
  have hvw : Bs8 h2 x (boundF bk q) := hvw
  obtain ⟨_, adw, capw, rfl, hcapw, _⟩ := id hvw
  have hv2 := hv1.mono hle2
  have hvp2 := hvp.mono hle2
  repeat' (first|(refine ycf ?_;apply ybk;(·first|(exact tk_)|(apply yae;(·rfl);(·(exact yay 8 rfl rfl))));(·rfl);(·rfl))|refine t1_ ?_|(refine ta_ ?_;intro _)|((fail_if_success (refine ybi rfl ?_));refine ybj rfl ?_ ?_<;>(intro ht;rw [ht];first|replace ht := oet_ ht|replace ht := oef_ ht|skip))|(refine ych ?_;first|(refine ybw rfl ?_ ?_<;>intro ht)|(refine ybx rfl ?_ ?_<;>intro ht)))
  have hpp : (padW ins).length ≤ 5000 := by omega
  refine rx_call_l (ycp Tryz.func41 rfl (by kernel_rfl) rfl) (pick2 9 9 rfl rfl) (VSeal_sp bv key bn bu bt U T q.ep q.cl q.ct _ _ (boundF bk q) (padW ins) hk hk32 hU hT hok.sealk hnew hpp h2 hv2 hvw hvp2) rfl rfl rfl ybf (fun _ _ _ => ybf) ?_
  rintro ⟨h3, vs, tv⟩ htv hle3
  dsimp only at htv hle3 ⊢
  refine rx_rowsl 0 rfl fun ads caps hps => ?_
  subst hps
  repeat' (first|(refine ycf ?_;apply ybk;(·first|(first|exact tk_|(apply yad;(·rfl);(·exact yaz 5 rfl);(·exact envc_len hb32))));(·rfl);(·rfl))|(first|(refine ybg 5 rfl rfl rfl rfl (by show 0 + 37 + 1 ≤ (envc bk q _ _).toArray.size;rw [List.size_toArray, envc_len hb32];omega) rfl (spl_seal hb32) rfl rfl ?_ ?_ ?_;(·(exact to_));(·(exact to_)))|(refine ybg 10 rfl rfl rfl (by show (envc bk q _ _).toArray.size = 38;simpa using envc_len hb32) (by show 0 + (envc bk q _ _).toArray.size ≤ _;rw [List.size_toArray, envc_len hb32];exact nble rfl) (List.all_eq_true.2 (envc_one rfl rfl)) (ybh (by show (envc bk q _ _).length = _;rw [envc_len hb32];rfl)) rfl rfl ?_ ?_ ?_;(·(exact to_));(·(exact to_))))|refine t1_ ?_|(refine ta_ ?_;intro _)|((fail_if_success (refine ybi rfl ?_));refine ybj rfl ?_ ?_<;>(intro ht;rw [ht];first|replace ht := oet_ ht|replace ht := oef_ ht|skip))|(refine ych ?_;first|(refine ybw rfl ?_ ?_<;>intro ht)|(refine ybx rfl ?_ ?_<;>intro ht)))
  refine nx_ret2 rfl (rv_cells rfl (yaz 10 rfl) (envc_len hb32)) (rv_tmp rfl) (fun w' s' => ⟨(h3, .slice adx q.past.length capx, .slice ads (sealF key U (padW ins)).length caps, tv), rfl, ?_, htv⟩)
  exact s'.picks [6, 0, 6, 0, 0]
end Go.Proofs.YtaofgcahmfailaaGreatDoor
end

section
namespace Go.Proofs.YtaofgcahmfailaaGreatDoor
open Go Go.Ck
set_option maxHeartbeats 4000000
def vlF (l : List Int) : List Int × Bool × Int := if l.length = 1 ∧ l.getD 0 0 = 0 then ([], true, 0) else if 0 < l.length ∧ l.getD 0 0 = 1 then (l.drop 1, false, 0) else ([], false, 2)
def valF (p : List Int) : List Int × Bool × Int := if cutOk p then vlF (cutV p) else ([], false, 2)
theorem value_sp (v : Value) (p : List Int) (yb : Bytes p) (hl : p.length ≤ 900000) (h : View) (hb : Bs8 h v p) (w : World) (s : St ⟨w, h, []⟩ h [] w) :
    Calls Tryz.prog 68 [v].toArray w fun e w' => ∃ x : View × Value, e = .returned (.tuple #[x.2, .bool (valF p).2.1, .int .i64 (valF p).2.2]) ∧ St ⟨w, h, []⟩ x.1 [] w' ∧ Bs8 x.1 x.2 (valF p).1 := by
  obtain ⟨_, ad, cap, rfl, hcap, _⟩ := id hb
  have C1 := Cut_sp _ p yb hl h hb
  unfold valF
  generalize cutOk p = ok at C1 ⊢
  generalize cutV p = l at C1 ⊢
  refine calls_enter Tryz.func68 rfl Tryz.ntmps68 rfl s ?_
  repeat' (first|refine tw_ ?_|(refine ta_ ?_;intro _)|((fail_if_success (refine ybi rfl ?_));refine ybj rfl ?_ ?_<;>(intro ht;rw [ht];first|replace ht := oet_ ht|replace ht := oef_ ht|skip))|(refine ych ?_;first|(refine ybw rfl ?_ ?_<;>intro ht)|(refine ybx rfl ?_ ?_<;>intro ht)))
  (refine yco (ycp Tryz.func84 rfl (by kernel_rfl) rfl) (C1) rfl rfl rfl ?_ ?_ ?_; (· (exact to_)); (· intro _ _ hle; (exact to_)); intro x px hle)
  obtain ⟨h1, vl⟩ := x
  dsimp only at px ⊢
  cases ok with
  | false =>
    rw [if_neg (by simp)] at px
    rw [if_neg (by simp), if_neg (by simp)]
    repeat' (first|(refine ycf ?_;apply ybk;(·first|(exact tk_));(·rfl);(·rfl))|refine t1_ ?_|(refine ta_ ?_;intro _)|((fail_if_success (refine ybi rfl ?_));refine ybj rfl ?_ ?_<;>(intro ht;rw [ht];first|replace ht := oet_ ht|replace ht := oef_ ht|skip))|(refine ych ?_;first|(refine ybw rfl ?_ ?_<;>intro ht)|(refine ybx rfl ?_ ?_<;>intro ht)))
    exact nx_ret3 rfl (rv_tmp rfl) (rv_tmp rfl) (rv_tmp rfl) (fun w' s' => ⟨(h1, .slice none 0 0), rfl, s'.nil, Sc.nil _ _ _ _⟩)
  | true =>
    rw [if_pos rfl] at px
    rw [if_pos rfl, if_pos rfl]
    obtain ⟨_, adl, capl, rfl, hcapl, _⟩ := id px
    unfold vlF
    by_cases h0 : 0 < l.length
    · obtain ⟨bl, ol, rfl⟩ := px.ad (by omega) (by omega)
      have hc : ∀ L, CellAt h1 L bl (ol + 0 * 1) (.int .u8 (l.getD 0 0)) := fun L => (px.cells (L := L)).cell (by simp [bcs, h0])
      have hdrop : Bs8 h1 (.slice (cutF (some ⟨bl, ol, none⟩) capl 1 1) (l.length - 1) (capl - 1)) (l.drop 1) := by
        have := sc_drop (j := 1) px (by omega) (by omega)
        unfold Bs8
        rw [List.length_drop]
        simpa [bcs, List.map_drop] using this
      generalize l.getD 0 0 = a at hc ⊢
      by_cases h1' : l.length = 1
      · by_cases ha : a = 0
        · rw [if_pos ⟨h1', ha⟩]
          repeat' (first|(refine ycf ?_;apply ybk;(·first|(exact tk_)|(apply yae;(·rfl);(·(exact hc _))));(·rfl);(·rfl))|refine t1_ ?_|(refine ta_ ?_;intro _)|((fail_if_success (refine ybi rfl ?_));refine ybj rfl ?_ ?_<;>(intro ht;rw [ht];first|replace ht := oet_ ht|replace ht := oef_ ht|skip))|(refine ych ?_;first|(refine ybw rfl ?_ ?_<;>intro ht)|(refine ybx rfl ?_ ?_<;>intro ht)))
          exact nx_ret3 rfl (rv_tmp rfl) (rv_tmp rfl) (rv_tmp rfl) (fun w' s' => ⟨(h1, .slice none 0 0), rfl, s'.nil, Sc.nil _ _ _ _⟩)
        · rw [if_neg (fun q => ha q.2)]
          by_cases ha1 : a = 1
          · rw [if_pos ⟨h0, ha1⟩]
            repeat' (first|(refine ycf ?_;apply ybk;(·first|(first|exact tk_|(refine qv_slice_from (i := 1) rfl rfl (by omega)))|(apply yae;(·rfl);(·(exact hc _))));(·rfl);(·rfl))|refine t1_ ?_|(refine ta_ ?_;intro _)|((fail_if_success (refine ybi rfl ?_));refine ybj rfl ?_ ?_<;>(intro ht;rw [ht];first|replace ht := oet_ ht|replace ht := oef_ ht|skip))|(refine ych ?_;first|(refine ybw rfl ?_ ?_<;>intro ht)|(refine ybx rfl ?_ ?_<;>intro ht)))
            exact nx_ret3 rfl (rv_tmp rfl) (rv_tmp rfl) (rv_tmp rfl) (fun w' s' => ⟨(h1, _), rfl, s'.nil, hdrop⟩)
          · rw [if_neg (fun q => ha1 q.2)]
            repeat' (first|(refine ycf ?_;apply ybk;(·first|(exact tk_)|(apply yae;(·rfl);(·(exact hc _))));(·rfl);(·rfl))|refine t1_ ?_|(refine ta_ ?_;intro _)|((fail_if_success (refine ybi rfl ?_));refine ybj rfl ?_ ?_<;>(intro ht;rw [ht];first|replace ht := oet_ ht|replace ht := oef_ ht|skip))|(refine ych ?_;first|(refine ybw rfl ?_ ?_<;>intro ht)|(refine ybx rfl ?_ ?_<;>intro ht)))
            exact nx_ret3 rfl (rv_tmp rfl) (rv_tmp rfl) (rv_tmp rfl) (fun w' s' => ⟨(h1, .slice none 0 0), rfl, s'.nil, Sc.nil _ _ _ _⟩)
      · rw [if_neg (fun q => h1' q.1)]
        by_cases ha1 : a = 1
        · rw [if_pos ⟨h0, ha1⟩]
          repeat' (first|(refine ycf ?_;apply ybk;(·first|(first|exact tk_|(refine qv_slice_from (i := 1) rfl rfl (by omega)))|(apply yae;(·rfl);(·(exact hc _))));(·rfl);(·rfl))|refine t1_ ?_|(refine ta_ ?_;intro _)|((fail_if_success (refine ybi rfl ?_));refine ybj rfl ?_ ?_<;>(intro ht;rw [ht];first|replace ht := oet_ ht|replace ht := oef_ ht|skip))|(refine ych ?_;first|(refine ybw rfl ?_ ?_<;>intro ht)|(refine ybx rfl ?_ ?_<;>intro ht)))
          exact nx_ret3 rfl (rv_tmp rfl) (rv_tmp rfl) (rv_tmp rfl) (fun w' s' => ⟨(h1, _), rfl, s'.nil, hdrop⟩)
        · rw [if_neg (fun q => ha1 q.2)]
          repeat' (first|(refine ycf ?_;apply ybk;(·first|(exact tk_)|(apply yae;(·rfl);(·(exact hc _))));(·rfl);(·rfl))|refine t1_ ?_|(refine ta_ ?_;intro _)|((fail_if_success (refine ybi rfl ?_));refine ybj rfl ?_ ?_<;>(intro ht;rw [ht];first|replace ht := oet_ ht|replace ht := oef_ ht|skip))|(refine ych ?_;first|(refine ybw rfl ?_ ?_<;>intro ht)|(refine ybx rfl ?_ ?_<;>intro ht)))
          exact nx_ret3 rfl (rv_tmp rfl) (rv_tmp rfl) (rv_tmp rfl) (fun w' s' => ⟨(h1, .slice none 0 0), rfl, s'.nil, Sc.nil _ _ _ _⟩)
    · rw [if_neg (fun q => by omega), if_neg (fun q => h0 q.1)]
      repeat' (first|(refine ycf ?_;apply ybk;(·first|(exact tk_));(·rfl);(·rfl))|refine t1_ ?_|(refine ta_ ?_;intro _)|((fail_if_success (refine ybi rfl ?_));refine ybj rfl ?_ ?_<;>(intro ht;rw [ht];first|replace ht := oet_ ht|replace ht := oef_ ht|skip))|(refine ych ?_;first|(refine ybw rfl ?_ ?_<;>intro ht)|(refine ybx rfl ?_ ?_<;>intro ht)))
      exact nx_ret3 rfl (rv_tmp rfl) (rv_tmp rfl) (rv_tmp rfl) (fun w' s' => ⟨(h1, .slice none 0 0), rfl, s'.nil, Sc.nil _ _ _ _⟩)
end Go.Proofs.YtaofgcahmfailaaGreatDoor
end

section
namespace Go.Proofs.YtaofgcahmfailaaGreatDoor
open Go Go.Ck
set_option maxHeartbeats 4000000
theorem arr_neq {T e m by' : Nat} {z : Value} [tu : TyU Tryz.prog T (.array m e)] [te : TyU Tryz.prog e (.int .u8)] [ta : TyA Tryz.prog e false] [tb : TyB Tryz.prog e z 1 by'] [tg : TyG Tryz.prog T] {n : Nat} {F : List (Nat × Value)} {h : View} {L : List Res} {dst : Option Nat} {ty T' : Nat} {pos : String} {af : Array Edge} {gd : Option (Nat × Bool)} {x y : Operand} {a b : List Int}
    (hx : ev F x = some (.agg (bcs a).toArray)) (hy : ev F y = some (.agg (bcs b).toArray)) (ha : a.length = m) (hb : b.length = m) : QV Tryz.prog n F h L ⟨dst, .binOp .neq T x y T', ty, pos, af, gd⟩ (.bool (!decide (a = b))) :=
  qv_neq_agg hx hy (fun w => run_equal_arr (k := .u8) a b ha hb w)
def openF (key : List Int) (N : List (List Int)) (T : Tab) (nm ek : List Int) (q : Hdr) (se : List Int) : List Int × Bool × Int :=
  if blindF key N nm = ek then match mget T (q.cl, q.ct, q.ep, bstr (boundF ek q), bstr se) with
    | some x => valF x.2
    | none => ([], false, 6)
  else ([], false, 6)
theorem EOpen_sp (bv : Nat) (key : List Int) (bn bu bt : Nat) (N : List (List Int)) (T : Tab) (nm ek se : List Int) (vn pv sv : Value) (q : Hdr) (hk : Bytes key) (hk32 : key.length = 32) (he32 : ek.length = 32)
    (hN : Names N) (hNl : N.length < 900000) (hTl : ∀ x ∈ T, x.2.2.length ≤ 900000 ∧ Bytes x.2.2) (hnm : Bytes nm) (hnl : 1 ≤ nm.length ∧ nm.length ≤ 64) (hok : q.ok) (hsl : 16 ≤ se.length ∧ se.length ≤ 8192)
    (h : View) (hT : TbOk h T) (hv : Vb h bv true key bn bu bt) (hsn : Bs8 h vn nm) (hsp : Bs8 h pv q.past) (hss : Bs8 h sv se) (w : World) (s : St ⟨w, h, doms [nmR bn N, tbR bt T]⟩ h [nmR bn N, tbR bt T] w) :
    Calls Tryz.prog 46 [.pointer (some ⟨bv, 0, none⟩), vn, .agg (envc ek q pv sv).toArray].toArray w fun e w' => ∃ y : View × Value, e = .returned (.tuple #[y.2, .bool (openF key N T nm ek q se).2.1, .int .i64 (openF key N T nm ek q se).2.2]) ∧
      St ⟨w, h, doms [nmR bn N, tbR bt T]⟩ y.1 [nmR bn (addN N nm), tbR bt T] w' ∧ Bs8 y.1 y.2 (openF key N T nm ek q se).1 := by
  obtain ⟨_, adn, capn, rfl, hcapn, _⟩ := id hsn
  obtain ⟨_, adp, capp, rfl, hcapp, _⟩ := id hsp
  obtain ⟨_, ads, caps, rfl, hcaps, _⟩ := id hss
  have HR := eright_sp ek q _ _ se he32 h hsp hss
  have HN := name_sp _ nm h hsn
  have e1 : decide (q.ok ∧ 16 ≤ se.length ∧ se.length ≤ 8192) = true := by simpa using ⟨hok, hsl⟩
  have e2 : decide (1 ≤ nm.length ∧ nm.length ≤ 64) = true := by simpa using hnl
  have hbk := drawF_len key 0 (N.idxOf nm + 1) 32 (by omega)
  have hbk : (blindF key N nm).length = 32 := hbk
  rw [e1] at HR
  rw [e2] at HN
  refine calls_enter Tryz.func46 rfl Tryz.ntmps46 rfl s ?_
  repeat' (first|(refine ycf ?_;apply ybk;(·first|(first|exact tk_|(apply qv_eql_pnil<;>rfl)|(apply qv_nilCheck;rfl)|(apply yad;(·rfl);(·exact yaz 0 rfl);(·exact envc_len he32))));(·rfl);(·rfl))|(refine ybg 0 rfl rfl rfl (by show (envc ek q _ _).toArray.size = 38;simpa using envc_len he32) (by show 0 + (envc ek q _ _).toArray.size ≤ _;rw [List.size_toArray, envc_len he32];exact nble rfl) (List.all_eq_true.2 (envc_one rfl rfl)) (ybh (by show (envc ek q _ _).length = _;rw [envc_len he32];rfl)) rfl rfl ?_ ?_ ?_;(·(exact to_));(·(exact to_)))|refine t1_ ?_|(refine ta_ ?_;intro _)|((fail_if_success (refine ybi rfl ?_));refine ybj rfl ?_ ?_<;>(intro ht;rw [ht];first|replace ht := oet_ ht|replace ht := oef_ ht|skip))|(refine ych ?_;first|(refine ybw rfl ?_ ?_<;>intro ht)|(refine ybx rfl ?_ ?_<;>intro ht)))
  (refine ycn (ycp Tryz.func34 rfl (by kernel_rfl) rfl) (HN) rfl rfl rfl ?_ ?_; (· (exact to_)))
  repeat' (first|(refine ycf ?_;apply ybk;(·first|(first|exact tk_|(apply qv_eql_pnil<;>rfl)|(apply qv_nilCheck;rfl)|(apply yad;(·rfl);(·exact yaz 0 rfl);(·exact envc_len he32))));(·rfl);(·rfl))|(refine ybg 0 rfl rfl rfl (by show (envc ek q _ _).toArray.size = 38;simpa using envc_len he32) (by show 0 + (envc ek q _ _).toArray.size ≤ _;rw [List.size_toArray, envc_len he32];exact nble rfl) (List.all_eq_true.2 (envc_one rfl rfl)) (ybh (by show (envc ek q _ _).length = _;rw [envc_len he32];rfl)) rfl rfl ?_ ?_ ?_;(·(exact to_));(·(exact to_)))|refine t1_ ?_|(refine ta_ ?_;intro _)|((fail_if_success (refine ybi rfl ?_));refine ybj rfl ?_ ?_<;>(intro ht;rw [ht];first|replace ht := oet_ ht|replace ht := oef_ ht|skip))|(refine ych ?_;first|(refine ybw rfl ?_ ?_<;>intro ht)|(refine ybx rfl ?_ ?_<;>intro ht)))
  (refine ycn (ycp Tryz.func42 rfl (by kernel_rfl) rfl) (HR) rfl rfl rfl ?_ ?_; (· (exact to_)))
  repeat' (first|(refine ycf ?_;apply ybk;(·first|(first|exact tk_|(apply qv_eql_pnil<;>rfl)|(apply qv_nilCheck;rfl)|(apply yad;(·rfl);(·exact yaz 0 rfl);(·exact envc_len he32))));(·rfl);(·rfl))|(refine ybg 0 rfl rfl rfl (by show (envc ek q _ _).toArray.size = 38;simpa using envc_len he32) (by show 0 + (envc ek q _ _).toArray.size ≤ _;rw [List.size_toArray, envc_len he32];exact nble rfl) (List.all_eq_true.2 (envc_one rfl rfl)) (ybh (by show (envc ek q _ _).length = _;rw [envc_len he32];rfl)) rfl rfl ?_ ?_ ?_;(·(exact to_));(·(exact to_)))|refine t1_ ?_|(refine ta_ ?_;intro _)|((fail_if_success (refine ybi rfl ?_));refine ybj rfl ?_ ?_<;>(intro ht;rw [ht];first|replace ht := oet_ ht|replace ht := oef_ ht|skip))|(refine ych ?_;first|(refine ybw rfl ?_ ?_<;>intro ht)|(refine ybx rfl ?_ ?_<;>intro ht)))
  (refine rx_call_m (ycp Tryz.func37 rfl (by kernel_rfl) rfl) (perm_at (k := 1) rfl) (Blind_sp bv key bn bu bt N _ nm hk hk32 hN hNl hnm hnl h hv hsn) rfl rfl rfl ?_ ?_ ?_; (· (exact to_)); (· intro _ _ hle; (exact to_)); intro x px hle)
  clear px hle
  generalize hbkk : blindF key N nm = bk at hbk ⊢
  have hol : (bcs bk).length = 32 := by rw [bcs_len, hbk]
  by_cases hbe : bk = ek
  · have hd : (!decide (bk = ek)) = false := by simpa using hbe
    have hop : openF key N T nm ek q se = (match mget T (q.cl, q.ct, q.ep, bstr (boundF ek q), bstr se) with | some x => valF x.2 | none => ([], false, 6)) := by unfold openF; rw [hbkk, if_pos hbe]
    rw [hop]
    have hneq : ∀ {n : Nat} {F : List (Nat × Value)} {h : View} {L : List Res} {dst : Option Nat} {ty T' : Nat} {pos : String} {af : Array Edge} {gd : Option (Nat × Bool)} {x y : Operand}, ev F x = some (.agg (bcs bk).toArray) → ev F y = some (.agg (bcs ek).toArray) → QV Tryz.prog n F h L ⟨dst, .binOp .neq 43 x y T', ty, pos, af, gd⟩ (.bool false) := fun hx hy => by rw [← hd]; exact arr_neq hx hy hbk he32
    repeat' (first|(refine ycf ?_;apply ybk;(·first|(first|exact tk_|(refine hneq rfl rfl)|(apply yad;(·rfl);(·exact yaz 0 rfl);(·exact hol))|(apply yad;(·rfl);(·exact env_key (yaz 2 rfl));(·rw [bcs_len, he32]))|(apply yad;(·rfl);(·exact yaz 2 rfl);(·exact envc_len he32))));(·rfl);(·rfl))|(refine ybg 0 rfl rfl rfl (by show (bcs bk).toArray.size = 32;simpa using hol) (by show 0 + (bcs bk).toArray.size ≤ _;rw [List.size_toArray, hol];exact nble rfl) (List.all_eq_true.2 (bcs_one bk)) (ybh (by show (bcs bk).length = _;rw [hol];rfl)) rfl rfl ?_ ?_ ?_;(·(exact to_));(·(exact to_)))|refine t1_ ?_|(refine ta_ ?_;intro _)|((fail_if_success (refine ybi rfl ?_));refine ybj rfl ?_ ?_<;>(intro ht;rw [ht];first|replace ht := oet_ ht|replace ht := oef_ ht|skip))|(refine ych ?_;first|(refine ybw rfl ?_ ?_<;>intro ht)|(refine ybx rfl ?_ ?_<;>intro ht)))
    have hbl := boundF_len (q := q) he32
    (refine yco (ycp Tryz.func39 rfl (by kernel_rfl) rfl) (bound_sp ek q _ _ he32 hok rfl h hsp) rfl rfl rfl ?_ ?_ ?_; (· (exact to_)); (· intro _ _ hle; (exact to_)); intro x px hle)
    obtain ⟨bo, vo⟩ := x
    clear px hle
    repeat' (first|(refine ycf ?_;apply ybk;(·first|(exact tk_));(·rfl);(·rfl))|refine t1_ ?_|(refine ta_ ?_;intro _)|((fail_if_success (refine ybi rfl ?_));refine ybj rfl ?_ ?_<;>(intro ht;rw [ht];first|replace ht := oet_ ht|replace ht := oef_ ht|skip))|(refine ych ?_;first|(refine ybw rfl ?_ ?_<;>intro ht)|(refine ybx rfl ?_ ?_<;>intro ht)))
    (refine rx_call_2 (ycp Tryz.func40 rfl (by kernel_rfl) rfl) (Done_sp bo vo (boundF ek q) (by rw [hbl]; have := hok.2.2.2.2; omega) h) rfl rfl rfl ?_ ?_ ?_; (· (exact to_)); (· intro _ _ hle; (exact to_)); intro x px hle)
    refine rx_persistA (by intro z hz; simp only [doms, List.flatMap_cons, List.flatMap_nil, List.mem_append, Res.mp, List.mem_singleton] at hz ⊢; simp; rcases hz with hz | hz; (· simp_all); (· simp_all)) fun h2 hle2 hvw => ?_
    have hvw : Bs8 h2 x (boundF ek q) := hvw
    obtain ⟨_, adw, capw, rfl, hcapw, _⟩ := id hvw
    have hv2 := hv.mono hle2
    have hT2 := hT.mono hle2
    have hss2 := hss.mono hle2
    repeat' (first|(refine ycf ?_;apply ybk;(·first|(exact tk_)|(apply yae;(·rfl);(·(first|exact (env_head he32 (yaz 4 rfl)).cell (j := 0) rfl|exact (env_head he32 (yaz 4 rfl)).cell (j := 1) rfl|exact (env_head he32 (yaz 4 rfl)).cell (j := 2) rfl|exact env_seal he32 (yaz 4 rfl)))));(·rfl);(·rfl))|refine t1_ ?_|(refine ta_ ?_;intro _)|((fail_if_success (refine ybi rfl ?_));refine ybj rfl ?_ ?_<;>(intro ht;rw [ht];first|replace ht := oet_ ht|replace ht := oef_ ht|skip))|(refine ych ?_;first|(refine ybw rfl ?_ ?_<;>intro ht)|(refine ybx rfl ?_ ?_<;>intro ht)))
    subst hbe
    cases hx : mget T (q.cl, q.ct, q.ep, bstr (boundF bk q), bstr se) with
    | none =>
      refine rx_call_m (ycp Tryz.func67 rfl (by kernel_rfl) rfl) (perm_at (k := 5) rfl) (VOpen_none bv key bn bu bt T q.ep q.cl q.ct _ _ (boundF bk q) se hk32 hok.sealk hsl.1 hx h2 hv2 hvw hss2) rfl rfl rfl ybf (fun _ _ _ => ybf) ?_
      intro _ _ _
      repeat' (first|(refine ycf ?_;apply ybk;(·first|(exact tk_));(·rfl);(·rfl))|refine t1_ ?_|(refine ta_ ?_;intro _)|((fail_if_success (refine ybi rfl ?_));refine ybj rfl ?_ ?_<;>(intro ht;rw [ht];first|replace ht := oet_ ht|replace ht := oef_ ht|skip))|(refine ych ?_;first|(refine ybw rfl ?_ ?_<;>intro ht)|(refine ybx rfl ?_ ?_<;>intro ht)))
      refine nx_ret3 rfl (rv_tmp rfl) (rv_tmp rfl) (rv_tmp rfl) (fun w' s' => ⟨(h2, .slice none 0 0), rfl, ?_, Sc.nil _ _ _ _⟩)
      exact s'.picks [4, 0]
    | some r =>
      have hr : r.2.length ≤ 900000 ∧ Bytes r.2 := hTl _ (mget_mem hx)
      refine rx_call_m (ycp Tryz.func67 rfl (by kernel_rfl) rfl) (perm_at (k := 5) rfl) (VOpen_some bv key bn bu bt T q.ep q.cl q.ct _ _ (boundF bk q) se r hk32 hok.sealk hsl.1 hx (by omega) h2 hT2 hv2 hvw hss2) rfl rfl rfl ybf (fun _ _ _ => ybf) ?_
      intro vo2 _ _
      refine rx_persistA (by intro z hz; simp only [doms, List.flatMap_cons, List.flatMap_nil, List.mem_append, Res.mp, List.mem_singleton] at hz ⊢; simp; rcases hz with hz | hz; (· simp_all); (· simp_all)) fun h3 hle3 hvo => ?_
      have hvo : Bs8 h3 vo2 r.2 := hvo
      obtain ⟨_, ado, capo, rfl, hcapo, _⟩ := id hvo
      repeat' (first|(refine ycf ?_;apply ybk;(·first|(exact tk_));(·rfl);(·rfl))|refine t1_ ?_|(refine ta_ ?_;intro _)|((fail_if_success (refine ybi rfl ?_));refine ybj rfl ?_ ?_<;>(intro ht;rw [ht];first|replace ht := oet_ ht|replace ht := oef_ ht|skip))|(refine ych ?_;first|(refine ybw rfl ?_ ?_<;>intro ht)|(refine ybx rfl ?_ ?_<;>intro ht)))
      (refine yco (ycp Tryz.func68 rfl (by kernel_rfl) rfl) (value_sp _ r.2 hr.2 hr.1 h3 hvo) rfl rfl rfl ?_ ?_ ?_; (· (exact to_)); (· intro _ _ hle; (exact to_)); intro x px hle)
      obtain ⟨h4, vr⟩ := x
      dsimp only at px ⊢
      repeat' (first|(refine ycf ?_;apply ybk;(·first|(exact tk_));(·rfl);(·rfl))|refine t1_ ?_|(refine ta_ ?_;intro _)|((fail_if_success (refine ybi rfl ?_));refine ybj rfl ?_ ?_<;>(intro ht;rw [ht];first|replace ht := oet_ ht|replace ht := oef_ ht|skip))|(refine ych ?_;first|(refine ybw rfl ?_ ?_<;>intro ht)|(refine ybx rfl ?_ ?_<;>intro ht)))
      refine nx_ret3 rfl (rv_tmp rfl) (rv_tmp rfl) (rv_tmp rfl) (fun w' s' => ⟨(h4, vr), rfl, ?_, px⟩)
      exact s'.picks [4, 0]
  · have hd : (!decide (bk = ek)) = true := by simpa using hbe
    have hop : openF key N T nm ek q se = ([], false, 6) := by unfold openF; rw [hbkk, if_neg hbe]
    rw [hop]
    have hneq : ∀ {n : Nat} {F : List (Nat × Value)} {h : View} {L : List Res} {dst : Option Nat} {ty T' : Nat} {pos : String} {af : Array Edge} {gd : Option (Nat × Bool)} {x y : Operand}, ev F x = some (.agg (bcs bk).toArray) → ev F y = some (.agg (bcs ek).toArray) → QV Tryz.prog n F h L ⟨dst, .binOp .neq 43 x y T', ty, pos, af, gd⟩ (.bool true) := fun hx hy => by rw [← hd]; exact arr_neq hx hy hbk he32
    repeat' (first|(refine ycf ?_;apply ybk;(·first|(first|exact tk_|(refine hneq rfl rfl)|(apply yad;(·rfl);(·exact yaz 0 rfl);(·exact hol))|(apply yad;(·rfl);(·exact env_key (yaz 2 rfl));(·rw [bcs_len, he32]))));(·rfl);(·rfl))|(refine ybg 0 rfl rfl rfl (by show (bcs bk).toArray.size = 32;simpa using hol) (by show 0 + (bcs bk).toArray.size ≤ _;rw [List.size_toArray, hol];exact nble rfl) (List.all_eq_true.2 (bcs_one bk)) (ybh (by show (bcs bk).length = _;rw [hol];rfl)) rfl rfl ?_ ?_ ?_;(·(exact to_));(·(exact to_)))|refine t1_ ?_|(refine ta_ ?_;intro _)|((fail_if_success (refine ybi rfl ?_));refine ybj rfl ?_ ?_<;>(intro ht;rw [ht];first|replace ht := oet_ ht|replace ht := oef_ ht|skip))|(refine ych ?_;first|(refine ybw rfl ?_ ?_<;>intro ht)|(refine ybx rfl ?_ ?_<;>intro ht)))
    refine nx_ret3 rfl (rv_tmp rfl) (rv_tmp rfl) (rv_tmp rfl) (fun w' s' => ⟨(h, .slice none 0 0), rfl, ?_, Sc.nil _ _ _ _⟩)
    exact s'.picks [1, 2]
end Go.Proofs.YtaofgcahmfailaaGreatDoor
end

section
namespace Go.Proofs.YtaofgcahmfailaaGreatDoor
open Go Go.Ck
set_option maxHeartbeats 4000000
abbrev W64 := BitVec 64
def m26 : W64 := 67108863#64
def loadF (low high above : W64) : List W64 := [low &&& m26, (low >>> 26) &&& m26, ((low >>> 52) ||| (high <<< 12)) &&& m26, (high >>> 14) &&& m26, (high >>> 40) ||| (above <<< 24)]
def plusK (a b : List W64) : Nat → List W64
  | 0 => a
  | k + 1 => (plusK a b k).set k ((plusK a b k).getD k 0 + b.getD k 0)
def plusF (a b : List W64) : List W64 := plusK a b 5
end Go.Proofs.YtaofgcahmfailaaGreatDoor
end

section
namespace Go.Proofs.YtaofgcahmfailaaGreatDoor
open Go Go.Ck
set_option maxHeartbeats 4000000
def cstep (s : List W64 × W64) (i : Nat) : List W64 × W64 :=
  let s1 := s.1.set i (s.1.getD i 0 + s.2)
  (s1.set i (s1.getD i 0 &&& m26), s1.getD i 0 >>> 26)
def cpass (s : List W64 × W64) : Nat → List W64 × W64
  | 0 => s
  | k + 1 => cstep (cpass s k) k
def cout (x : List W64) : Nat → List W64 × W64
  | 0 => (x, 0)
  | j + 1 => ((cpass (cout x j) 5).1, (cpass (cout x j) 5).2 * 5)
def carryF (x : List W64) : List W64 := (cout x 2).1.set 0 ((cout x 2).1.getD 0 0 + (cout x 2).2)
end Go.Proofs.YtaofgcahmfailaaGreatDoor
end

section
namespace Go.Proofs.YtaofgcahmfailaaGreatDoor
open Go Go.Ck
set_option maxHeartbeats 4000000
def mprod (x y : List W64) (i k : Nat) : W64 := if 5 ≤ i + k then x.getD i 0 * y.getD k 0 * 5 else x.getD i 0 * y.getD k 0
def mstep (x y o : List W64) (i k : Nat) : List W64 := o.set ((i + k) % 5) (o.getD ((i + k) % 5) 0 + mprod x y i k)
def mtin (x y : List W64) (i : Nat) (o : List W64) : Nat → List W64
  | 0 => o
  | k + 1 => mstep x y (mtin x y i o k) i k
def mtout (x y : List W64) : Nat → List W64
  | 0 => [0, 0, 0, 0, 0]
  | i + 1 => mtin x y i (mtout x y i) 5
def timesF (x y : List W64) : List W64 := carryF (mtout x y 5)
end Go.Proofs.YtaofgcahmfailaaGreatDoor
end
