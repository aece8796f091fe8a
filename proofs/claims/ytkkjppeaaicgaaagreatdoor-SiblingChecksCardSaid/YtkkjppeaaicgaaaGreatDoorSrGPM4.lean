/-
  Part 4 of a proof: DotB DotC DotD DotE DotG DotH DotI.
  Conditions: each theorem states its own.
-/
import Derived.Shelf.SlSortCmp.NoneTotal
import Derived.Test.YtkkjppeaaicgaaaGreatDoorSrGPM3
section
namespace Go.Proofs.YtkkjppeaaicgaaaGreatDoor
open Go Go.Ck
set_option maxRecDepth 100000
set_option linter.unusedVariables false
theorem or2_sp (x y : Int) (b T : Nat) (h : View) (w : World) (s : St ⟨w, h, doms [Res.blk b (.cells #[.int .i64 x, .int .i64 y] T)]⟩ h [Res.blk b (.cells #[.int .i64 x, .int .i64 y] T)] w) :
    Calls Tryz.prog 30 [Value.slice (some ⟨b, 0, none⟩) 2 2].toArray w fun e w' => ∃ u : Unit, e = .returned (.int .i64 (if x ≠ 0 then x else y)) ∧ St ⟨w, h, doms [Res.blk b (.cells #[.int .i64 x, .int .i64 y] T)]⟩ h [Res.blk b (.cells #[.int .i64 x, .int .i64 y] T)] w' ∧ True := by
  refine calls_enter Tryz.func30 rfl Tryz.ntmps30 rfl s ?_
  repeat' (first|refine tw_ ?_|(refine ta_ ?_;intro _)|((fail_if_success (refine ybi rfl ?_));refine ybj rfl ?_ ?_<;>(intro ht;rw [ht];first|replace ht := oet_ ht|replace ht := oef_ ht|skip))|(refine ych ?_;first|(refine ybw rfl ?_ ?_<;>intro ht)|(refine ybx rfl ?_ ?_<;>intro ht)))
  refine cx_loop (X := Nat) (fun k => [(3, .int .i64 0), (6, .slice (some ⟨b, 0, none⟩) 2 2), (7, .int .i64 2), (8, .int .i64 k)]) (fun _ => h) (fun _ => _) (fun k => k ≤ 2 ∧ (0 < k → x = 0) ∧ (1 < k → y = 0)) (fun k => 2 - k) 0 (by omega) ?_ (fun _ s => s) ?_
  · exact .cons rfl rfl (.cons rfl rfl (.cons rfl rfl (.cons rfl rfl .nil)))
  rintro k ⟨hk, h1, h2⟩
  by_cases h0 : k = 0
  · subst h0
    repeat' (first|refine tw_ ?_|(refine ta_ ?_;intro _)|((fail_if_success (refine ybi rfl ?_));refine ybj rfl ?_ ?_<;>(intro ht;rw [ht];first|replace ht := oet_ ht|replace ht := oef_ ht|skip))|(refine ych ?_;first|(refine ybw rfl ?_ ?_<;>intro ht)|(refine ybx rfl ?_ ?_<;>intro ht)))
    · refine nx_ret1 rfl (rv_tmp rfl) (fun w' s' => ⟨(), ?_, s', trivial⟩)
      rw [if_pos (by assumption)]
    · refine nx_round 1 (by omega) (by omega) ?_ (fun _ s => s)
      exact .cons rfl rfl (.cons rfl rfl (.cons rfl rfl (.cons rfl rfl .nil)))
  by_cases h0 : k = 1
  · subst h0
    repeat' (first|refine tw_ ?_|(refine ta_ ?_;intro _)|((fail_if_success (refine ybi rfl ?_));refine ybj rfl ?_ ?_<;>(intro ht;rw [ht];first|replace ht := oet_ ht|replace ht := oef_ ht|skip))|(refine ych ?_;first|(refine ybw rfl ?_ ?_<;>intro ht)|(refine ybx rfl ?_ ?_<;>intro ht)))
    · refine nx_ret1 rfl (rv_tmp rfl) (fun w' s' => ⟨(), ?_, s', trivial⟩)
      rw [if_neg (by have := h1 (by omega); simp [this])]
    · refine nx_round 2 (by omega) (by omega) ?_ (fun _ s => s)
      exact .cons rfl rfl (.cons rfl rfl (.cons rfl rfl (.cons rfl rfl .nil)))
  · have : k = 2 := by omega
    subst this
    repeat' (first|refine tw_ ?_|(refine ta_ ?_;intro _)|((fail_if_success (refine ybi rfl ?_));refine ybj rfl ?_ ?_<;>(intro ht;rw [ht];first|replace ht := oet_ ht|replace ht := oef_ ht|skip))|(refine ych ?_;first|(refine ybw rfl ?_ ?_<;>intro ht)|(refine ybx rfl ?_ ?_<;>intro ht)))
    refine nx_ret1 rfl (rv_tmp rfl) (fun w' s' => ⟨(), ?_, s', trivial⟩)
    rw [if_neg (by have := h1 (by omega); simp [this]), h2 (by omega)]
theorem order_sp (a b : Dt) (h : View) (w : World) (s : St ⟨w, h, []⟩ h [] w) :
    Calls Tryz.prog 98 [dv a, dv b].toArray w fun e w' => e = .returned (.int .i64 (ordD a b)) ∧ St ⟨w, h, []⟩ h [] w' := by
  refine calls_enter Tryz.func98 rfl Tryz.ntmps98 rfl s ?_
  repeat' (first|refine tw_ ?_|(refine ta_ ?_;intro _)|((fail_if_success (refine ybi rfl ?_));refine ybj rfl ?_ ?_<;>(intro ht;rw [ht];first|replace ht := oet_ ht|replace ht := oef_ ht|skip))|(refine ych ?_;first|(refine ybw rfl ?_ ?_<;>intro ht)|(refine ybx rfl ?_ ?_<;>intro ht)))
  refine cx_region_draw' rfl (by kernel_rfl) ?_
  repeat' (refine ycf ?_;(first|refine tz_ ?_|((fail_if_success (refine ybi rfl ?_));refine ybj rfl ?_ ?_<;>(intro ht;rw [ht];first|replace ht := oet_ ht|replace ht := oef_ ht|skip))|(refine tb_ ?_ ?_ ?_;(·exact to_);(·intro _;exact to_);intro _)|refine ycg ?_))
  (refine ycn (ycp Tryz.func31 rfl (by kernel_rfl) rfl) (compare_sp _ _ h) rfl rfl rfl ?_ ?_; (· (exact to_)))
  repeat' (refine ycf ?_;(first|refine tz_ ?_|((fail_if_success (refine ybi rfl ?_));refine ybj rfl ?_ ?_<;>(intro ht;rw [ht];first|replace ht := oet_ ht|replace ht := oef_ ht|skip))|(refine tb_ ?_ ?_ ?_;(·exact to_);(·intro _;exact to_);intro _)|refine ycg ?_))
  (refine ycn (ycp Tryz.func31 rfl (by kernel_rfl) rfl) (compare_sp _ _ h) rfl rfl rfl ?_ ?_; (· (exact to_)))
  repeat' (refine ycf ?_;(first|refine tz_ ?_|((fail_if_success (refine ybi rfl ?_));refine ybj rfl ?_ ?_<;>(intro ht;rw [ht];first|replace ht := oet_ ht|replace ht := oef_ ht|skip))|(refine tb_ ?_ ?_ ?_;(·exact to_);(·intro _;exact to_);intro _)|refine ycg ?_))
  (refine rx_call_m (ycp Tryz.func30 rfl (by kernel_rfl) rfl) (perm_at (k := 0) rfl) (or2_sp _ _ _ _ h) rfl rfl rfl ?_ ?_ ?_; (· (exact to_)); (· intro _ _ hle; (exact to_)); intro x px hle)
  repeat' (refine ycf ?_;(first|refine tz_ ?_|((fail_if_success (refine ybi rfl ?_));refine ybj rfl ?_ ?_<;>(intro ht;rw [ht];first|replace ht := oet_ ht|replace ht := oef_ ht|skip))|(refine tb_ ?_ ?_ ?_;(·exact to_);(·intro _;exact to_);intro _)|refine ycg ?_))
  repeat' (first|refine tw_ ?_|(refine ta_ ?_;intro _)|((fail_if_success (refine ybi rfl ?_));refine ybj rfl ?_ ?_<;>(intro ht;rw [ht];first|replace ht := oet_ ht|replace ht := oef_ ht|skip))|(refine ych ?_;first|(refine ybw rfl ?_ ?_<;>intro ht)|(refine ybx rfl ?_ ?_<;>intro ht)))
  exact nx_ret1 rfl (rv_tmp rfl) (fun w' s' => ⟨rfl, s'.nil⟩)
end Go.Proofs.YtkkjppeaaicgaaaGreatDoor
end

section
namespace Go.Proofs.YtkkjppeaaicgaaaGreatDoor
open Go Go.Ck
set_option maxRecDepth 100000
set_option linter.unusedVariables false
theorem dcs_len (d : Dt) : (dcs d).length = 2 := rfl
abbrev Ds (h : View) (v : Value) (l : List Dt) : Prop := Sc h 2 v l.length (l.flatMap dcs)
def up (u : List Int) : List Value := u.map (Value.int .i64)
def cxc (u : List Int) (mv : Value) : List Value := up u ++ [mv]
def cxv (u : List Int) (mv : Value) : Value := .agg (cxc u mv).toArray
structure Cx (h : View) (v : Value) (u : List Int) (l : List Dt) : Prop where
  len : u.length = 16
  val : ∃ mv, v = cxv u mv ∧ Ds h mv l
theorem cxc_up {u : List Int} {mv : Value} {i : Nat} (hi : i < u.length) : (cxc u mv)[i]? = some (.int .i64 (u.getD i 0)) := by
  simp [cxc, up, List.getElem?_append, hi]
theorem cxc_more {u : List Int} {mv : Value} (hu : u.length = 16) : (cxc u mv)[16]? = some mv := by
  simp [cxc, up, hu]
theorem ycl {h : View} {L : List Res} {b o : Nat} {u : List Int} {mv : Value} (c : Cells h L ⟨b, 0, none⟩ (cxc u mv)) (i : Nat) (ho : o = 0 + i) (hi : i < u.length) : CellAt h L b o (.int .i64 (u.getD i 0)) := by
  subst ho; exact c.cell (cxc_up hi)
theorem yck {h : View} {L : List Res} {b o : Nat} {u : List Int} {mv : Value} (c : Cells h L ⟨b, 0, none⟩ (cxc u mv)) (hu : u.length = 16) (ho : o = 0 + 16) : CellAt h L b o mv := by
  subst ho; exact c.cell (cxc_more hu)
theorem ycm {h : View} {L : List Res} {b : Nat} {u : List Int} {mv : Value} (c : Cells h L ⟨b, 0, none⟩ (cxc u mv)) : Cells h L ⟨b, 0, none⟩ (up u) := by
  have := c.take (up u).length
  simpa [cxc] using this
theorem ycj {u : List Int} {mv : Value} (hu : u.length = 16) : (cxc u mv).length = 17 := by simp [cxc, up, hu]
theorem dot_eq (a b : Dt) (w : World) : (Op.equal 53 (.agg (dcs a).toArray) (.agg (dcs b).toArray)).run Tryz.prog w = .ok (decide (a = b)) w := by
  unfold Op.equal Op.maxDepth
  rw [run_equalIn_struct w 9999 53 _ _ Tryz.underlying53 Tryz.stoodInHeld53]
  have h1 : ∀ i j : Int, (Op.equalIn 9999 3 (.int .i64 i) (.int .i64 j)).run Tryz.prog w = .ok (i == j) w := fun i j => run_equalIn_int w 9998 3 .i64 .i64 i j Tryz.underlying3
  simp only [Program.fieldsOf, Tryz.underlying53, Op.eqFields]
  simp [part, Tryz.isAgg3, dcs, h1]
  by_cases e1 : a.1 = b.1
  · by_cases e2 : a.2 = b.2
    · simp [e1, e2, Prod.ext_iff]
    · simp [e1, e2, Prod.ext_iff]
  · simp [e1, Prod.ext_iff]
theorem index_sp (sv : Value) (l : List Dt) (d : Dt) (h : View) (hs : Ds h sv l) (hl : l.length ≤ 4611686018427387904) (w : World) (s : St ⟨w, h, []⟩ h [] w) :
    Calls Tryz.prog 118 [sv, dv d].toArray w fun e w' => ∃ r : Int, e = .returned (.int .i64 r) ∧ St ⟨w, h, []⟩ h [] w' ∧ (0 ≤ r ↔ d ∈ l) := by
  obtain ⟨_, ad, cap, rfl, hcap, _⟩ := id hs
  refine calls_enter Tryz.func118 rfl Tryz.ntmps118 rfl s ?_
  repeat' (first|refine tw_ ?_|(refine ta_ ?_;intro _)|((fail_if_success (refine ybi rfl ?_));refine ybj rfl ?_ ?_<;>(intro ht;rw [ht];first|replace ht := oet_ ht|replace ht := oef_ ht|skip))|(refine ych ?_;first|(refine ybw rfl ?_ ?_<;>intro ht)|(refine ybx rfl ?_ ?_<;>intro ht)))
  rename_i b
  refine cx_loop (X := Nat) (fun k => [(0, .slice ad l.length cap), (3, .pointer (some ⟨b, 0, none⟩)), (7, .int .i64 l.length), (8, .int .i64 k)]) (fun _ => h) (fun _ => _) (fun k => k ≤ l.length ∧ ∀ j (hj : j < l.length), j < k → l[j] ≠ d) (fun k => l.length - k) 0 ⟨by omega, by omega⟩ ?_ (fun _ s => s) ?_
  · exact .cons rfl rfl (.cons rfl rfl (.cons rfl rfl (.cons rfl rfl .nil)))
  rintro k ⟨hk, hno⟩
  by_cases hkl : k < l.length
  · obtain ⟨bs, o, rfl⟩ := hs.ad (by omega) (by omega)
    have hel : ∀ L, Cells h L ⟨bs, o + k * 2, none⟩ (dcs l[k]) := fun L => hs.elem dcs_len k hkl
    repeat' (first|refine tw_ ?_|(refine ta_ ?_;intro _)|((fail_if_success (refine ybi rfl ?_));refine ybj rfl ?_ ?_<;>(intro ht;rw [ht];first|replace ht := oet_ ht|replace ht := oef_ ht|skip))|(refine ych ?_;first|(refine ybw rfl ?_ ?_<;>intro ht)|(refine ybx rfl ?_ ?_<;>intro ht)))
    · refine cx_region_draw' rfl (by kernel_rfl) ?_
      repeat' (refine ycf ?_;(first|(first|(apply ybm;(·(first|(first|(refine yad rfl (hel _) ?_;rfl)|exact qv_eql_agg rfl rfl (fun w => dot_eq _ _ w))|exact tq_));(·rfl);(·rfl);(·(exact th_)))|refine ybl rfl rfl ?_|((fail_if_success (refine ybi rfl ?_));refine ybj rfl ?_ ?_<;>(intro ht;rw [ht];first|replace ht := oet_ ht|replace ht := oef_ ht|skip))|(refine tb_ ?_ ?_ ?_;(·(exact to_));(·intro _;(exact to_));intro _)|(first|(refine tqs_ ?_ ?_ ?_;(·(exact to_));(·(exact to_))))|(apply ybn;(·(first|(first|(refine yad rfl (hel _) ?_;rfl)|exact qv_eql_agg rfl rfl (fun w => dot_eq _ _ w))|exact tq_));(·rfl);(·rfl);(·rfl);(·(exact to_))))|refine ycg ?_))
      repeat' (first|(refine ycf ?_;apply ybk;(·first|(first|(refine yad rfl (hel _) ?_;rfl)|exact qv_eql_agg rfl rfl (fun w => dot_eq _ _ w)));(·rfl);(·rfl))|refine t1_ ?_|(refine ta_ ?_;intro _)|((fail_if_success (refine ybi rfl ?_));refine ybj rfl ?_ ?_<;>(intro ht;rw [ht];first|replace ht := oet_ ht|replace ht := oef_ ht|skip))|(refine ych ?_;first|(refine ybw rfl ?_ ?_<;>intro ht)|(refine ybx rfl ?_ ?_<;>intro ht)))
      · refine nx_ret1 rfl (rv_tmp rfl) (fun w' s' => ⟨_, rfl, s'.nil, ?_⟩)
        subst ht
        simp
      · refine nx_round (k + 1) ⟨by omega, fun j hj hjk => ?_⟩ (by omega) ?_ (fun _ s => s)
        · by_cases hjk' : j = k
          · subst hjk'; exact fun e => ht e.symm
          · exact hno j hj (by omega)
        exact .cons rfl rfl (.cons rfl rfl (.cons rfl rfl (.cons rfl rfl .nil)))
    · omega
  · repeat' (first|(refine ycf ?_;apply ybk;(·first|(first|(refine yad rfl (hel _) ?_;rfl)|exact qv_eql_agg rfl rfl (fun w => dot_eq _ _ w)));(·rfl);(·rfl))|refine t1_ ?_|(refine ta_ ?_;intro _)|((fail_if_success (refine ybi rfl ?_));refine ybj rfl ?_ ?_<;>(intro ht;rw [ht];first|replace ht := oet_ ht|replace ht := oef_ ht|skip))|(refine ych ?_;first|(refine ybw rfl ?_ ?_<;>intro ht)|(refine ybx rfl ?_ ?_<;>intro ht)))
    · omega
    · refine nx_ret1 rfl (rv_tmp rfl) (fun w' s' => ⟨_, rfl, s'.nil, ?_⟩)
      constructor
      · intro hx; omega
      · intro hm
        obtain ⟨j, hj, rfl⟩ := List.getElem_of_mem hm
        exact absurd rfl (hno j hj (by omega))
theorem contains_sp (sv : Value) (l : List Dt) (d : Dt) (h : View) (hs : Ds h sv l) (hl : l.length ≤ 4611686018427387904) (w : World) (s : St ⟨w, h, []⟩ h [] w) :
    Calls Tryz.prog 99 [sv, dv d].toArray w fun e w' => e = .returned (.bool (decide (d ∈ l))) ∧ St ⟨w, h, []⟩ h [] w' := by
  refine calls_enter Tryz.func99 rfl Tryz.ntmps99 rfl s ?_
  repeat' (first|(refine ycf ?_;apply ybk;(·first|(first|(refine yad rfl (hel _) ?_;rfl)|exact qv_eql_agg rfl rfl (fun w => dot_eq _ _ w)));(·rfl);(·rfl))|refine t1_ ?_|(refine ta_ ?_;intro _)|((fail_if_success (refine ybi rfl ?_));refine ybj rfl ?_ ?_<;>(intro ht;rw [ht];first|replace ht := oet_ ht|replace ht := oef_ ht|skip))|(refine ych ?_;first|(refine ybw rfl ?_ ?_<;>intro ht)|(refine ybx rfl ?_ ?_<;>intro ht)))
  (refine yco (ycp Tryz.func118 rfl (by kernel_rfl) rfl) (index_sp _ l d h hs hl) rfl rfl rfl ?_ ?_ ?_; (· (exact to_)); (· intro _ _ hle; (exact to_)); intro x px hle)
  repeat' (first|(refine ycf ?_;apply ybk;(·first|(first|(refine yad rfl (hel _) ?_;rfl)|exact qv_eql_agg rfl rfl (fun w => dot_eq _ _ w)));(·rfl);(·rfl))|refine t1_ ?_|(refine ta_ ?_;intro _)|((fail_if_success (refine ybi rfl ?_));refine ybj rfl ?_ ?_<;>(intro ht;rw [ht];first|replace ht := oet_ ht|replace ht := oef_ ht|skip))|(refine ych ?_;first|(refine ybw rfl ?_ ?_<;>intro ht)|(refine ybx rfl ?_ ?_<;>intro ht)))
  refine nx_ret1 rfl (rv_tmp rfl) (fun w' s' => ⟨?_, s'.nil⟩)
  congr 2; rw [decide_eq_decide]; exact px
end Go.Proofs.YtkkjppeaaicgaaaGreatDoor
end

section
namespace Go.Proofs.YtkkjppeaaicgaaaGreatDoor
open Go Go.Ck
set_option maxRecDepth 100000
set_option maxHeartbeats 1000000
set_option linter.unusedVariables false
def uD (u : List Int) (d : Dt) : Int := u.getD (d.1 - 1).toNat 0
def hasC (u : List Int) (l : List Dt) (d : Dt) : Bool := decide (d.2 ≤ uD u d) || decide (d ∈ l)
theorem right_of {d : Dt} (hr : rightB d = true) : 1 ≤ d.1 ∧ d.1 ≤ 16 ∧ 1 ≤ d.2 ∧ d.2 ≤ 1099511627776 := by
  simp [rightB] at hr; omega
theorem has_sp (cv : Value) (u : List Int) (l : List Dt) (d : Dt) (h : View) (hc : Cx h cv u l) (hl : l.length ≤ 4611686018427387904) (hr : rightB d = true) (w : World) (s : St ⟨w, h, []⟩ h [] w) :
    Calls Tryz.prog 105 [cv, dv d].toArray w fun e w' => e = .returned (.bool (hasC u l d)) ∧ St ⟨w, h, []⟩ h [] w' := by
  obtain ⟨hu, mv, rfl, hs⟩ := hc
  have hr' := right_of hr
  refine calls_enter Tryz.func105 rfl Tryz.ntmps105 rfl s ?_
  repeat' (first|refine tw_ ?_|(refine ta_ ?_;intro _)|((fail_if_success (refine ybi rfl ?_));refine ybj rfl ?_ ?_<;>(intro ht;rw [ht];first|replace ht := oet_ ht|replace ht := oef_ ht|skip))|(refine ych ?_;first|(refine ybw rfl ?_ ?_<;>intro ht)|(refine ybx rfl ?_ ?_<;>intro ht)))
  refine cx_region_draw' rfl (by kernel_rfl) ?_
  repeat' (refine ycf ?_;(first|(first|(apply ybm;(·(first|(apply yae;(·rfl);(·(first|exact ycl (yaz 1 rfl) (d.1 - 1).toNat (by omega) (by omega)|exact yck (yaz 1 rfl) hu rfl)))|exact tq_));(·rfl);(·rfl);(·(exact th_)))|refine ybl rfl rfl ?_|((fail_if_success (refine ybi rfl ?_));refine ybj rfl ?_ ?_<;>(intro ht;rw [ht];first|replace ht := oet_ ht|replace ht := oef_ ht|skip))|(refine tb_ ?_ ?_ ?_;(·(exact to_));(·intro _;(exact to_));intro _)|(first|(refine tqs_ ?_ ?_ ?_;(·(exact to_));(·(exact to_))))|(apply ybn;(·(first|(apply yae;(·rfl);(·(first|exact ycl (yaz 1 rfl) (d.1 - 1).toNat (by omega) (by omega)|exact yck (yaz 1 rfl) hu rfl)))|exact tq_));(·rfl);(·rfl);(·rfl);(·(exact to_))))|refine ycg ?_))
  · repeat' (first|(refine ycf ?_;apply ybk;(·first|(apply yae;(·rfl);(·(first|exact ycl (yaz 1 rfl) (d.1 - 1).toNat (by omega) (by omega)|exact yck (yaz 1 rfl) hu rfl))));(·rfl);(·rfl))|refine t1_ ?_|(refine ta_ ?_;intro _)|((fail_if_success (refine ybi rfl ?_));refine ybj rfl ?_ ?_<;>(intro ht;rw [ht];first|replace ht := oet_ ht|replace ht := oef_ ht|skip))|(refine ych ?_;first|(refine ybw rfl ?_ ?_<;>intro ht)|(refine ybx rfl ?_ ?_<;>intro ht)))
    refine nx_ret1 rfl (rv_tmp rfl) (fun w' s' => ⟨?_, s'.nil⟩)
    have ht : d.2 ≤ uD u d := ht
    congr 2; unfold hasC; rw [decide_eq_true ht]; rfl
  · (refine ycn (ycp Tryz.func99 rfl (by kernel_rfl) rfl) (contains_sp _ l d h hs hl) rfl rfl rfl ?_ ?_; (· (exact to_)))
    repeat' (refine ycf ?_;(first|(first|(apply ybm;(·(first|(apply yae;(·rfl);(·(first|exact ycl (yaz 1 rfl) (d.1 - 1).toNat (by omega) (by omega)|exact yck (yaz 1 rfl) hu rfl)))|exact tq_));(·rfl);(·rfl);(·(exact th_)))|refine ybl rfl rfl ?_|((fail_if_success (refine ybi rfl ?_));refine ybj rfl ?_ ?_<;>(intro ht;rw [ht];first|replace ht := oet_ ht|replace ht := oef_ ht|skip))|(refine tb_ ?_ ?_ ?_;(·(exact to_));(·intro _;(exact to_));intro _)|(first|(refine tqs_ ?_ ?_ ?_;(·(exact to_));(·(exact to_))))|(apply ybn;(·(first|(apply yae;(·rfl);(·(first|exact ycl (yaz 1 rfl) (d.1 - 1).toNat (by omega) (by omega)|exact yck (yaz 1 rfl) hu rfl)))|exact tq_));(·rfl);(·rfl);(·rfl);(·(exact to_))))|refine ycg ?_))
    repeat' (first|(refine ycf ?_;apply ybk;(·first|(apply yae;(·rfl);(·(first|exact ycl (yaz 1 rfl) (d.1 - 1).toNat (by omega) (by omega)|exact yck (yaz 1 rfl) hu rfl))));(·rfl);(·rfl))|refine t1_ ?_|(refine ta_ ?_;intro _)|((fail_if_success (refine ybi rfl ?_));refine ybj rfl ?_ ?_<;>(intro ht;rw [ht];first|replace ht := oet_ ht|replace ht := oef_ ht|skip))|(refine ych ?_;first|(refine ybw rfl ?_ ?_<;>intro ht)|(refine ybx rfl ?_ ?_<;>intro ht)))
    refine nx_ret1 rfl (rv_tmp rfl) (fun w' s' => ⟨?_, s'.nil⟩)
    have ht : ¬ d.2 ≤ uD u d := ht
    congr 2; unfold hasC; rw [decide_eq_false ht]; rfl
def moreB (u : List Int) (l : List Dt) (i : Nat) : Bool :=
  rightB (l.getD i (0, 0)) && decide (uD u (l.getD i (0, 0)) + 1 < (l.getD i (0, 0)).2) && (decide (i = 0) || decide (ordD (l.getD (i - 1) (0, 0)) (l.getD i (0, 0)) < 0))
theorem getD_mem {u : List Int} {i : Nat} (hi : i < u.length) : u.getD i 0 ∈ u := by simp [hi]
theorem more_sp (cv : Value) (u : List Int) (l : List Dt) (i : Nat) (h : View) (hc : Cx h cv u l) (hl : l.length ≤ 4611686018427387904) (hi : i < l.length) (hub : ∀ x ∈ u, 0 ≤ x ∧ x ≤ 1099511627776) (w : World) (s : St ⟨w, h, []⟩ h [] w) :
    Calls Tryz.prog 80 [cv, .int .i64 i].toArray w fun e w' => e = .returned (.bool (moreB u l i)) ∧ St ⟨w, h, []⟩ h [] w' := by
  obtain ⟨hu, mv, rfl, hs⟩ := hc
  obtain ⟨_, ad, cap, rfl, hcap, _⟩ := id hs
  obtain ⟨bs, o, rfl⟩ := hs.ad (by omega) (by omega)
  have hel : ∀ L, Cells h L ⟨bs, o + i * 2, none⟩ (dcs l[i]) := fun L => hs.elem dcs_len i hi
  have ei : l.getD i (0, 0) = l[i] := by simp [hi]
  have hright := right_sp l[i] h
  unfold moreB
  rw [ei]
  cases hR : rightB l[i] with
  | false =>
    rw [hR] at hright
    refine calls_enter Tryz.func80 rfl Tryz.ntmps80 rfl s ?_
    repeat' (first|(refine ycf ?_;apply ybk;(·first|(first|(refine yad rfl (hel _) ?_;rfl))|(apply yae;(·rfl);(·(first|exact yck (yaz 0 rfl) hu rfl))));(·rfl);(·rfl))|refine t1_ ?_|(refine ta_ ?_;intro _)|((fail_if_success (refine ybi rfl ?_));refine ybj rfl ?_ ?_<;>(intro ht;rw [ht];first|replace ht := oet_ ht|replace ht := oef_ ht|skip))|(refine ych ?_;first|(refine ybw rfl ?_ ?_<;>intro ht)|(refine ybx rfl ?_ ?_<;>intro ht)))
    refine cx_region_draw' rfl (by kernel_rfl) ?_
    repeat' (refine ycf ?_;(first|(first|(apply ybm;(·(first|(first|(refine yad rfl (hel _) ?_;rfl))|(apply yae;(·rfl);(·(first|exact yck (yaz 0 rfl) hu rfl)))|exact tq_));(·rfl);(·rfl);(·(exact th_)))|refine ybl rfl rfl ?_|((fail_if_success (refine ybi rfl ?_));refine ybj rfl ?_ ?_<;>(intro ht;rw [ht];first|replace ht := oet_ ht|replace ht := oef_ ht|skip))|(refine tb_ ?_ ?_ ?_;(·(exact to_));(·intro _;(exact to_));intro _)|(first|(refine tqs_ ?_ ?_ ?_;(·(exact to_));(·(exact to_))))|(apply ybn;(·(first|(first|(refine yad rfl (hel _) ?_;rfl))|(apply yae;(·rfl);(·(first|exact yck (yaz 0 rfl) hu rfl)))|exact tq_));(·rfl);(·rfl);(·rfl);(·(exact to_))))|refine ycg ?_))
    (refine ycn (ycp Tryz.func64 rfl (by kernel_rfl) rfl) (hright) rfl rfl rfl ?_ ?_; (· (exact to_)))
    repeat' (refine ycf ?_;(first|(first|(apply ybm;(·(first|(first|(refine yad rfl (hel _) ?_;rfl))|(apply yae;(·rfl);(·(first|exact yck (yaz 0 rfl) hu rfl)))|exact tq_));(·rfl);(·rfl);(·(exact th_)))|refine ybl rfl rfl ?_|((fail_if_success (refine ybi rfl ?_));refine ybj rfl ?_ ?_<;>(intro ht;rw [ht];first|replace ht := oet_ ht|replace ht := oef_ ht|skip))|(refine tb_ ?_ ?_ ?_;(·(exact to_));(·intro _;(exact to_));intro _)|(first|(refine tqs_ ?_ ?_ ?_;(·(exact to_));(·(exact to_))))|(apply ybn;(·(first|(first|(refine yad rfl (hel _) ?_;rfl))|(apply yae;(·rfl);(·(first|exact yck (yaz 0 rfl) hu rfl)))|exact tq_));(·rfl);(·rfl);(·rfl);(·(exact to_))))|refine ycg ?_))
    repeat' (first|(refine ycf ?_;apply ybk;(·first|(first|(refine yad rfl (hel _) ?_;rfl))|(apply yae;(·rfl);(·(first|exact yck (yaz 0 rfl) hu rfl))));(·rfl);(·rfl))|refine t1_ ?_|(refine ta_ ?_;intro _)|((fail_if_success (refine ybi rfl ?_));refine ybj rfl ?_ ?_<;>(intro ht;rw [ht];first|replace ht := oet_ ht|replace ht := oef_ ht|skip))|(refine ych ?_;first|(refine ybw rfl ?_ ?_<;>intro ht)|(refine ybx rfl ?_ ?_<;>intro ht)))
    exact nx_ret1 rfl (rv_tmp rfl) (fun w' s' => ⟨rfl, s'.nil⟩)
  | true =>
    rw [hR] at hright
    have hr' := right_of hR
    have hb := hub _ (getD_mem (u := u) (i := (l[i].1 - 1).toNat) (by omega))
    by_cases h0 : i = 0
    · subst h0
      refine calls_enter Tryz.func80 rfl Tryz.ntmps80 rfl s ?_
      repeat' (first|(refine ycf ?_;apply ybk;(·first|(first|(refine yad rfl (hel _) ?_;rfl))|(apply yae;(·rfl);(·(first|exact yck (yaz 0 rfl) hu rfl))));(·rfl);(·rfl))|refine t1_ ?_|(refine ta_ ?_;intro _)|((fail_if_success (refine ybi rfl ?_));refine ybj rfl ?_ ?_<;>(intro ht;rw [ht];first|replace ht := oet_ ht|replace ht := oef_ ht|skip))|(refine ych ?_;first|(refine ybw rfl ?_ ?_<;>intro ht)|(refine ybx rfl ?_ ?_<;>intro ht)))
      refine cx_region_draw' rfl (by kernel_rfl) ?_
      repeat' (refine ycf ?_;(first|(first|(apply ybm;(·(first|(first|(refine yad rfl (hel _) ?_;rfl))|(apply yae;(·rfl);(·(first|exact ycl (yaz 1 rfl) (l[0].1 - 1).toNat (by omega) (by omega))))|exact tq_));(·rfl);(·rfl);(·(exact th_)))|refine ybl rfl rfl ?_|((fail_if_success (refine ybi rfl ?_));refine ybj rfl ?_ ?_<;>(intro ht;rw [ht];first|replace ht := oet_ ht|replace ht := oef_ ht|skip))|(refine tb_ ?_ ?_ ?_;(·(exact to_));(·intro _;(exact to_));intro _)|(first|(refine tqs_ ?_ ?_ ?_;(·(exact to_));(·(exact to_))))|(apply ybn;(·(first|(first|(refine yad rfl (hel _) ?_;rfl))|(apply yae;(·rfl);(·(first|exact ycl (yaz 1 rfl) (l[0].1 - 1).toNat (by omega) (by omega))))|exact tq_));(·rfl);(·rfl);(·rfl);(·(exact to_))))|refine ycg ?_))
      (refine ycn (ycp Tryz.func64 rfl (by kernel_rfl) rfl) (hright) rfl rfl rfl ?_ ?_; (· (exact to_)))
      repeat' (refine ycf ?_;(first|(first|(apply ybm;(·(first|(first|(refine yad rfl (hel _) ?_;rfl))|(apply yae;(·rfl);(·(first|exact ycl (yaz 1 rfl) (l[0].1 - 1).toNat (by omega) (by omega))))|exact tq_));(·rfl);(·rfl);(·(exact th_)))|refine ybl rfl rfl ?_|((fail_if_success (refine ybi rfl ?_));refine ybj rfl ?_ ?_<;>(intro ht;rw [ht];first|replace ht := oet_ ht|replace ht := oef_ ht|skip))|(refine tb_ ?_ ?_ ?_;(·(exact to_));(·intro _;(exact to_));intro _)|(first|(refine tqs_ ?_ ?_ ?_;(·(exact to_));(·(exact to_))))|(apply ybn;(·(first|(first|(refine yad rfl (hel _) ?_;rfl))|(apply yae;(·rfl);(·(first|exact ycl (yaz 1 rfl) (l[0].1 - 1).toNat (by omega) (by omega))))|exact tq_));(·rfl);(·rfl);(·rfl);(·(exact to_))))|refine ycg ?_))
      all_goals repeat' (first|(refine ycf ?_;apply ybk;(·first|(first|(refine yad rfl (hel _) ?_;rfl))|(apply yae;(·rfl);(·(first|exact ycl (yaz 1 rfl) (l[0].1 - 1).toNat (by omega) (by omega)))));(·rfl);(·rfl))|refine t1_ ?_|(refine ta_ ?_;intro _)|((fail_if_success (refine ybi rfl ?_));refine ybj rfl ?_ ?_<;>(intro ht;rw [ht];first|replace ht := oet_ ht|replace ht := oef_ ht|skip))|(refine ych ?_;first|(refine ybw rfl ?_ ?_<;>intro ht)|(refine ybx rfl ?_ ?_<;>intro ht)))
      all_goals (refine nx_ret1 rfl (rv_tmp rfl) (fun w' s' => ⟨?_, s'.nil⟩))
      · congr 2; simp only [uD, ‹_ < l[0].2›]; simp
      · congr 2; simp only [uD, ‹¬ _ < l[0].2›]; simp
    · have hel2 : ∀ L, Cells h L ⟨bs, o + (i - 1) * 2, none⟩ (dcs l[i - 1]) := fun L => hs.elem dcs_len (i - 1) (by omega)
      have ei2 : l.getD (i - 1) (0, 0) = l[i - 1] := by simp [show i - 1 < l.length by omega]
      rw [ei2]
      have hii : ((i : Int) - 1).toNat = i - 1 := by omega
      refine calls_enter Tryz.func80 rfl Tryz.ntmps80 rfl s ?_
      repeat' (first|(refine ycf ?_;apply ybk;(·first|(first|(refine yad rfl (hel _) ?_;rfl))|(apply yae;(·rfl);(·(first|exact yck (yaz 0 rfl) hu rfl))));(·rfl);(·rfl))|refine t1_ ?_|(refine ta_ ?_;intro _)|((fail_if_success (refine ybi rfl ?_));refine ybj rfl ?_ ?_<;>(intro ht;rw [ht];first|replace ht := oet_ ht|replace ht := oef_ ht|skip))|(refine ych ?_;first|(refine ybw rfl ?_ ?_<;>intro ht)|(refine ybx rfl ?_ ?_<;>intro ht)))
      refine cx_region_draw' rfl (by kernel_rfl) ?_
      repeat' (refine ycf ?_;(first|(first|(apply ybm;(·(first|(first|(refine yad (k := 2) rfl (vs := dcs l[i - 1]) ?_ ?_;(·rw [hii];exact hel2 _);rfl))|(apply yae;(·rfl);(·(first|exact ycl (yaz 1 rfl) (l[i].1 - 1).toNat (by omega) (by omega)|exact yck (yaz 1 rfl) hu rfl)))|exact tq_));(·rfl);(·rfl);(·(exact th_)))|refine ybl rfl rfl ?_|((fail_if_success (refine ybi rfl ?_));refine ybj rfl ?_ ?_<;>(intro ht;rw [ht];first|replace ht := oet_ ht|replace ht := oef_ ht|skip))|(refine tb_ ?_ ?_ ?_;(·(exact to_));(·intro _;(exact to_));intro _)|(first|(refine tqs_ ?_ ?_ ?_;(·(exact to_));(·(exact to_))))|(apply ybn;(·(first|(first|(refine yad (k := 2) rfl (vs := dcs l[i - 1]) ?_ ?_;(·rw [hii];exact hel2 _);rfl))|(apply yae;(·rfl);(·(first|exact ycl (yaz 1 rfl) (l[i].1 - 1).toNat (by omega) (by omega)|exact yck (yaz 1 rfl) hu rfl)))|exact tq_));(·rfl);(·rfl);(·rfl);(·(exact to_))))|refine ycg ?_))
      (refine ycn (ycp Tryz.func64 rfl (by kernel_rfl) rfl) (hright) rfl rfl rfl ?_ ?_; (· (exact to_)))
      repeat' (refine ycf ?_;(first|(first|(apply ybm;(·(first|(first|(refine yad (k := 2) rfl (vs := dcs l[i - 1]) ?_ ?_;(·rw [hii];exact hel2 _);rfl))|(apply yae;(·rfl);(·(first|exact ycl (yaz 1 rfl) (l[i].1 - 1).toNat (by omega) (by omega)|exact yck (yaz 1 rfl) hu rfl)))|exact tq_));(·rfl);(·rfl);(·(exact th_)))|refine ybl rfl rfl ?_|((fail_if_success (refine ybi rfl ?_));refine ybj rfl ?_ ?_<;>(intro ht;rw [ht];first|replace ht := oet_ ht|replace ht := oef_ ht|skip))|(refine tb_ ?_ ?_ ?_;(·(exact to_));(·intro _;(exact to_));intro _)|(first|(refine tqs_ ?_ ?_ ?_;(·(exact to_));(·(exact to_))))|(apply ybn;(·(first|(first|(refine yad (k := 2) rfl (vs := dcs l[i - 1]) ?_ ?_;(·rw [hii];exact hel2 _);rfl))|(apply yae;(·rfl);(·(first|exact ycl (yaz 1 rfl) (l[i].1 - 1).toNat (by omega) (by omega)|exact yck (yaz 1 rfl) hu rfl)))|exact tq_));(·rfl);(·rfl);(·rfl);(·(exact to_))))|refine ycg ?_))
      · omega
      · (refine ycn (ycp Tryz.func98 rfl (by kernel_rfl) rfl) (order_sp _ _ h) rfl rfl rfl ?_ ?_; (· (exact to_)))
        repeat' (refine ycf ?_;(first|(first|(apply ybm;(·(first|(first|(refine yad (k := 2) rfl (vs := dcs l[i - 1]) ?_ ?_;(·rw [hii];exact hel2 _);rfl))|(apply yae;(·rfl);(·(first|exact ycl (yaz 1 rfl) (l[i].1 - 1).toNat (by omega) (by omega)|exact yck (yaz 1 rfl) hu rfl)))|exact tq_));(·rfl);(·rfl);(·(exact th_)))|refine ybl rfl rfl ?_|((fail_if_success (refine ybi rfl ?_));refine ybj rfl ?_ ?_<;>(intro ht;rw [ht];first|replace ht := oet_ ht|replace ht := oef_ ht|skip))|(refine tb_ ?_ ?_ ?_;(·(exact to_));(·intro _;(exact to_));intro _)|(first|(refine tqs_ ?_ ?_ ?_;(·(exact to_));(·(exact to_))))|(apply ybn;(·(first|(first|(refine yad (k := 2) rfl (vs := dcs l[i - 1]) ?_ ?_;(·rw [hii];exact hel2 _);rfl))|(apply yae;(·rfl);(·(first|exact ycl (yaz 1 rfl) (l[i].1 - 1).toNat (by omega) (by omega)|exact yck (yaz 1 rfl) hu rfl)))|exact tq_));(·rfl);(·rfl);(·rfl);(·(exact to_))))|refine ycg ?_))
        repeat' (first|(refine ycf ?_;apply ybk;(·first|(first|(refine yad (k := 2) rfl (vs := dcs l[i - 1]) ?_ ?_;(·rw [hii];exact hel2 _);rfl))|(apply yae;(·rfl);(·(first|exact ycl (yaz 1 rfl) (l[i].1 - 1).toNat (by omega) (by omega)|exact yck (yaz 1 rfl) hu rfl))));(·rfl);(·rfl))|refine t1_ ?_|(refine ta_ ?_;intro _)|((fail_if_success (refine ybi rfl ?_));refine ybj rfl ?_ ?_<;>(intro ht;rw [ht];first|replace ht := oet_ ht|replace ht := oef_ ht|skip))|(refine ych ?_;first|(refine ybw rfl ?_ ?_<;>intro ht)|(refine ybx rfl ?_ ?_<;>intro ht)))
        refine nx_ret1 rfl (rv_tmp rfl) (fun w' s' => ⟨?_, s'.nil⟩)
        congr 2; simp only [uD, ‹_ < l[i].2›, h0]; simp
      · repeat' (first|(refine ycf ?_;apply ybk;(·first|(first|(refine yad (k := 2) rfl (vs := dcs l[i - 1]) ?_ ?_;(·rw [hii];exact hel2 _);rfl))|(apply yae;(·rfl);(·(first|exact ycl (yaz 1 rfl) (l[i].1 - 1).toNat (by omega) (by omega)|exact yck (yaz 1 rfl) hu rfl))));(·rfl);(·rfl))|refine t1_ ?_|(refine ta_ ?_;intro _)|((fail_if_success (refine ybi rfl ?_));refine ybj rfl ?_ ?_<;>(intro ht;rw [ht];first|replace ht := oet_ ht|replace ht := oef_ ht|skip))|(refine ych ?_;first|(refine ybw rfl ?_ ?_<;>intro ht)|(refine ybx rfl ?_ ?_<;>intro ht)))
        refine nx_ret1 rfl (rv_tmp rfl) (fun w' s' => ⟨?_, s'.nil⟩)
        congr 2; simp only [uD, ‹¬ _ < l[i].2›]; simp
def upOk (u : List Int) : Bool := u.all fun x => decide (0 ≤ x) && decide (x ≤ 1099511627776)
def moresOk (u : List Int) (l : List Dt) : Bool := (List.range l.length).all (moreB u l)
def checkC (u : List Int) (l : List Dt) : Int := if upOk u = false then 1 else if 32 < l.length then 11 else if moresOk u l = false then 1 else 0
theorem upOk_iff {u : List Int} : upOk u = true ↔ ∀ x ∈ u, 0 ≤ x ∧ x ≤ 1099511627776 := by simp [upOk, List.all_eq_true]
theorem check_sp (cv : Value) (u : List Int) (l : List Dt) (h : View) (hc : Cx h cv u l) (hl : l.length ≤ 4611686018427387904) (w : World) (s : St ⟨w, h, []⟩ h [] w) :
    Calls Tryz.prog 55 [cv].toArray w fun e w' => e = .returned (.int .i64 (checkC u l)) ∧ St ⟨w, h, []⟩ h [] w' := by
  have hc' := hc
  obtain ⟨hu, mv, rfl, hs⟩ := hc
  obtain ⟨_, ad, cap, rfl, hcap, _⟩ := id hs
  refine calls_enter Tryz.func55 rfl Tryz.ntmps55 rfl s ?_
  repeat' (first|(refine ycf ?_;apply ybk;(·first|(first|(apply yad;(·rfl);(·exact ycm (yaz 0 rfl));(·simp [up, hu])))|(apply yae;(·rfl);(·(first|exact ycl (yaz 1 rfl) (l[i].1 - 1).toNat (by omega) (by omega)|exact yck (yaz 1 rfl) hu rfl))));(·rfl);(·rfl))|refine t1_ ?_|(refine ta_ ?_;intro _)|((fail_if_success (refine ybi rfl ?_));refine ybj rfl ?_ ?_<;>(intro ht;rw [ht];first|replace ht := oet_ ht|replace ht := oef_ ht|skip))|(refine ych ?_;first|(refine ybw rfl ?_ ?_<;>intro ht)|(refine ybx rfl ?_ ?_<;>intro ht)))
  rename_i b
  refine cx_loop (X := Nat) (fun k => [(1, .pointer (some ⟨b, 0, none⟩)), (7, .agg (up u).toArray), (8, .int .i64 k)]) (fun _ => h) (fun _ => _) (fun k => k ≤ 16 ∧ ∀ j (hj : j < u.length), j < k → 0 ≤ u[j] ∧ u[j] ≤ 1099511627776) (fun k => 16 - k) 0 ⟨by omega, by omega⟩ ?_ (fun _ s => s) ?_
  · exact .cons rfl rfl (.cons rfl rfl (.cons rfl rfl .nil))
  rintro k ⟨hk, hok⟩
  by_cases hk16 : k < 16
  · have hku : k < u.length := by omega
    have hidx : (up u).toArray[((k : Int)).toNat * 1]? = some (.int .i64 u[k]) := by simp [up, hku]
    repeat' (first|(refine ycf ?_;apply ybk;(·first|(first|(apply qv_index;(·rfl);(·rfl);(·omega);(·omega);(·exact hidx)))|(apply yae;(·rfl);(·(first|exact ycl (yaz 1 rfl) (l[i].1 - 1).toNat (by omega) (by omega)|exact yck (yaz 1 rfl) hu rfl))));(·rfl);(·rfl))|refine t1_ ?_|(refine ta_ ?_;intro _)|((fail_if_success (refine ybi rfl ?_));refine ybj rfl ?_ ?_<;>(intro ht;rw [ht];first|replace ht := oet_ ht|replace ht := oef_ ht|skip))|(refine ych ?_;first|(refine ybw rfl ?_ ?_<;>intro ht)|(refine ybx rfl ?_ ?_<;>intro ht)))
    · refine nx_ret1 rfl (rv_tmp rfl) (fun w' s' => ⟨?_, s'.nil⟩)
      have : upOk u = false := by
        cases hx : upOk u with
        | false => rfl
        | true => have := upOk_iff.1 hx _ (List.getElem_mem hku); omega
      simp [checkC, this]
    · refine nx_ret1 rfl (rv_tmp rfl) (fun w' s' => ⟨?_, s'.nil⟩)
      have : upOk u = false := by
        cases hx : upOk u with
        | false => rfl
        | true => have := upOk_iff.1 hx _ (List.getElem_mem hku); omega
      simp [checkC, this]
    · refine nx_round (k + 1) ⟨by omega, fun j hj hjk => ?_⟩ (by omega) ts_ (fun _ s => s)
      by_cases hjk' : j = k
      · subst hjk'; omega
      · exact hok j hj (by omega)
    · omega
  · have hup : upOk u = true := upOk_iff.2 fun x hx => by
      obtain ⟨j, hj, rfl⟩ := List.getElem_of_mem hx
      exact hok j hj (by omega)
    have hub := upOk_iff.1 hup
    repeat' (first|(refine ycf ?_;apply ybk;(·first|(first|(apply qv_index;(·rfl);(·rfl);(·omega);(·omega);(·exact hidx)))|(apply yae;(·rfl);(·(first|exact yck (yaz 0 rfl) hu rfl))));(·rfl);(·rfl))|refine t1_ ?_|(refine ta_ ?_;intro _)|((fail_if_success (refine ybi rfl ?_));refine ybj rfl ?_ ?_<;>(intro ht;rw [ht];first|replace ht := oet_ ht|replace ht := oef_ ht|skip))|(refine ych ?_;first|(refine ybw rfl ?_ ?_<;>intro ht)|(refine ybx rfl ?_ ?_<;>intro ht)))
    · omega
    · refine nx_ret1 rfl (rv_tmp rfl) (fun w' s' => ⟨?_, s'.nil⟩)
      have : 32 < l.length := by omega
      simp [checkC, hup, this]
    refine cx_loop (X := Nat) (fun k => [(1, .pointer (some ⟨b, 0, none⟩)), (24, .int .i64 l.length), (25, .int .i64 k)]) (fun _ => h) (fun _ => _) (fun k => k ≤ l.length ∧ ∀ j, j < k → moreB u l j = true) (fun k => l.length - k) 0 ⟨by omega, by omega⟩ ts_ (fun _ s => s) ?_
    rintro j ⟨hj, hm⟩
    by_cases hjl : j < l.length
    · have hmore := more_sp _ u l j h hc' hl hjl hub
      cases hM : moreB u l j with
      | false =>
        rw [hM] at hmore
        repeat' (first|(refine ycf ?_;apply ybk;(·first|(first|(apply yad;(·rfl);(·exact yaz 0 rfl);(·exact ycj hu)))|(apply yae;(·rfl);(·(first|exact yck (yaz 0 rfl) hu rfl))));(·rfl);(·rfl))|refine t1_ ?_|(refine ta_ ?_;intro _)|((fail_if_success (refine ybi rfl ?_));refine ybj rfl ?_ ?_<;>(intro ht;rw [ht];first|replace ht := oet_ ht|replace ht := oef_ ht|skip))|(refine ych ?_;first|(refine ybw rfl ?_ ?_<;>intro ht)|(refine ybx rfl ?_ ?_<;>intro ht)))
        (refine ycn (ycp Tryz.func80 rfl (by kernel_rfl) rfl) (hmore) rfl rfl rfl ?_ ?_; (· (exact to_)))
        repeat' (first|(refine ycf ?_;apply ybk;(·first|(first|(apply yad;(·rfl);(·exact yaz 0 rfl);(·exact ycj hu)))|(apply yae;(·rfl);(·(first|exact yck (yaz 0 rfl) hu rfl))));(·rfl);(·rfl))|refine t1_ ?_|(refine ta_ ?_;intro _)|((fail_if_success (refine ybi rfl ?_));refine ybj rfl ?_ ?_<;>(intro ht;rw [ht];first|replace ht := oet_ ht|replace ht := oef_ ht|skip))|(refine ych ?_;first|(refine ybw rfl ?_ ?_<;>intro ht)|(refine ybx rfl ?_ ?_<;>intro ht)))
        refine nx_ret1 rfl (rv_tmp rfl) (fun w' s' => ⟨?_, s'.nil⟩)
        have h1 : moresOk u l = false := by
          cases hx : moresOk u l with
          | false => rfl
          | true =>
            have := List.all_eq_true.1 hx j (List.mem_range.2 hjl)
            rw [hM] at this; cases this
        simp [checkC, hup, h1]; omega
        omega
      | true =>
        rw [hM] at hmore
        repeat' (first|(refine ycf ?_;apply ybk;(·first|(first|(apply yad;(·rfl);(·exact yaz 0 rfl);(·exact ycj hu)))|(apply yae;(·rfl);(·(first|exact yck (yaz 0 rfl) hu rfl))));(·rfl);(·rfl))|refine t1_ ?_|(refine ta_ ?_;intro _)|((fail_if_success (refine ybi rfl ?_));refine ybj rfl ?_ ?_<;>(intro ht;rw [ht];first|replace ht := oet_ ht|replace ht := oef_ ht|skip))|(refine ych ?_;first|(refine ybw rfl ?_ ?_<;>intro ht)|(refine ybx rfl ?_ ?_<;>intro ht)))
        (refine ycn (ycp Tryz.func80 rfl (by kernel_rfl) rfl) (hmore) rfl rfl rfl ?_ ?_; (· (exact to_)))
        repeat' (first|(refine ycf ?_;apply ybk;(·first|(first|(apply yad;(·rfl);(·exact yaz 0 rfl);(·exact ycj hu)))|(apply yae;(·rfl);(·(first|exact yck (yaz 0 rfl) hu rfl))));(·rfl);(·rfl))|refine t1_ ?_|(refine ta_ ?_;intro _)|((fail_if_success (refine ybi rfl ?_));refine ybj rfl ?_ ?_<;>(intro ht;rw [ht];first|replace ht := oet_ ht|replace ht := oef_ ht|skip))|(refine ych ?_;first|(refine ybw rfl ?_ ?_<;>intro ht)|(refine ybx rfl ?_ ?_<;>intro ht)))
        refine nx_round (j + 1) ⟨by omega, fun i hi => ?_⟩ (by omega) ts_ (fun _ s => s)
        by_cases hij : i = j
        · subst hij; exact hM
        · exact hm i (by omega)
        omega
    · repeat' (first|(refine ycf ?_;apply ybk;(·first|(first|(apply yad;(·rfl);(·exact yaz 0 rfl);(·exact ycj hu)))|(apply yae;(·rfl);(·(first|exact yck (yaz 0 rfl) hu rfl))));(·rfl);(·rfl))|refine t1_ ?_|(refine ta_ ?_;intro _)|((fail_if_success (refine ybi rfl ?_));refine ybj rfl ?_ ?_<;>(intro ht;rw [ht];first|replace ht := oet_ ht|replace ht := oef_ ht|skip))|(refine ych ?_;first|(refine ybw rfl ?_ ?_<;>intro ht)|(refine ybx rfl ?_ ?_<;>intro ht)))
      · omega
      refine nx_ret1 rfl (rv_tmp rfl) (fun w' s' => ⟨?_, s'.nil⟩)
      have h1 : moresOk u l = true := List.all_eq_true.2 fun i hi => hm i (by have := List.mem_range.1 hi; omega)
      simp [checkC, hup, h1]; omega
theorem Has_sp (cv : Value) (u : List Int) (l : List Dt) (d : Dt) (h : View) (hc : Cx h cv u l) (hl : l.length ≤ 4611686018427387904) (w : World) (s : St ⟨w, h, []⟩ h [] w) :
    Calls Tryz.prog 68 [cv, dv d].toArray w fun e w' => e = .returned (.bool (decide (checkC u l = 0) && rightB d && hasC u l d)) ∧ St ⟨w, h, []⟩ h [] w' := by
  have hc' := hc
  obtain ⟨hu, mv, rfl, hs⟩ := hc
  have hchk := check_sp _ u l h hc' hl
  have hright := right_sp d h
  cases hR : rightB d with
  | false =>
    rw [hR] at hright
    refine calls_enter Tryz.func68 rfl Tryz.ntmps68 rfl s ?_
    repeat' (first|(refine ycf ?_;apply ybk;(·first|(first|(apply yad;(·rfl);(·exact yaz 1 rfl);(·exact ycj hu)))|(apply yae;(·rfl);(·(first|exact yck (yaz 0 rfl) hu rfl))));(·rfl);(·rfl))|refine t1_ ?_|(refine ta_ ?_;intro _)|((fail_if_success (refine ybi rfl ?_));refine ybj rfl ?_ ?_<;>(intro ht;rw [ht];first|replace ht := oet_ ht|replace ht := oef_ ht|skip))|(refine ych ?_;first|(refine ybw rfl ?_ ?_<;>intro ht)|(refine ybx rfl ?_ ?_<;>intro ht)))
    (refine ycn (ycp Tryz.func55 rfl (by kernel_rfl) rfl) (hchk) rfl rfl rfl ?_ ?_; (· (exact to_)))
    repeat' (first|(refine ycf ?_;apply ybk;(·first|(first|(apply yad;(·rfl);(·exact yaz 1 rfl);(·exact ycj hu)))|(apply yae;(·rfl);(·(first|exact yck (yaz 0 rfl) hu rfl))));(·rfl);(·rfl))|refine t1_ ?_|(refine ta_ ?_;intro _)|((fail_if_success (refine ybi rfl ?_));refine ybj rfl ?_ ?_<;>(intro ht;rw [ht];first|replace ht := oet_ ht|replace ht := oef_ ht|skip))|(refine ych ?_;first|(refine ybw rfl ?_ ?_<;>intro ht)|(refine ybx rfl ?_ ?_<;>intro ht)))
    · (refine ycn (ycp Tryz.func64 rfl (by kernel_rfl) rfl) (hright) rfl rfl rfl ?_ ?_; (· (exact to_)))
      repeat' (first|(refine ycf ?_;apply ybk;(·first|(first|(apply yad;(·rfl);(·exact yaz 1 rfl);(·exact ycj hu)))|(apply yae;(·rfl);(·(first|exact yck (yaz 0 rfl) hu rfl))));(·rfl);(·rfl))|refine t1_ ?_|(refine ta_ ?_;intro _)|((fail_if_success (refine ybi rfl ?_));refine ybj rfl ?_ ?_<;>(intro ht;rw [ht];first|replace ht := oet_ ht|replace ht := oef_ ht|skip))|(refine ych ?_;first|(refine ybw rfl ?_ ?_<;>intro ht)|(refine ybx rfl ?_ ?_<;>intro ht)))
      exact nx_ret1 rfl (rv_tmp rfl) (fun w' s' => ⟨by simp, s'.nil⟩)
    · exact nx_ret1 rfl (rv_tmp rfl) (fun w' s' => ⟨by simp, s'.nil⟩)
  | true =>
    rw [hR] at hright
    have hhas := has_sp _ u l d h hc' hl hR
    refine calls_enter Tryz.func68 rfl Tryz.ntmps68 rfl s ?_
    repeat' (first|(refine ycf ?_;apply ybk;(·first|(first|(apply yad;(·rfl);(·exact yaz 1 rfl);(·exact ycj hu)))|(apply yae;(·rfl);(·(first|exact yck (yaz 0 rfl) hu rfl))));(·rfl);(·rfl))|refine t1_ ?_|(refine ta_ ?_;intro _)|((fail_if_success (refine ybi rfl ?_));refine ybj rfl ?_ ?_<;>(intro ht;rw [ht];first|replace ht := oet_ ht|replace ht := oef_ ht|skip))|(refine ych ?_;first|(refine ybw rfl ?_ ?_<;>intro ht)|(refine ybx rfl ?_ ?_<;>intro ht)))
    (refine ycn (ycp Tryz.func55 rfl (by kernel_rfl) rfl) (hchk) rfl rfl rfl ?_ ?_; (· (exact to_)))
    repeat' (first|(refine ycf ?_;apply ybk;(·first|(first|(apply yad;(·rfl);(·exact yaz 1 rfl);(·exact ycj hu)))|(apply yae;(·rfl);(·(first|exact yck (yaz 0 rfl) hu rfl))));(·rfl);(·rfl))|refine t1_ ?_|(refine ta_ ?_;intro _)|((fail_if_success (refine ybi rfl ?_));refine ybj rfl ?_ ?_<;>(intro ht;rw [ht];first|replace ht := oet_ ht|replace ht := oef_ ht|skip))|(refine ych ?_;first|(refine ybw rfl ?_ ?_<;>intro ht)|(refine ybx rfl ?_ ?_<;>intro ht)))
    · (refine ycn (ycp Tryz.func64 rfl (by kernel_rfl) rfl) (hright) rfl rfl rfl ?_ ?_; (· (exact to_)))
      repeat' (first|(refine ycf ?_;apply ybk;(·first|(first|(apply yad;(·rfl);(·exact yaz 1 rfl);(·exact ycj hu)))|(apply yae;(·rfl);(·(first|exact yck (yaz 0 rfl) hu rfl))));(·rfl);(·rfl))|refine t1_ ?_|(refine ta_ ?_;intro _)|((fail_if_success (refine ybi rfl ?_));refine ybj rfl ?_ ?_<;>(intro ht;rw [ht];first|replace ht := oet_ ht|replace ht := oef_ ht|skip))|(refine ych ?_;first|(refine ybw rfl ?_ ?_<;>intro ht)|(refine ybx rfl ?_ ?_<;>intro ht)))
      (refine ycn (ycp Tryz.func105 rfl (by kernel_rfl) rfl) (hhas) rfl rfl rfl ?_ ?_; (· (exact to_)))
      repeat' (first|(refine ycf ?_;apply ybk;(·first|(first|(apply yad;(·rfl);(·exact yaz 1 rfl);(·exact ycj hu)))|(apply yae;(·rfl);(·(first|exact yck (yaz 0 rfl) hu rfl))));(·rfl);(·rfl))|refine t1_ ?_|(refine ta_ ?_;intro _)|((fail_if_success (refine ybi rfl ?_));refine ybj rfl ?_ ?_<;>(intro ht;rw [ht];first|replace ht := oet_ ht|replace ht := oef_ ht|skip))|(refine ych ?_;first|(refine ybw rfl ?_ ?_<;>intro ht)|(refine ybx rfl ?_ ?_<;>intro ht)))
      exact nx_ret1 rfl (rv_tmp rfl) (fun w' s' => ⟨by simp_all, s'.nil⟩)
    · exact nx_ret1 rfl (rv_tmp rfl) (fun w' s' => ⟨by simp_all, s'.nil⟩)
end Go.Proofs.YtkkjppeaaicgaaaGreatDoor
end

section
namespace Go.Proofs.YtkkjppeaaicgaaaGreatDoor
open Go Go.Ck
set_option maxRecDepth 100000
set_option maxHeartbeats 2000000
set_option linter.unusedVariables false
theorem one_dcs (l : List Dt) : ∀ u ∈ l.flatMap dcs, u.oneCell' = true := fun u hu => by
  obtain ⟨d, _, hd⟩ := List.mem_flatMap.1 hu
  simp [dcs] at hd
  rcases hd with rfl | rfl <;> rfl
abbrev rowD (v : Value) (l : List Dt) : Res := Res.row 53 2 v l.length (l.flatMap dcs)
theorem clone_sp (sv : Value) (l : List Dt) (h : View) (hs : Ds h sv l) (hl : l.length ≤ 1000000) (w : World) (s : St ⟨w, h, []⟩ h [] w) :
    Calls Tryz.prog 66 [sv].toArray w fun e w' => ∃ v, e = .returned v ∧ St ⟨w, h, []⟩ h [rowD v l] w' ∧ True := by
  obtain ⟨_, ad, cap, rfl, hcap, _⟩ := id hs
  refine calls_enter Tryz.func66 rfl Tryz.ntmps66 rfl s ?_
  repeat' (first|(refine ycf ?_;apply ybk;(·first|(first|(apply qv_eql_slnil<;>rfl)));(·rfl);(·rfl))|refine t1_ ?_|(refine ta_ ?_;intro _)|((fail_if_success (refine ybi rfl ?_));refine ybj rfl ?_ ?_<;>(intro ht;rw [ht];first|replace ht := oet_ ht|replace ht := oef_ ht|skip))|(refine ych ?_;first|(refine ybw rfl ?_ ?_<;>intro ht)|(refine ybx rfl ?_ ?_<;>intro ht)))
  · cases ad with
    | some ad => cases ht
    | none =>
      have h0 : l = [] := by
        obtain ⟨h1, ad', cap', h2, h3, h4⟩ := hs
        cases h2
        rcases h4 with h4 | ⟨b, o, cs, e, fz, q1, _⟩
        · rw [h4] at h1; simp at h1; exact List.eq_nil_of_length_eq_zero (by omega)
        · cases q1
      subst h0
      refine nx_ret1 rfl (rv_tmp rfl) (fun w' s' => ⟨_, rfl, ?_, trivial⟩)
      exact s'.rowNil _ _
  · refine yba ma_buildSlice0 rfl rfl rfl ybf (fun _ => ybf) ?_
    intro b
    refine rx_rowOf 2 0 0 (by omega) (by unfold maxLen; omega) rfl ?_
    repeat' (first|(refine ycf ?_;apply ybk;(·first|(first|(apply qv_eql_slnil<;>rfl)));(·rfl);(·rfl))|refine t1_ ?_|(refine ta_ ?_;intro _)|((fail_if_success (refine ybi rfl ?_));refine ybj rfl ?_ ?_<;>(intro ht;rw [ht];first|replace ht := oet_ ht|replace ht := oef_ ht|skip))|(refine ych ?_;first|(refine ybw rfl ?_ ?_<;>intro ht)|(refine ybx rfl ?_ ?_<;>intro ht)))
    refine rx_append_sc (sz := 2) 0 rfl rfl rfl hs (one_dcs l) rfl (by omega) (by unfold maxLen; omega) (by omega) rfl rfl rfl ybf (fun _ => ybf) ?_
    intro v' _
    repeat' (first|(refine ycf ?_;apply ybk;(·first|(first|(apply qv_eql_slnil<;>rfl)));(·rfl);(·rfl))|refine t1_ ?_|(refine ta_ ?_;intro _)|((fail_if_success (refine ybi rfl ?_));refine ybj rfl ?_ ?_<;>(intro ht;rw [ht];first|replace ht := oet_ ht|replace ht := oef_ ht|skip))|(refine ych ?_;first|(refine ybw rfl ?_ ?_<;>intro ht)|(refine ybx rfl ?_ ?_<;>intro ht)))
    refine nx_ret1 rfl (rv_tmp rfl) (fun w' s' => ⟨_, rfl, ?_, trivial⟩)
    simpa using s'
end Go.Proofs.YtkkjppeaaicgaaaGreatDoor
end

section
namespace Go.Proofs.YtkkjppeaaicgaaaGreatDoor
open Go Go.Ck
set_option maxRecDepth 100000
set_option maxHeartbeats 4000000
set_option linter.unusedVariables false
theorem Ds.mono {h h' : View} {v : Value} {l : List Dt} (s : Ds h v l) (hl : Le h h') : Ds h' v l := Sc.mono s hl
theorem Cx.mono {h h' : View} {v : Value} {u : List Int} {l : List Dt} (c : Cx h v u l) (hl : Le h h') : Cx h' v u l := ⟨c.len, by obtain ⟨mv, h1, h2⟩ := c.val; exact ⟨mv, h1, h2.mono hl⟩⟩
theorem check_right {u : List Int} {l : List Dt} (h : checkC u l = 0) : (∀ x ∈ u, 0 ≤ x ∧ x ≤ 1099511627776) ∧ l.length ≤ 32 ∧ ∀ d ∈ l, rightB d = true := by
  unfold checkC at h
  split at h
  · cases h
  split at h
  · cases h
  split at h
  · cases h
  · rename_i h1 h2 h3
    refine ⟨upOk_iff.1 (by simpa using h1), by omega, fun d hd => ?_⟩
    obtain ⟨i, hi, rfl⟩ := List.getElem_of_mem hd
    have h3 : moresOk u l = true := by simpa using h3
    have := List.all_eq_true.1 h3 i (List.mem_range.2 hi)
    simp only [moreB, Bool.and_eq_true] at this
    simpa [hi] using this.1.1
end Go.Proofs.YtkkjppeaaicgaaaGreatDoor
end

section
namespace Go.Proofs.YtkkjppeaaicgaaaGreatDoor
open Go Go.Ck
set_option maxRecDepth 100000
set_option maxHeartbeats 2000000
set_option linter.unusedVariables false
theorem st_left {K : Bs} {h : View} {A B : List Res} {w : World} (s : St K h (A ++ B) w) : St K h A w := St.drop (L := B) (L' := A) (s.perm List.perm_append_comm)
theorem values1_sp (b l : Nat) (mv : Value) (Lm : List Dt) (h : View) (LL : Nat → Value → List Res) (v0 : Value) (hs : Ds h mv Lm) (hb : h b = some (.cells #[mv] 35)) (hlen : Lm.length ≤ 1000000)
    (hY : ∀ k (hk : k < Lm.length) v w, St ⟨w, h, doms (LL k v)⟩ h (LL k v) w → YieldAt Fence.wide (0 - 1) Tryz.prog l #[dv Lm[k]] w fun e w' => ∃ v', e = .returned (.bool true) ∧ St ⟨w, h, doms (LL k v)⟩ h (LL (k + 1) v') w' ∧ True)
    (w : World) (s : St ⟨w, h, doms (LL 0 v0)⟩ h (LL 0 v0) w) :
    Calls Tryz.prog 117 [.func (.yield l) #[] #[], .pointer (some ⟨b, 0, none⟩)].toArray w fun e w' => (∃ v, e = .returned v) ∧ ∃ v, True ∧ St ⟨w, h, doms (LL 0 v0)⟩ h (LL Lm.length v) w' := by
  obtain ⟨_, ad, cap, rfl, hcap, _⟩ := id hs
  refine calls_enter Tryz.func117 rfl Tryz.ntmps117 rfl s ?_
  repeat' (first|(refine ycf ?_;apply ybk;(·first|(apply yae;(·rfl);(·exact cell_view hb rfl)));(·rfl);(·rfl))|refine t1_ ?_|(refine ta_ ?_;intro _)|((fail_if_success (refine ybi rfl ?_));refine ybj rfl ?_ ?_<;>(intro ht;rw [ht];first|replace ht := oet_ ht|replace ht := oef_ ht|skip))|(refine ych ?_;first|(refine ybw rfl ?_ ?_<;>intro ht)|(refine ybx rfl ?_ ?_<;>intro ht)))
  refine cx_loop (X := Nat × Value) (fun x => [(0, .func (.yield l) #[] #[]), (5, .slice ad Lm.length cap), (6, .int .i64 Lm.length), (7, .int .i64 x.1)]) (fun _ => h) (fun x => LL x.1 x.2) (fun x => x.1 ≤ Lm.length) (fun x => Lm.length - x.1) (0, v0) (by simp) ts_ (fun _ s => s) ?_
  rintro ⟨k, v⟩ hk
  replace hk : k ≤ Lm.length := hk
  by_cases hkl : k < Lm.length
  · obtain ⟨bs, o, rfl⟩ := hs.ad (by omega) (by omega)
    have hel : ∀ L, Cells h L ⟨bs, o + k * 2, none⟩ (dcs Lm[k]) := fun L => hs.elem dcs_len k hkl
    repeat' (first|(refine ych ?_;refine cx_regionI (id := 3) ?_)|(first|(refine ycf ?_;apply ybk;(·first|(first|(apply yad;(·rfl);(·exact hel _);(·rfl)))|(apply yae;(·rfl);(·exact cell_view hb rfl)));(·rfl);(·rfl))|refine t1_ ?_|(refine ta_ ?_;intro _)|((fail_if_success (refine ybi rfl ?_));refine ybj rfl ?_ ?_<;>(intro ht;rw [ht];first|replace ht := oet_ ht|replace ht := oef_ ht|skip))|(refine ych ?_;first|(refine ybw rfl ?_ ?_<;>intro ht)|(refine ybx rfl ?_ ?_<;>intro ht))))
    · (apply li_v;(·(first|(first|(apply yad;(·rfl);(·exact hel _);(·rfl)))|(apply yae;(·rfl);(·exact cell_view hb rfl))|exact tq_));(·rfl))
      (apply li_v;(·(first|(first|(apply yad;(·rfl);(·exact hel _);(·rfl)))|(apply yae;(·rfl);(·exact cell_view hb rfl))|exact tq_));(·rfl))
      refine li_yield (X := Value) (v := fun _ => .bool true) (LL := fun v' => LL (k + 1) v') (p := fun _ => True) rfl rfl rfl (List.perm_append_comm (l₁ := [_])) (hY k hkl v) ?_
      intro v' _
      (apply li_v;(·(first|(first|(apply yad;(·rfl);(·exact hel _);(·rfl)))|(apply yae;(·rfl);(·exact cell_view hb rfl))|exact tq_));(·rfl))
      refine li_nil ?_
      repeat' (first|(refine ycf ?_;apply ybk;(·first|(first|(apply yad;(·rfl);(·exact hel _);(·rfl)))|(apply yae;(·rfl);(·exact cell_view hb rfl)));(·rfl);(·rfl))|refine t1_ ?_|(refine ta_ ?_;intro _)|((fail_if_success (refine ybi rfl ?_));refine ybj rfl ?_ ?_<;>(intro ht;rw [ht];first|replace ht := oet_ ht|replace ht := oef_ ht|skip))|(refine ych ?_;first|(refine ybw rfl ?_ ?_<;>intro ht)|(refine ybx rfl ?_ ?_<;>intro ht)))
      exact nx_round (k + 1, v') (by show k + 1 ≤ _; omega) (by show Lm.length - (k + 1) < Lm.length - k; omega) ts_ (fun _ s => st_left s)
    · omega
  · repeat' (first|(refine ycf ?_;apply ybk;(·first|(first|(apply yad;(·rfl);(·exact hel _);(·rfl)))|(apply yae;(·rfl);(·exact cell_view hb rfl)));(·rfl);(·rfl))|refine t1_ ?_|(refine ta_ ?_;intro _)|((fail_if_success (refine ybi rfl ?_));refine ybj rfl ?_ ?_<;>(intro ht;rw [ht];first|replace ht := oet_ ht|replace ht := oef_ ht|skip))|(refine ych ?_;first|(refine ybw rfl ?_ ?_<;>intro ht)|(refine ybx rfl ?_ ?_<;>intro ht)))
    · omega
    have ek : k = Lm.length := by omega
    subst ek
    exact nx_end0 rfl (fun w' s' => ⟨⟨_, rfl⟩, v, trivial, s'⟩)
abbrev asL (Bs : Nat) (Lm : List Dt) (k : Nat) (v : Value) : List Res := [Res.row 53 2 v k ((Lm.take k).flatMap dcs), Res.blk Bs (.cells #[v] 35 (0, 0))]
theorem appendSeq_sp (b : Nat) (mv : Value) (Lm : List Dt) (h : View) (hs : Ds h mv Lm) (hb : h b = some (.cells #[mv] 35)) (hlen : Lm.length ≤ 1000000) (w : World) (s : St ⟨w, h, []⟩ h [] w) :
    Calls Tryz.prog 123 [.slice none 0 0, .func (.func 117) #[] #[.pointer (some ⟨b, 0, none⟩)]].toArray w fun e w' => ∃ v, e = .returned v ∧ St ⟨w, h, []⟩ h [rowD v Lm] w' ∧ True := by
  refine calls_enter_marks rfl rfl rfl rfl s ?_
  repeat' (first|(refine ycf ?_;apply ybk;(·first|(first|(apply yad;(·rfl);(·exact hel _);(·rfl)))|(apply yae;(·rfl);(·exact cell_view hb rfl)));(·rfl);(·rfl))|refine t1_ ?_|(refine ta_ ?_;intro _)|((fail_if_success (refine ybi rfl ?_));refine ybj rfl ?_ ?_<;>(intro ht;rw [ht];first|replace ht := oet_ ht|replace ht := oef_ ht|skip))|(refine ych ?_;first|(refine ybw rfl ?_ ?_<;>intro ht)|(refine ybx rfl ?_ ?_<;>intro ht)))
  rename_i Bs
  refine cx_row 53 2 ?_
  refine cx_rangeFunc (cap := [.pointer (some ⟨b, 0, none⟩)]) (X := Value) (LL := asL Bs Lm Lm.length) (p := fun _ => True) rfl rfl rfl rfl ?_ ?_
  · intro tm fn l D w0 f s0
    refine values1_sp b l mv Lm h (fun k v => Res.blk l (.loop (rec0 tm fn D _ _ _)) :: asL Bs Lm k v) (.slice none 0 0) hs hb hlen ?_ w0 s0
    intro k hk v w1 s1
    refine yieldAt_ck (List.Perm.refl _) rfl (f.put (dst := some 7) rfl _) s1 ?_
    refine ci_region rfl ?_
    repeat' (first|(refine ycf ?_;apply ybk;(·first|(first|(apply yad;(·rfl);(·exact hel _);(·rfl)))|(apply yae;(·rfl);(·exact cell_view hb rfl)));(·rfl);(·rfl))|refine t1_ ?_|(refine ta_ ?_;intro _)|((fail_if_success (refine ybi rfl ?_));refine ybj rfl ?_ ?_<;>(intro ht;rw [ht];first|replace ht := oet_ ht|replace ht := oef_ ht|skip))|(refine ych ?_;first|(refine ybw rfl ?_ ?_<;>intro ht)|(refine ybx rfl ?_ ?_<;>intro ht)))
    refine nx_begins (List.Perm.swap _ _ _) rfl ?_
    refine ci_block (ci_region rfl ?_)
    repeat' (first|(refine ycf ?_;apply ybk;(·first|(first|(apply yad;(·rfl);(·exact hel _);(·rfl)))|(apply yae;(·rfl);(·exact cell_view hb rfl)));(·rfl);(·rfl))|refine t1_ ?_|(refine ta_ ?_;intro _)|((fail_if_success (refine ybi rfl ?_));refine ybj rfl ?_ ?_<;>(intro ht;rw [ht];first|replace ht := oet_ ht|replace ht := oef_ ht|skip))|(refine ych ?_;first|(refine ybw rfl ?_ ?_<;>intro ht)|(refine ybx rfl ?_ ?_<;>intro ht)))
    refine rx_append (sz := 2) 3 rfl rfl rfl (yaz 0 rfl) rfl (one_dcs [Lm[k]]) rfl (by omega) (by unfold maxLen; omega) (by omega) rfl rfl rfl ybf (fun _ => ybf) ?_
    intro v' _
    refine rx_rowform 3 rfl (fun _ h0 _ => (by omega)) ?_
    rintro g cap rfl
    repeat' (first|(refine ycf ?_;apply ybk;(·first|(first|(apply yad;(·rfl);(·exact hel _);(·rfl)))|(apply yae;(·rfl);(·exact cell_view hb rfl)));(·rfl);(·rfl))|refine t1_ ?_|(refine ta_ ?_;intro _)|((fail_if_success (refine ybi rfl ?_));refine ybj rfl ?_ ?_<;>(intro ht;rw [ht];first|replace ht := oet_ ht|replace ht := oef_ ht|skip))|(refine ych ?_;first|(refine ybw rfl ?_ ?_<;>intro ht)|(refine ybx rfl ?_ ?_<;>intro ht)))
    have eT : Lm.take (k + 1) = Lm.take k ++ [Lm[k]] := List.take_succ_eq_append_getElem hk
    refine nx_roundEnd (List.Perm.swap _ _ _) (fun w2 s2 => ⟨.slice (some ⟨g, 0, none⟩) (k + 1) cap, rfl, ?_, trivial⟩)
    have s3 := s2.perm (List.Perm.trans (List.Perm.swap _ _ _) (List.Perm.cons _ (List.Perm.swap _ _ _)))
    have s5 := s3.tl.tl
    show St _ _ (_ :: asL Bs Lm (k + 1) (.slice (some ⟨g, 0, none⟩) (k + 1) cap)) w2
    unfold asL
    rw [eT, List.flatMap_append]
    exact s5
  · intro v tm D _ f w0 s0
    change Code.wp _ _ _ _ _
    refine wp_seq (ld_region ?_ f s0)
    (apply ld_v;(·(first|(first|(apply yad;(·rfl);(·exact hel _);(·rfl)))|(apply yae;(·rfl);(·exact cell_view hb rfl))|exact tq_));(·rfl))
    (apply ld_v;(·(first|(first|(apply yad;(·rfl);(·exact hel _);(·rfl)))|(apply yae;(·rfl);(·exact cell_view hb rfl))|exact tq_));(·rfl))
    refine ld_nil (fun tm' w' f' s' => ?_)
    change Code.wp _ _ _ _ _
    refine wp_ret (marks_ret rfl f' s' (rv_tmp rfl) (fun w' s' => ⟨v, rfl, ?_, trivial⟩))
    have := s'.keep1
    rw [List.take_of_length_le (Nat.le_refl _)] at this
    exact this
theorem collect_sp (b : Nat) (mv : Value) (Lm : List Dt) (h : View) (hs : Ds h mv Lm) (hb : h b = some (.cells #[mv] 35)) (hlen : Lm.length ≤ 1000000) (w : World) (s : St ⟨w, h, []⟩ h [] w) :
    Calls Tryz.prog 116 [.func (.func 117) #[] #[.pointer (some ⟨b, 0, none⟩)]].toArray w fun e w' => ∃ v, e = .returned v ∧ St ⟨w, h, []⟩ h [rowD v Lm] w' ∧ True := by
  refine calls_enter Tryz.func116 rfl Tryz.ntmps116 rfl s ?_
  repeat' (first|(refine ycf ?_;apply ybk;(·first|(first|(apply yad;(·rfl);(·exact hel _);(·rfl)))|(apply yae;(·rfl);(·exact cell_view hb rfl)));(·rfl);(·rfl))|refine t1_ ?_|(refine ta_ ?_;intro _)|((fail_if_success (refine ybi rfl ?_));refine ybj rfl ?_ ?_<;>(intro ht;rw [ht];first|replace ht := oet_ ht|replace ht := oef_ ht|skip))|(refine ych ?_;first|(refine ybw rfl ?_ ?_<;>intro ht)|(refine ybx rfl ?_ ?_<;>intro ht)))
  (refine yco (ycp Tryz.func123 rfl (by kernel_rfl) rfl) (appendSeq_sp b mv Lm h hs hb hlen) rfl rfl rfl ?_ ?_ ?_; (· (exact to_)); (· intro _ _ hle; (exact to_)); intro x px hle)
  repeat' (first|(refine ycf ?_;apply ybk;(·first|(first|(apply yad;(·rfl);(·exact hel _);(·rfl)))|(apply yae;(·rfl);(·exact cell_view hb rfl)));(·rfl);(·rfl))|refine t1_ ?_|(refine ta_ ?_;intro _)|((fail_if_success (refine ybi rfl ?_));refine ybj rfl ?_ ?_<;>(intro ht;rw [ht];first|replace ht := oet_ ht|replace ht := oef_ ht|skip))|(refine ych ?_;first|(refine ybw rfl ?_ ?_<;>intro ht)|(refine ybx rfl ?_ ?_<;>intro ht)))
  exact nx_ret1 rfl (rv_tmp rfl) (fun w' s' => ⟨_, rfl, s', trivial⟩)
theorem values_sp (mv : Value) (Lm : List Dt) (h : View) (hs : Ds h mv Lm) (w : World) (s : St ⟨w, h, []⟩ h [] w) :
    Calls Tryz.prog 97 [mv].toArray w fun e w' => ∃ b, e = .returned (.func (.func 117) #[] #[.pointer (some ⟨b, 0, none⟩)]) ∧ St ⟨w, h, []⟩ (addV h b (.cells #[mv] 35 (0, 0))) [] w' ∧ h b = none := by
  obtain ⟨_, ad, cap, rfl, hcap, _⟩ := id hs
  refine calls_enter Tryz.func97 rfl Tryz.ntmps97 rfl s ?_
  repeat' (first|(refine ycf ?_;apply ybk;(·first|(first|(apply yad;(·rfl);(·exact hel _);(·rfl)))|(apply yae;(·rfl);(·exact cell_view hb rfl)));(·rfl);(·rfl))|refine t1_ ?_|(refine ta_ ?_;intro _)|((fail_if_success (refine ybi rfl ?_));refine ybj rfl ?_ ?_<;>(intro ht;rw [ht];first|replace ht := oet_ ht|replace ht := oef_ ht|skip))|(refine ych ?_;first|(refine ybw rfl ?_ ?_<;>intro ht)|(refine ybx rfl ?_ ?_<;>intro ht)))
  rename_i b
  exact nx_ret1 rfl (rv_tmp rfl) (fun w' s' => ⟨b, rfl, s'.persist rfl, s'.dis b (by simp [doms, Res.blk])⟩)
end Go.Proofs.YtkkjppeaaicgaaaGreatDoor
end

section
namespace Go.Proofs.YtkkjppeaaicgaaaGreatDoor
open Go Go.Ck Go.Shelf Go.RowKit Go.Lib Go.Sort
set_option maxRecDepth 100000
set_option maxHeartbeats 2000000
set_option linter.unusedVariables false
theorem st_grow {w w' : World} {h : View} {L : List Res} (s : St ⟨w, h, []⟩ h L w') : ∃ q os', w' = Sort.grow (w.drewN q) os' := by
  refine ⟨w'.drawn - w.drawn, w'.heap.extract w.heap.size w'.heap.size, ?_⟩
  have e1 := s.os
  have e2 := s.tape
  have e3 := s.output
  have e4 := s.drawn
  have e5 : w'.heap = w.heap ++ w'.heap.extract w.heap.size w'.heap.size := by
    apply Array.ext_getElem?
    intro k
    have hs : w.heap.size ≤ w'.heap.size := s.size
    by_cases hk : k < w.heap.size
    · rw [Array.getElem?_append_left hk]
      exact s.keep k hk (by simp)
    · rw [Array.getElem?_append_right (by omega), Array.getElem?_extract]
      by_cases hk2 : k < w'.heap.size
      · rw [if_pos (by omega)]
        congr 1; omega
      · rw [if_neg (by omega), Array.getElem?_eq_none (by omega)]
  have e4' : w.drawn ≤ w'.drawn := e4
  obtain ⟨a1, a2, a3, a4, a5⟩ := w'
  obtain ⟨b1, b2, b3, b4, b5⟩ := w
  simp only at e1 e2 e3 e4' e5
  subst e1 e2 e3
  show World.mk _ _ _ _ _ = World.mk _ _ _ _ _
  congr 1
  show a3 = b3 + (a3 - b3)
  omega
theorem order_lays (blk off size : Nat) (w : World) : CmpLays Tryz.prog 98 #[] dcs 2 ordD blk off size w := fun m os dk _ x y => by
  have := order_sp x y (fun _ => none) _ (St.start (w := sortWorldK dcs 2 w blk off m dk os) (L := []) ⟨fun b o hb => (by cases hb), fun r hr => (by cases hr)⟩ (by simp [doms]) (fun b hb => rfl))
  refine this.mono ?_
  rintro e w' ⟨rfl, s'⟩
  exact ⟨rfl, st_grow s'⟩
theorem ord_lt (x y : Dt) : ltOf ordD x y = decide (x.1 < y.1 ∨ x.1 = y.1 ∧ x.2 < y.2) := by
  unfold ltOf ordD cmpI
  rw [decide_eq_decide]
  repeat' split
  all_goals omega
theorem ord_swo : Sort.SWO (ltOf ordD) where
  irrefl x := by rw [ord_lt]; simp
  trans x y z h1 h2 := by rw [ord_lt] at *; simp at *; omega
  ntrans x y z h1 h2 := by rw [ord_lt] at *; simp at *; omega
theorem holds_row {w : World} {g : Nat} {l : List Dt} {cur : Array Value} {e : TypeId} (hg : w.heap[g]? = some (.cells cur e (0, 0))) (ht : cur.toList.take (l.length * 2) = l.flatMap dcs) : HoldsK dcs 2 w g 0 l.toArray := by
  intro j hj
  rw [size_flatK] at hj
  have hj' : j < l.length * 2 := by simpa using hj
  refine ⟨?_, by simp [World.frozen?, hg]⟩
  rw [get_flatK dcs 2 l.toArray j hj]
  have hd : j / 2 < l.length := by omega
  have h1 : ((l.flatMap dcs).drop (j / 2 * 2)).take 2 = dcs l[j / 2] := flat_at dcs_len l (j / 2) hd
  have h2 : cur[j]? = (l.flatMap dcs)[j]? := by
    rw [← ht, List.getElem?_take_of_lt hj', Array.getElem?_toList]
  have h3 : (l.flatMap dcs)[j]? = (dcs l[j / 2])[j % 2]? := by
    rw [← h1, List.getElem?_take_of_lt (by omega), List.getElem?_drop]
    congr 1; omega
  simp only [World.cell?, hg, Nat.zero_add]
  simp only [Option.isSome_none, Bool.false_eq_true, if_false]
  rw [h2, h3]
  have h4 : (dcs l[j / 2])[j % 2]? = some ((dcs l[j / 2])[j % 2]!) := by
    rw [getElem!_pos _ (j % 2) (by rw [dcs_len]; omega), List.getElem?_eq_getElem]
  rw [h4]
  simp [getElem!_pos, hd]
def SortedD (l : List Dt) : Prop := l.Pairwise fun x y => ¬ ordD y x < 0
theorem flat_eq {l : List Dt} : (flatK dcs 2 l.toArray).toList = l.flatMap dcs := by
  apply List.ext_getElem?
  intro j
  by_cases hj : j < l.length * 2
  · have hd : j / 2 < l.length := by omega
    have h1 : ((l.flatMap dcs).drop (j / 2 * 2)).take 2 = dcs l[j / 2] := flat_at dcs_len l (j / 2) hd
    have h3 : (l.flatMap dcs)[j]? = (dcs l[j / 2])[j % 2]? := by
      rw [← h1, List.getElem?_take_of_lt (by omega), List.getElem?_drop]
      congr 1; omega
    have h4 : (dcs l[j / 2])[j % 2]? = some ((dcs l[j / 2])[j % 2]!) := by
      rw [getElem!_pos _ (j % 2) (by rw [dcs_len]; omega), List.getElem?_eq_getElem]
    have hs : j < (flatK dcs 2 l.toArray).size := by simpa using hj
    have := get_flatK dcs 2 l.toArray j (by simpa using hj)
    rw [getElem!_pos _ j hs] at this
    rw [h3, h4, Array.getElem?_toList, Array.getElem?_eq_getElem hs, this]
    simp [getElem!_pos, hd]
  · rw [List.getElem?_eq_none (by simp; omega), List.getElem?_eq_none]
    have : (l.flatMap dcs).length = l.length * 2 := by
      clear hj
      induction l with
      | nil => rfl
      | cons d l ih => simp [dcs_len, ih]; omega
    omega
theorem row_sorted {w : World} {g cap n : Nat} {e : TypeId} {os : Array Obj} {cur : Array Value} {l l' : List Dt} (hl : l'.length = l.length) (hb : w.heap[g]? = some (.cells cur e (0, 0))) (h1 : l.length ≤ cap) (h2 : cap ≤ maxLen) (h3 : cur.size = cap * 2) :
    (sortWorldK dcs 2 w g 0 n l'.toArray os).ownsRow 0 e 2 (.slice (some ⟨g, 0, none⟩) l.length cap) l'.length (l'.flatMap dcs) := by
  have hg : g < w.heap.size := (Array.getElem?_eq_some_iff.1 hb).1
  have hfl : (flatK dcs 2 l'.toArray).size = l'.length * 2 := by simp
  have hh : (sortWorldK dcs 2 w g 0 n l'.toArray os).heap[g]? = some (.cells (Sort.putCells id 0 (flatK dcs 2 l'.toArray) cur) e (0, 0)) := by
    unfold sortWorldK putRowK
    rw [Sort.heap_grow_old _ _ (by simpa using hg)]
    simp [Sort.putRow, Sort.mapBlock, Sort.ahead, Array.getElem?_modify, hb, Sort.onCells]
  refine ⟨?_, .inr ⟨g, cap, _, by rw [hl], Nat.zero_le _, hh, by omega, h2, by simp [Sort.putCells, h3], ?_⟩⟩
  · rw [← flat_eq]; simp
  · rw [← flat_eq]
    apply List.ext_getElem?
    intro j
    by_cases hj : j < l'.length * 2
    · have hs : j < (flatK dcs 2 l'.toArray).size := by omega
      rw [List.getElem?_take_of_lt hj, Array.getElem?_toList, Array.getElem?_toList]
      simp only [Sort.putCells, Array.getElem?_mapIdx]
      rw [Array.getElem?_eq_getElem (show j < cur.size by rw [h3]; omega), Array.getElem?_eq_getElem hs]
      simp only [Option.map_some, Nat.zero_le, Nat.zero_add, true_and, Nat.sub_zero, id]
      rw [if_pos hs, getElem!_pos _ j hs]
    · rw [List.getElem?_take_eq_none (by omega), List.getElem?_eq_none]
      simp; omega
theorem sort_sp (v : Value) (l : List Dt) (h : View) (hlen : l.length ≤ 1000000) (w : World) (s : St ⟨w, h, doms [rowD v l]⟩ h [rowD v l] w) :
    Calls Tryz.prog 28 [v, .func (.func 98) #[] #[]].toArray w fun e w' => ∃ l', e = .returned (.tuple #[]) ∧ St ⟨w, h, doms [rowD v l]⟩ h [rowD v l'] w' ∧ l'.Perm l ∧ SortedD l' := by
  have ho : w.ownsRow 0 53 2 v l.length (l.flatMap dcs) := s.hd.own (rowD v l) (List.mem_cons_self ..)
  rcases ho.2 with ⟨rfl, h0⟩ | ⟨g, cap, cur, rfl, _, hg, hn, hm, hs, ht⟩
  · obtain rfl : l = [] := List.eq_nil_of_length_eq_zero h0
    refine (AnyF.slices_SortFunc_none Tryz.sortDot none 0 _ w).mono ?_
    rintro e w' ⟨rfl, rfl⟩
    exact ⟨[], rfl, s, List.Perm.nil, List.Pairwise.nil⟩
  · have hblk : g < w.heap.size := (Array.getElem?_eq_some_iff.1 hg).1
    have eg : ∀ args w, (callFunc 98 args).run Tryz.prog w = .ok (.enter 98 args) w := enters_of (fn := Tryz.f98) rfl (by kernel_rfl) rfl
    have hcon := AnyQ.slices_SortFunc Tryz.sortDot 2 Tryz.isAgg53 Tryz.sizeOf53 dcs dcs_len (fun x v hv => one_dcs [x] v (by simpa using hv)) ordD ord_swo 98 #[] g 0 cap l.toArray w eg (order_lays g 0 l.toArray.size w) (holds_row hg ht) hblk (by simp; omega)
    refine hcon.mono ?_
    rintro e w' ⟨rfl, d', n, os, hp, hso, rfl⟩
    have hsz : d'.toList.length = l.length := by simpa using hp.1
    refine ⟨d'.toList, rfl, ?_, ?_, ?_⟩
    · have hr := row_sorted (n := n) (os := os) (l' := d'.toList) hsz hg hn hm hs
      rw [Array.toArray_toList] at hr
      refine St.swap (k := 0) s rfl rfl rfl rfl ?_ ?_ ?_ hr ?_ ?_
      · show w.drawn ≤ w.drawn + n
        omega
      · simp [sortWorldK, putRowK, Sort.grow, Sort.ahead]
      · intro j hj hjn
        have hjg : g ≠ j := fun e => hjn (by simp [Res.row, Value.ownBlock, e])
        unfold sortWorldK putRowK
        rw [Sort.heap_grow_old _ _ (by simpa using hj)]
        simp [Sort.putRow, Sort.mapBlock, Sort.ahead, Array.getElem?_modify, hjg]
      · simp [Res.row, Value.ownBlock]
      · intro b hb
        exact .inl hb
    · have := hp.2.2
      have e1 : (d'.extract 0 l.toArray.size).toList = d'.toList := by
        have : l.toArray.size = d'.size := by simp [← hsz]
        rw [this, Array.extract_size]
      have e2 : (l.toArray.extract 0 l.toArray.size).toList = l := by rw [Array.extract_size]
      rw [e1, e2] at this
      exact this
    · unfold SortedD
      rw [List.pairwise_iff_getElem]
      intro i j hi hj hij
      have := hso i j (Nat.zero_le _) hij (by simpa [← hsz] using hj)
      rw [getElem!_pos d' i (by simpa using hi), getElem!_pos d' j (by simpa using hj)] at this
      simpa [ltOf] using this
theorem sortedFunc_sp (b : Nat) (mv : Value) (Lm : List Dt) (h : View) (hs : Ds h mv Lm) (hb : h b = some (.cells #[mv] 35)) (hlen : Lm.length ≤ 1000000) (w : World) (s : St ⟨w, h, []⟩ h [] w) :
    Calls Tryz.prog 96 [.func (.func 117) #[] #[.pointer (some ⟨b, 0, none⟩)], .func (.func 98) #[] #[]].toArray w fun e w' => ∃ x : Value × List Dt, e = .returned x.1 ∧ St ⟨w, h, []⟩ h [rowD x.1 x.2] w' ∧ x.2.Perm Lm ∧ SortedD x.2 := by
  refine calls_enter Tryz.func96 rfl Tryz.ntmps96 rfl s ?_
  repeat' (first|refine tw_ ?_|(refine ta_ ?_;intro _)|((fail_if_success (refine ybi rfl ?_));refine ybj rfl ?_ ?_<;>(intro ht;rw [ht];first|replace ht := oet_ ht|replace ht := oef_ ht|skip))|(refine ych ?_;first|(refine ybw rfl ?_ ?_<;>intro ht)|(refine ybx rfl ?_ ?_<;>intro ht)))
  (refine yco (ycp Tryz.func116 rfl (by kernel_rfl) rfl) (collect_sp b mv Lm h hs hb hlen) rfl rfl rfl ?_ ?_ ?_; (· (exact to_)); (· intro _ _ hle; (exact to_)); intro x px hle)
  repeat' (first|refine tw_ ?_|(refine ta_ ?_;intro _)|((fail_if_success (refine ybi rfl ?_));refine ybj rfl ?_ ?_<;>(intro ht;rw [ht];first|replace ht := oet_ ht|replace ht := oef_ ht|skip))|(refine ych ?_;first|(refine ybw rfl ?_ ?_<;>intro ht)|(refine ybx rfl ?_ ?_<;>intro ht)))
  (refine rx_call_m (ycp Tryz.func28 rfl (by kernel_rfl) rfl) (perm_at (k := 0) rfl) (sort_sp _ Lm h hlen) rfl rfl rfl ?_ ?_ ?_; (· (exact to_)); (· intro _ _ hle; (exact to_)); intro x px hle)
  repeat' (first|refine tw_ ?_|(refine ta_ ?_;intro _)|((fail_if_success (refine ybi rfl ?_));refine ybj rfl ?_ ?_<;>(intro ht;rw [ht];first|replace ht := oet_ ht|replace ht := oef_ ht|skip))|(refine ych ?_;first|(refine ybw rfl ?_ ?_<;>intro ht)|(refine ybx rfl ?_ ?_<;>intro ht)))
  exact nx_ret1 rfl (rv_tmp rfl) (fun w' s' => ⟨(_, x), rfl, s', px⟩)
end Go.Proofs.YtkkjppeaaicgaaaGreatDoor
end
