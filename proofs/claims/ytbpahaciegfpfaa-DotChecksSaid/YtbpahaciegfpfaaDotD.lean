/-
  DotD: Context.has, Context.more, dot.Check, dot.Has.
  Conditions: each theorem states its own.
-/
import Derived.Test.YtbpahaciegfpfaaDotC
namespace Go.Proofs.Ytbpahaciegfpfaa
open Go Go.Ck
set_option maxRecDepth 100000
set_option maxHeartbeats 1000000
set_option linter.unusedVariables false

def uD (u : List Int) (d : Dt) : Int := u.getD (d.1 - 1).toNat 0
def hasC (u : List Int) (l : List Dt) (d : Dt) : Bool := decide (d.2 ≤ uD u d) || decide (d ∈ l)

theorem right_of {d : Dt} (hr : rightB d = true) : 1 ≤ d.1 ∧ d.1 ≤ 16 ∧ 1 ≤ d.2 ∧ d.2 ≤ 1099511627776 := by
  simp [rightB] at hr; omega

theorem has_sp (cv : Value) (u : List Int) (l : List Dt) (d : Dt) (h : View) (hc : Cx h cv u l) (hl : l.length ≤ 4611686018427387904) (hr : rightB d = true) (w : World) (s : St ⟨w, h, []⟩ h [] w) :
    Calls Try.prog 36 [cv, dv d].toArray w fun e w' => e = .returned (.bool (hasC u l d)) ∧ St ⟨w, h, []⟩ h [] w' := by
  obtain ⟨hu, mv, rfl, hs⟩ := hc
  have hr' := right_of hr
  refine calls_enter Try.func36 rfl Try.ntmps36 rfl s ?_
  repeat' (first | refine tw_ ?_ | (refine ta_ ?_; intro _) | ((fail_if_success (refine ybi rfl ?_)); refine ybj rfl ?_ ?_ <;> (intro ht; rw [ht]; first | replace ht := of_decide_eq_true ht | replace ht := of_decide_eq_false ht | skip)) | (refine ych ?_; first | (refine ybw rfl ?_ ?_ <;> intro ht) | (refine ybx rfl ?_ ?_ <;> intro ht)))
  refine cx_region_draw' rfl (by kernel_rfl) ?_
  repeat' (refine ycf ?_;(first|(first|(apply ybm;(·(first|(apply yae;(·rfl);(·(first|exact ycl (yaz 1 rfl) (d.1 - 1).toNat (by omega) (by omega)|exact yck (yaz 1 rfl) hu rfl)))|exact tq_));(·rfl);(·rfl);(·(exact th_)))|refine ybl rfl rfl ?_|((fail_if_success (refine ybi rfl ?_));refine ybj rfl ?_ ?_<;>(intro ht;rw [ht];first|replace ht := of_decide_eq_true ht|replace ht := of_decide_eq_false ht|skip))|(refine tb_ ?_ ?_ ?_;(·(exact to_));(·intro _;(exact to_));intro _)|(first|(refine tqs_ ?_ ?_ ?_;(·(exact to_));(·(exact to_))))|(apply ybn;(·(first|(apply yae;(·rfl);(·(first|exact ycl (yaz 1 rfl) (d.1 - 1).toNat (by omega) (by omega)|exact yck (yaz 1 rfl) hu rfl)))|exact tq_));(·rfl);(·rfl);(·rfl);(·(exact to_))))|refine ycg ?_))
  · repeat' (first | (refine ycf ?_; apply ybk; (· first | (apply yae; (· rfl); (· (first | exact ycl (yaz 1 rfl) (d.1 - 1).toNat (by omega) (by omega) | exact yck (yaz 1 rfl) hu rfl)))); (· rfl); (· rfl)) | refine t1_ ?_ | (refine ta_ ?_; intro _) | ((fail_if_success (refine ybi rfl ?_)); refine ybj rfl ?_ ?_ <;> (intro ht; rw [ht]; first | replace ht := of_decide_eq_true ht | replace ht := of_decide_eq_false ht | skip)) | (refine ych ?_; first | (refine ybw rfl ?_ ?_ <;> intro ht) | (refine ybx rfl ?_ ?_ <;> intro ht)))
    refine nx_ret1 rfl (rv_tmp rfl) (fun w' s' => ⟨?_, s'.nil⟩)
    have ht : d.2 ≤ uD u d := ht
    congr 2; unfold hasC; rw [decide_eq_true ht]; rfl
  · (refine ycn (ycp Try.func57 rfl (by kernel_rfl) rfl) (contains_sp _ l d h hs hl) rfl rfl rfl ?_ ?_; (· (exact to_)))
    repeat' (refine ycf ?_;(first|(first|(apply ybm;(·(first|(apply yae;(·rfl);(·(first|exact ycl (yaz 1 rfl) (d.1 - 1).toNat (by omega) (by omega)|exact yck (yaz 1 rfl) hu rfl)))|exact tq_));(·rfl);(·rfl);(·(exact th_)))|refine ybl rfl rfl ?_|((fail_if_success (refine ybi rfl ?_));refine ybj rfl ?_ ?_<;>(intro ht;rw [ht];first|replace ht := of_decide_eq_true ht|replace ht := of_decide_eq_false ht|skip))|(refine tb_ ?_ ?_ ?_;(·(exact to_));(·intro _;(exact to_));intro _)|(first|(refine tqs_ ?_ ?_ ?_;(·(exact to_));(·(exact to_))))|(apply ybn;(·(first|(apply yae;(·rfl);(·(first|exact ycl (yaz 1 rfl) (d.1 - 1).toNat (by omega) (by omega)|exact yck (yaz 1 rfl) hu rfl)))|exact tq_));(·rfl);(·rfl);(·rfl);(·(exact to_))))|refine ycg ?_))
    repeat' (first | (refine ycf ?_; apply ybk; (· first | (apply yae; (· rfl); (· (first | exact ycl (yaz 1 rfl) (d.1 - 1).toNat (by omega) (by omega) | exact yck (yaz 1 rfl) hu rfl)))); (· rfl); (· rfl)) | refine t1_ ?_ | (refine ta_ ?_; intro _) | ((fail_if_success (refine ybi rfl ?_)); refine ybj rfl ?_ ?_ <;> (intro ht; rw [ht]; first | replace ht := of_decide_eq_true ht | replace ht := of_decide_eq_false ht | skip)) | (refine ych ?_; first | (refine ybw rfl ?_ ?_ <;> intro ht) | (refine ybx rfl ?_ ?_ <;> intro ht)))
    refine nx_ret1 rfl (rv_tmp rfl) (fun w' s' => ⟨?_, s'.nil⟩)
    have ht : ¬ d.2 ≤ uD u d := ht
    congr 2; unfold hasC; rw [decide_eq_false ht]; rfl

def moreB (u : List Int) (l : List Dt) (i : Nat) : Bool :=
  rightB (l.getD i (0, 0)) && decide (uD u (l.getD i (0, 0)) + 1 < (l.getD i (0, 0)).2) && (decide (i = 0) || decide (ordD (l.getD (i - 1) (0, 0)) (l.getD i (0, 0)) < 0))

theorem getD_mem {u : List Int} {i : Nat} (hi : i < u.length) : u.getD i 0 ∈ u := by simp [hi]

theorem more_sp (cv : Value) (u : List Int) (l : List Dt) (i : Nat) (h : View) (hc : Cx h cv u l) (hl : l.length ≤ 4611686018427387904) (hi : i < l.length) (hub : ∀ x ∈ u, 0 ≤ x ∧ x ≤ 1099511627776) (w : World) (s : St ⟨w, h, []⟩ h [] w) :
    Calls Try.prog 41 [cv, .int .i64 i].toArray w fun e w' => e = .returned (.bool (moreB u l i)) ∧ St ⟨w, h, []⟩ h [] w' := by
  obtain ⟨hu, mv, rfl, hs⟩ := hc
  obtain ⟨_, ad, cap, rfl, hcap, _⟩ := id hs
  obtain ⟨bs, o, rfl⟩ := hs.ad (by omega) (by omega)
  have hel : ∀ L, Cells h L ⟨bs, o + i * 2, none⟩ (dcs l[i]) := fun L => hs.elem dcs_len i hi
  have ei : l.getD i (0, 0) = l[i] := by simp [hi]
  have hright := right_sp l[i] h
  unfold moreB
  rw [ei]
  cases hR : rightB l[i] with
  | false =>
    rw [hR] at hright
    refine calls_enter Try.func41 rfl Try.ntmps41 rfl s ?_
    repeat' (first | (refine ycf ?_; apply ybk; (· first | (first | (refine yad rfl (hel _) ?_; rfl)) | (apply yae; (· rfl); (· (first | exact yck (yaz 0 rfl) hu rfl)))); (· rfl); (· rfl)) | refine t1_ ?_ | (refine ta_ ?_; intro _) | ((fail_if_success (refine ybi rfl ?_)); refine ybj rfl ?_ ?_ <;> (intro ht; rw [ht]; first | replace ht := of_decide_eq_true ht | replace ht := of_decide_eq_false ht | skip)) | (refine ych ?_; first | (refine ybw rfl ?_ ?_ <;> intro ht) | (refine ybx rfl ?_ ?_ <;> intro ht)))
    refine cx_region_draw' rfl (by kernel_rfl) ?_
    repeat' (refine ycf ?_;(first|(first|(apply ybm;(·(first|(first|(refine yad rfl (hel _) ?_;rfl))|(apply yae;(·rfl);(·(first|exact yck (yaz 0 rfl) hu rfl)))|exact tq_));(·rfl);(·rfl);(·(exact th_)))|refine ybl rfl rfl ?_|((fail_if_success (refine ybi rfl ?_));refine ybj rfl ?_ ?_<;>(intro ht;rw [ht];first|replace ht := of_decide_eq_true ht|replace ht := of_decide_eq_false ht|skip))|(refine tb_ ?_ ?_ ?_;(·(exact to_));(·intro _;(exact to_));intro _)|(first|(refine tqs_ ?_ ?_ ?_;(·(exact to_));(·(exact to_))))|(apply ybn;(·(first|(first|(refine yad rfl (hel _) ?_;rfl))|(apply yae;(·rfl);(·(first|exact yck (yaz 0 rfl) hu rfl)))|exact tq_));(·rfl);(·rfl);(·rfl);(·(exact to_))))|refine ycg ?_))
    (refine ycn (ycp Try.func32 rfl (by kernel_rfl) rfl) (hright) rfl rfl rfl ?_ ?_; (· (exact to_)))
    repeat' (refine ycf ?_;(first|(first|(apply ybm;(·(first|(first|(refine yad rfl (hel _) ?_;rfl))|(apply yae;(·rfl);(·(first|exact yck (yaz 0 rfl) hu rfl)))|exact tq_));(·rfl);(·rfl);(·(exact th_)))|refine ybl rfl rfl ?_|((fail_if_success (refine ybi rfl ?_));refine ybj rfl ?_ ?_<;>(intro ht;rw [ht];first|replace ht := of_decide_eq_true ht|replace ht := of_decide_eq_false ht|skip))|(refine tb_ ?_ ?_ ?_;(·(exact to_));(·intro _;(exact to_));intro _)|(first|(refine tqs_ ?_ ?_ ?_;(·(exact to_));(·(exact to_))))|(apply ybn;(·(first|(first|(refine yad rfl (hel _) ?_;rfl))|(apply yae;(·rfl);(·(first|exact yck (yaz 0 rfl) hu rfl)))|exact tq_));(·rfl);(·rfl);(·rfl);(·(exact to_))))|refine ycg ?_))
    repeat' (first | (refine ycf ?_; apply ybk; (· first | (first | (refine yad rfl (hel _) ?_; rfl)) | (apply yae; (· rfl); (· (first | exact yck (yaz 0 rfl) hu rfl)))); (· rfl); (· rfl)) | refine t1_ ?_ | (refine ta_ ?_; intro _) | ((fail_if_success (refine ybi rfl ?_)); refine ybj rfl ?_ ?_ <;> (intro ht; rw [ht]; first | replace ht := of_decide_eq_true ht | replace ht := of_decide_eq_false ht | skip)) | (refine ych ?_; first | (refine ybw rfl ?_ ?_ <;> intro ht) | (refine ybx rfl ?_ ?_ <;> intro ht)))
    exact nx_ret1 rfl (rv_tmp rfl) (fun w' s' => ⟨rfl, s'.nil⟩)
  | true =>
    rw [hR] at hright
    have hr' := right_of hR
    have hb := hub _ (getD_mem (u := u) (i := (l[i].1 - 1).toNat) (by omega))
    by_cases h0 : i = 0
    · subst h0
      refine calls_enter Try.func41 rfl Try.ntmps41 rfl s ?_
      repeat' (first | (refine ycf ?_; apply ybk; (· first | (first | (refine yad rfl (hel _) ?_; rfl)) | (apply yae; (· rfl); (· (first | exact yck (yaz 0 rfl) hu rfl)))); (· rfl); (· rfl)) | refine t1_ ?_ | (refine ta_ ?_; intro _) | ((fail_if_success (refine ybi rfl ?_)); refine ybj rfl ?_ ?_ <;> (intro ht; rw [ht]; first | replace ht := of_decide_eq_true ht | replace ht := of_decide_eq_false ht | skip)) | (refine ych ?_; first | (refine ybw rfl ?_ ?_ <;> intro ht) | (refine ybx rfl ?_ ?_ <;> intro ht)))
      refine cx_region_draw' rfl (by kernel_rfl) ?_
      repeat' (refine ycf ?_;(first|(first|(apply ybm;(·(first|(first|(refine yad rfl (hel _) ?_;rfl))|(apply yae;(·rfl);(·(first|exact ycl (yaz 1 rfl) (l[0].1 - 1).toNat (by omega) (by omega))))|exact tq_));(·rfl);(·rfl);(·(exact th_)))|refine ybl rfl rfl ?_|((fail_if_success (refine ybi rfl ?_));refine ybj rfl ?_ ?_<;>(intro ht;rw [ht];first|replace ht := of_decide_eq_true ht|replace ht := of_decide_eq_false ht|skip))|(refine tb_ ?_ ?_ ?_;(·(exact to_));(·intro _;(exact to_));intro _)|(first|(refine tqs_ ?_ ?_ ?_;(·(exact to_));(·(exact to_))))|(apply ybn;(·(first|(first|(refine yad rfl (hel _) ?_;rfl))|(apply yae;(·rfl);(·(first|exact ycl (yaz 1 rfl) (l[0].1 - 1).toNat (by omega) (by omega))))|exact tq_));(·rfl);(·rfl);(·rfl);(·(exact to_))))|refine ycg ?_))
      (refine ycn (ycp Try.func32 rfl (by kernel_rfl) rfl) (hright) rfl rfl rfl ?_ ?_; (· (exact to_)))
      repeat' (refine ycf ?_;(first|(first|(apply ybm;(·(first|(first|(refine yad rfl (hel _) ?_;rfl))|(apply yae;(·rfl);(·(first|exact ycl (yaz 1 rfl) (l[0].1 - 1).toNat (by omega) (by omega))))|exact tq_));(·rfl);(·rfl);(·(exact th_)))|refine ybl rfl rfl ?_|((fail_if_success (refine ybi rfl ?_));refine ybj rfl ?_ ?_<;>(intro ht;rw [ht];first|replace ht := of_decide_eq_true ht|replace ht := of_decide_eq_false ht|skip))|(refine tb_ ?_ ?_ ?_;(·(exact to_));(·intro _;(exact to_));intro _)|(first|(refine tqs_ ?_ ?_ ?_;(·(exact to_));(·(exact to_))))|(apply ybn;(·(first|(first|(refine yad rfl (hel _) ?_;rfl))|(apply yae;(·rfl);(·(first|exact ycl (yaz 1 rfl) (l[0].1 - 1).toNat (by omega) (by omega))))|exact tq_));(·rfl);(·rfl);(·rfl);(·(exact to_))))|refine ycg ?_))
      all_goals repeat' (first | (refine ycf ?_; apply ybk; (· first | (first | (refine yad rfl (hel _) ?_; rfl)) | (apply yae; (· rfl); (· (first | exact ycl (yaz 1 rfl) (l[0].1 - 1).toNat (by omega) (by omega))))); (· rfl); (· rfl)) | refine t1_ ?_ | (refine ta_ ?_; intro _) | ((fail_if_success (refine ybi rfl ?_)); refine ybj rfl ?_ ?_ <;> (intro ht; rw [ht]; first | replace ht := of_decide_eq_true ht | replace ht := of_decide_eq_false ht | skip)) | (refine ych ?_; first | (refine ybw rfl ?_ ?_ <;> intro ht) | (refine ybx rfl ?_ ?_ <;> intro ht)))
      all_goals (refine nx_ret1 rfl (rv_tmp rfl) (fun w' s' => ⟨?_, s'.nil⟩))
      · congr 2; simp only [uD, ‹_ < l[0].2›]; simp
      · congr 2; simp only [uD, ‹¬ _ < l[0].2›]; simp
    · have hel2 : ∀ L, Cells h L ⟨bs, o + (i - 1) * 2, none⟩ (dcs l[i - 1]) := fun L => hs.elem dcs_len (i - 1) (by omega)
      have ei2 : l.getD (i - 1) (0, 0) = l[i - 1] := by simp [show i - 1 < l.length by omega]
      rw [ei2]
      have hii : ((i : Int) - 1).toNat = i - 1 := by omega
      refine calls_enter Try.func41 rfl Try.ntmps41 rfl s ?_
      repeat' (first | (refine ycf ?_; apply ybk; (· first | (first | (refine yad rfl (hel _) ?_; rfl)) | (apply yae; (· rfl); (· (first | exact yck (yaz 0 rfl) hu rfl)))); (· rfl); (· rfl)) | refine t1_ ?_ | (refine ta_ ?_; intro _) | ((fail_if_success (refine ybi rfl ?_)); refine ybj rfl ?_ ?_ <;> (intro ht; rw [ht]; first | replace ht := of_decide_eq_true ht | replace ht := of_decide_eq_false ht | skip)) | (refine ych ?_; first | (refine ybw rfl ?_ ?_ <;> intro ht) | (refine ybx rfl ?_ ?_ <;> intro ht)))
      refine cx_region_draw' rfl (by kernel_rfl) ?_
      repeat' (refine ycf ?_;(first|(first|(apply ybm;(·(first|(first|(refine yad (k := 2) rfl (vs := dcs l[i - 1]) ?_ ?_;(·rw [hii];exact hel2 _);rfl))|(apply yae;(·rfl);(·(first|exact ycl (yaz 1 rfl) (l[i].1 - 1).toNat (by omega) (by omega)|exact yck (yaz 1 rfl) hu rfl)))|exact tq_));(·rfl);(·rfl);(·(exact th_)))|refine ybl rfl rfl ?_|((fail_if_success (refine ybi rfl ?_));refine ybj rfl ?_ ?_<;>(intro ht;rw [ht];first|replace ht := of_decide_eq_true ht|replace ht := of_decide_eq_false ht|skip))|(refine tb_ ?_ ?_ ?_;(·(exact to_));(·intro _;(exact to_));intro _)|(first|(refine tqs_ ?_ ?_ ?_;(·(exact to_));(·(exact to_))))|(apply ybn;(·(first|(first|(refine yad (k := 2) rfl (vs := dcs l[i - 1]) ?_ ?_;(·rw [hii];exact hel2 _);rfl))|(apply yae;(·rfl);(·(first|exact ycl (yaz 1 rfl) (l[i].1 - 1).toNat (by omega) (by omega)|exact yck (yaz 1 rfl) hu rfl)))|exact tq_));(·rfl);(·rfl);(·rfl);(·(exact to_))))|refine ycg ?_))
      (refine ycn (ycp Try.func32 rfl (by kernel_rfl) rfl) (hright) rfl rfl rfl ?_ ?_; (· (exact to_)))
      repeat' (refine ycf ?_;(first|(first|(apply ybm;(·(first|(first|(refine yad (k := 2) rfl (vs := dcs l[i - 1]) ?_ ?_;(·rw [hii];exact hel2 _);rfl))|(apply yae;(·rfl);(·(first|exact ycl (yaz 1 rfl) (l[i].1 - 1).toNat (by omega) (by omega)|exact yck (yaz 1 rfl) hu rfl)))|exact tq_));(·rfl);(·rfl);(·(exact th_)))|refine ybl rfl rfl ?_|((fail_if_success (refine ybi rfl ?_));refine ybj rfl ?_ ?_<;>(intro ht;rw [ht];first|replace ht := of_decide_eq_true ht|replace ht := of_decide_eq_false ht|skip))|(refine tb_ ?_ ?_ ?_;(·(exact to_));(·intro _;(exact to_));intro _)|(first|(refine tqs_ ?_ ?_ ?_;(·(exact to_));(·(exact to_))))|(apply ybn;(·(first|(first|(refine yad (k := 2) rfl (vs := dcs l[i - 1]) ?_ ?_;(·rw [hii];exact hel2 _);rfl))|(apply yae;(·rfl);(·(first|exact ycl (yaz 1 rfl) (l[i].1 - 1).toNat (by omega) (by omega)|exact yck (yaz 1 rfl) hu rfl)))|exact tq_));(·rfl);(·rfl);(·rfl);(·(exact to_))))|refine ycg ?_))
      · omega
      · (refine ycn (ycp Try.func56 rfl (by kernel_rfl) rfl) (order_sp _ _ h) rfl rfl rfl ?_ ?_; (· (exact to_)))
        repeat' (refine ycf ?_;(first|(first|(apply ybm;(·(first|(first|(refine yad (k := 2) rfl (vs := dcs l[i - 1]) ?_ ?_;(·rw [hii];exact hel2 _);rfl))|(apply yae;(·rfl);(·(first|exact ycl (yaz 1 rfl) (l[i].1 - 1).toNat (by omega) (by omega)|exact yck (yaz 1 rfl) hu rfl)))|exact tq_));(·rfl);(·rfl);(·(exact th_)))|refine ybl rfl rfl ?_|((fail_if_success (refine ybi rfl ?_));refine ybj rfl ?_ ?_<;>(intro ht;rw [ht];first|replace ht := of_decide_eq_true ht|replace ht := of_decide_eq_false ht|skip))|(refine tb_ ?_ ?_ ?_;(·(exact to_));(·intro _;(exact to_));intro _)|(first|(refine tqs_ ?_ ?_ ?_;(·(exact to_));(·(exact to_))))|(apply ybn;(·(first|(first|(refine yad (k := 2) rfl (vs := dcs l[i - 1]) ?_ ?_;(·rw [hii];exact hel2 _);rfl))|(apply yae;(·rfl);(·(first|exact ycl (yaz 1 rfl) (l[i].1 - 1).toNat (by omega) (by omega)|exact yck (yaz 1 rfl) hu rfl)))|exact tq_));(·rfl);(·rfl);(·rfl);(·(exact to_))))|refine ycg ?_))
        repeat' (first | (refine ycf ?_; apply ybk; (· first | (first | (refine yad (k := 2) rfl (vs := dcs l[i - 1]) ?_ ?_; (· rw [hii]; exact hel2 _); rfl)) | (apply yae; (· rfl); (· (first | exact ycl (yaz 1 rfl) (l[i].1 - 1).toNat (by omega) (by omega) | exact yck (yaz 1 rfl) hu rfl)))); (· rfl); (· rfl)) | refine t1_ ?_ | (refine ta_ ?_; intro _) | ((fail_if_success (refine ybi rfl ?_)); refine ybj rfl ?_ ?_ <;> (intro ht; rw [ht]; first | replace ht := of_decide_eq_true ht | replace ht := of_decide_eq_false ht | skip)) | (refine ych ?_; first | (refine ybw rfl ?_ ?_ <;> intro ht) | (refine ybx rfl ?_ ?_ <;> intro ht)))
        refine nx_ret1 rfl (rv_tmp rfl) (fun w' s' => ⟨?_, s'.nil⟩)
        congr 2; simp only [uD, ‹_ < l[i].2›, h0]; simp
      · repeat' (first | (refine ycf ?_; apply ybk; (· first | (first | (refine yad (k := 2) rfl (vs := dcs l[i - 1]) ?_ ?_; (· rw [hii]; exact hel2 _); rfl)) | (apply yae; (· rfl); (· (first | exact ycl (yaz 1 rfl) (l[i].1 - 1).toNat (by omega) (by omega) | exact yck (yaz 1 rfl) hu rfl)))); (· rfl); (· rfl)) | refine t1_ ?_ | (refine ta_ ?_; intro _) | ((fail_if_success (refine ybi rfl ?_)); refine ybj rfl ?_ ?_ <;> (intro ht; rw [ht]; first | replace ht := of_decide_eq_true ht | replace ht := of_decide_eq_false ht | skip)) | (refine ych ?_; first | (refine ybw rfl ?_ ?_ <;> intro ht) | (refine ybx rfl ?_ ?_ <;> intro ht)))
        refine nx_ret1 rfl (rv_tmp rfl) (fun w' s' => ⟨?_, s'.nil⟩)
        congr 2; simp only [uD, ‹¬ _ < l[i].2›]; simp

def upOk (u : List Int) : Bool := u.all fun x => decide (0 ≤ x) && decide (x ≤ 1099511627776)
def moresOk (u : List Int) (l : List Dt) : Bool := (List.range l.length).all (moreB u l)
def checkC (u : List Int) (l : List Dt) : Int := if upOk u = false then 1 else if 32 < l.length then 11 else if moresOk u l = false then 1 else 0

theorem upOk_iff {u : List Int} : upOk u = true ↔ ∀ x ∈ u, 0 ≤ x ∧ x ≤ 1099511627776 := by simp [upOk, List.all_eq_true]

theorem check_sp (cv : Value) (u : List Int) (l : List Dt) (h : View) (hc : Cx h cv u l) (hl : l.length ≤ 4611686018427387904) (w : World) (s : St ⟨w, h, []⟩ h [] w) :
    Calls Try.prog 24 [cv].toArray w fun e w' => e = .returned (.int .i64 (checkC u l)) ∧ St ⟨w, h, []⟩ h [] w' := by
  have hc' := hc
  obtain ⟨hu, mv, rfl, hs⟩ := hc
  obtain ⟨_, ad, cap, rfl, hcap, _⟩ := id hs
  refine calls_enter Try.func24 rfl Try.ntmps24 rfl s ?_
  repeat' (first | (refine ycf ?_; apply ybk; (· first | (first | (apply yad; (· rfl); (· exact ycm (yaz 0 rfl)); (· simp [up, hu]))) | (apply yae; (· rfl); (· (first | exact ycl (yaz 1 rfl) (l[i].1 - 1).toNat (by omega) (by omega) | exact yck (yaz 1 rfl) hu rfl)))); (· rfl); (· rfl)) | refine t1_ ?_ | (refine ta_ ?_; intro _) | ((fail_if_success (refine ybi rfl ?_)); refine ybj rfl ?_ ?_ <;> (intro ht; rw [ht]; first | replace ht := of_decide_eq_true ht | replace ht := of_decide_eq_false ht | skip)) | (refine ych ?_; first | (refine ybw rfl ?_ ?_ <;> intro ht) | (refine ybx rfl ?_ ?_ <;> intro ht)))
  rename_i b
  refine cx_loop (X := Nat) (fun k => [(1, .pointer (some ⟨b, 0, none⟩)), (7, .agg (up u).toArray), (8, .int .i64 k)]) (fun _ => h) (fun _ => _) (fun k => k ≤ 16 ∧ ∀ j (hj : j < u.length), j < k → 0 ≤ u[j] ∧ u[j] ≤ 1099511627776) (fun k => 16 - k) 0 ⟨by omega, by omega⟩ ?_ (fun _ s => s) ?_
  · exact .cons rfl rfl (.cons rfl rfl (.cons rfl rfl .nil))
  rintro k ⟨hk, hok⟩
  by_cases hk16 : k < 16
  · have hku : k < u.length := by omega
    have hidx : (up u).toArray[((k : Int)).toNat * 1]? = some (.int .i64 u[k]) := by simp [up, hku]
    repeat' (first | (refine ycf ?_; apply ybk; (· first | (first | (apply qv_index; (· rfl); (· rfl); (· omega); (· omega); (· exact hidx))) | (apply yae; (· rfl); (· (first | exact ycl (yaz 1 rfl) (l[i].1 - 1).toNat (by omega) (by omega) | exact yck (yaz 1 rfl) hu rfl)))); (· rfl); (· rfl)) | refine t1_ ?_ | (refine ta_ ?_; intro _) | ((fail_if_success (refine ybi rfl ?_)); refine ybj rfl ?_ ?_ <;> (intro ht; rw [ht]; first | replace ht := of_decide_eq_true ht | replace ht := of_decide_eq_false ht | skip)) | (refine ych ?_; first | (refine ybw rfl ?_ ?_ <;> intro ht) | (refine ybx rfl ?_ ?_ <;> intro ht)))
    · refine nx_ret1 rfl (rv_tmp rfl) (fun w' s' => ⟨?_, s'.nil⟩)
      have : upOk u = false := by
        cases hx : upOk u with
        | false => rfl
        | true => have := upOk_iff.1 hx _ (List.getElem_mem hku); omega
      simp [checkC, this]
    · refine nx_ret1 rfl (rv_tmp rfl) (fun w' s' => ⟨?_, s'.nil⟩)
      have : upOk u = false := by
        cases hx : upOk u with
        | false => rfl
        | true => have := upOk_iff.1 hx _ (List.getElem_mem hku); omega
      simp [checkC, this]
    · refine nx_round (k + 1) ⟨by omega, fun j hj hjk => ?_⟩ (by omega) ts_ (fun _ s => s)
      by_cases hjk' : j = k
      · subst hjk'; omega
      · exact hok j hj (by omega)
    · omega
  · have hup : upOk u = true := upOk_iff.2 fun x hx => by
      obtain ⟨j, hj, rfl⟩ := List.getElem_of_mem hx
      exact hok j hj (by omega)
    have hub := upOk_iff.1 hup
    repeat' (first | (refine ycf ?_; apply ybk; (· first | (first | (apply qv_index; (· rfl); (· rfl); (· omega); (· omega); (· exact hidx))) | (apply yae; (· rfl); (· (first | exact yck (yaz 0 rfl) hu rfl)))); (· rfl); (· rfl)) | refine t1_ ?_ | (refine ta_ ?_; intro _) | ((fail_if_success (refine ybi rfl ?_)); refine ybj rfl ?_ ?_ <;> (intro ht; rw [ht]; first | replace ht := of_decide_eq_true ht | replace ht := of_decide_eq_false ht | skip)) | (refine ych ?_; first | (refine ybw rfl ?_ ?_ <;> intro ht) | (refine ybx rfl ?_ ?_ <;> intro ht)))
    · omega
    · refine nx_ret1 rfl (rv_tmp rfl) (fun w' s' => ⟨?_, s'.nil⟩)
      have : 32 < l.length := by omega
      simp [checkC, hup, this]
    refine cx_loop (X := Nat) (fun k => [(1, .pointer (some ⟨b, 0, none⟩)), (24, .int .i64 l.length), (25, .int .i64 k)]) (fun _ => h) (fun _ => _) (fun k => k ≤ l.length ∧ ∀ j, j < k → moreB u l j = true) (fun k => l.length - k) 0 ⟨by omega, by omega⟩ ts_ (fun _ s => s) ?_
    rintro j ⟨hj, hm⟩
    by_cases hjl : j < l.length
    · have hmore := more_sp _ u l j h hc' hl hjl hub
      cases hM : moreB u l j with
      | false =>
        rw [hM] at hmore
        repeat' (first | (refine ycf ?_; apply ybk; (· first | (first | (apply yad; (· rfl); (· exact yaz 0 rfl); (· exact ycj hu))) | (apply yae; (· rfl); (· (first | exact yck (yaz 0 rfl) hu rfl)))); (· rfl); (· rfl)) | refine t1_ ?_ | (refine ta_ ?_; intro _) | ((fail_if_success (refine ybi rfl ?_)); refine ybj rfl ?_ ?_ <;> (intro ht; rw [ht]; first | replace ht := of_decide_eq_true ht | replace ht := of_decide_eq_false ht | skip)) | (refine ych ?_; first | (refine ybw rfl ?_ ?_ <;> intro ht) | (refine ybx rfl ?_ ?_ <;> intro ht)))
        (refine ycn (ycp Try.func41 rfl (by kernel_rfl) rfl) (hmore) rfl rfl rfl ?_ ?_; (· (exact to_)))
        repeat' (first | (refine ycf ?_; apply ybk; (· first | (first | (apply yad; (· rfl); (· exact yaz 0 rfl); (· exact ycj hu))) | (apply yae; (· rfl); (· (first | exact yck (yaz 0 rfl) hu rfl)))); (· rfl); (· rfl)) | refine t1_ ?_ | (refine ta_ ?_; intro _) | ((fail_if_success (refine ybi rfl ?_)); refine ybj rfl ?_ ?_ <;> (intro ht; rw [ht]; first | replace ht := of_decide_eq_true ht | replace ht := of_decide_eq_false ht | skip)) | (refine ych ?_; first | (refine ybw rfl ?_ ?_ <;> intro ht) | (refine ybx rfl ?_ ?_ <;> intro ht)))
        refine nx_ret1 rfl (rv_tmp rfl) (fun w' s' => ⟨?_, s'.nil⟩)
        have h1 : moresOk u l = false := by
          cases hx : moresOk u l with
          | false => rfl
          | true =>
            have := List.all_eq_true.1 hx j (List.mem_range.2 hjl)
            rw [hM] at this; cases this
        simp [checkC, hup, h1]; omega
        omega
      | true =>
        rw [hM] at hmore
        repeat' (first | (refine ycf ?_; apply ybk; (· first | (first | (apply yad; (· rfl); (· exact yaz 0 rfl); (· exact ycj hu))) | (apply yae; (· rfl); (· (first | exact yck (yaz 0 rfl) hu rfl)))); (· rfl); (· rfl)) | refine t1_ ?_ | (refine ta_ ?_; intro _) | ((fail_if_success (refine ybi rfl ?_)); refine ybj rfl ?_ ?_ <;> (intro ht; rw [ht]; first | replace ht := of_decide_eq_true ht | replace ht := of_decide_eq_false ht | skip)) | (refine ych ?_; first | (refine ybw rfl ?_ ?_ <;> intro ht) | (refine ybx rfl ?_ ?_ <;> intro ht)))
        (refine ycn (ycp Try.func41 rfl (by kernel_rfl) rfl) (hmore) rfl rfl rfl ?_ ?_; (· (exact to_)))
        repeat' (first | (refine ycf ?_; apply ybk; (· first | (first | (apply yad; (· rfl); (· exact yaz 0 rfl); (· exact ycj hu))) | (apply yae; (· rfl); (· (first | exact yck (yaz 0 rfl) hu rfl)))); (· rfl); (· rfl)) | refine t1_ ?_ | (refine ta_ ?_; intro _) | ((fail_if_success (refine ybi rfl ?_)); refine ybj rfl ?_ ?_ <;> (intro ht; rw [ht]; first | replace ht := of_decide_eq_true ht | replace ht := of_decide_eq_false ht | skip)) | (refine ych ?_; first | (refine ybw rfl ?_ ?_ <;> intro ht) | (refine ybx rfl ?_ ?_ <;> intro ht)))
        refine nx_round (j + 1) ⟨by omega, fun i hi => ?_⟩ (by omega) ts_ (fun _ s => s)
        by_cases hij : i = j
        · subst hij; exact hM
        · exact hm i (by omega)
        omega
    · repeat' (first | (refine ycf ?_; apply ybk; (· first | (first | (apply yad; (· rfl); (· exact yaz 0 rfl); (· exact ycj hu))) | (apply yae; (· rfl); (· (first | exact yck (yaz 0 rfl) hu rfl)))); (· rfl); (· rfl)) | refine t1_ ?_ | (refine ta_ ?_; intro _) | ((fail_if_success (refine ybi rfl ?_)); refine ybj rfl ?_ ?_ <;> (intro ht; rw [ht]; first | replace ht := of_decide_eq_true ht | replace ht := of_decide_eq_false ht | skip)) | (refine ych ?_; first | (refine ybw rfl ?_ ?_ <;> intro ht) | (refine ybx rfl ?_ ?_ <;> intro ht)))
      · omega
      refine nx_ret1 rfl (rv_tmp rfl) (fun w' s' => ⟨?_, s'.nil⟩)
      have h1 : moresOk u l = true := List.all_eq_true.2 fun i hi => hm i (by have := List.mem_range.1 hi; omega)
      simp [checkC, hup, h1]; omega

theorem Has_sp (cv : Value) (u : List Int) (l : List Dt) (d : Dt) (h : View) (hc : Cx h cv u l) (hl : l.length ≤ 4611686018427387904) (w : World) (s : St ⟨w, h, []⟩ h [] w) :
    Calls Try.prog 13 [cv, dv d].toArray w fun e w' => e = .returned (.bool (decide (checkC u l = 0) && rightB d && hasC u l d)) ∧ St ⟨w, h, []⟩ h [] w' := by
  have hc' := hc
  obtain ⟨hu, mv, rfl, hs⟩ := hc
  have hchk := check_sp _ u l h hc' hl
  have hright := right_sp d h
  cases hR : rightB d with
  | false =>
    rw [hR] at hright
    refine calls_enter Try.func13 rfl Try.ntmps13 rfl s ?_
    repeat' (first | (refine ycf ?_; apply ybk; (· first | (first | (apply yad; (· rfl); (· exact yaz 1 rfl); (· exact ycj hu))) | (apply yae; (· rfl); (· (first | exact yck (yaz 0 rfl) hu rfl)))); (· rfl); (· rfl)) | refine t1_ ?_ | (refine ta_ ?_; intro _) | ((fail_if_success (refine ybi rfl ?_)); refine ybj rfl ?_ ?_ <;> (intro ht; rw [ht]; first | replace ht := of_decide_eq_true ht | replace ht := of_decide_eq_false ht | skip)) | (refine ych ?_; first | (refine ybw rfl ?_ ?_ <;> intro ht) | (refine ybx rfl ?_ ?_ <;> intro ht)))
    (refine ycn (ycp Try.func24 rfl (by kernel_rfl) rfl) (hchk) rfl rfl rfl ?_ ?_; (· (exact to_)))
    repeat' (first | (refine ycf ?_; apply ybk; (· first | (first | (apply yad; (· rfl); (· exact yaz 1 rfl); (· exact ycj hu))) | (apply yae; (· rfl); (· (first | exact yck (yaz 0 rfl) hu rfl)))); (· rfl); (· rfl)) | refine t1_ ?_ | (refine ta_ ?_; intro _) | ((fail_if_success (refine ybi rfl ?_)); refine ybj rfl ?_ ?_ <;> (intro ht; rw [ht]; first | replace ht := of_decide_eq_true ht | replace ht := of_decide_eq_false ht | skip)) | (refine ych ?_; first | (refine ybw rfl ?_ ?_ <;> intro ht) | (refine ybx rfl ?_ ?_ <;> intro ht)))
    · (refine ycn (ycp Try.func32 rfl (by kernel_rfl) rfl) (hright) rfl rfl rfl ?_ ?_; (· (exact to_)))
      repeat' (first | (refine ycf ?_; apply ybk; (· first | (first | (apply yad; (· rfl); (· exact yaz 1 rfl); (· exact ycj hu))) | (apply yae; (· rfl); (· (first | exact yck (yaz 0 rfl) hu rfl)))); (· rfl); (· rfl)) | refine t1_ ?_ | (refine ta_ ?_; intro _) | ((fail_if_success (refine ybi rfl ?_)); refine ybj rfl ?_ ?_ <;> (intro ht; rw [ht]; first | replace ht := of_decide_eq_true ht | replace ht := of_decide_eq_false ht | skip)) | (refine ych ?_; first | (refine ybw rfl ?_ ?_ <;> intro ht) | (refine ybx rfl ?_ ?_ <;> intro ht)))
      exact nx_ret1 rfl (rv_tmp rfl) (fun w' s' => ⟨by simp, s'.nil⟩)
    · exact nx_ret1 rfl (rv_tmp rfl) (fun w' s' => ⟨by simp, s'.nil⟩)
  | true =>
    rw [hR] at hright
    have hhas := has_sp _ u l d h hc' hl hR
    refine calls_enter Try.func13 rfl Try.ntmps13 rfl s ?_
    repeat' (first | (refine ycf ?_; apply ybk; (· first | (first | (apply yad; (· rfl); (· exact yaz 1 rfl); (· exact ycj hu))) | (apply yae; (· rfl); (· (first | exact yck (yaz 0 rfl) hu rfl)))); (· rfl); (· rfl)) | refine t1_ ?_ | (refine ta_ ?_; intro _) | ((fail_if_success (refine ybi rfl ?_)); refine ybj rfl ?_ ?_ <;> (intro ht; rw [ht]; first | replace ht := of_decide_eq_true ht | replace ht := of_decide_eq_false ht | skip)) | (refine ych ?_; first | (refine ybw rfl ?_ ?_ <;> intro ht) | (refine ybx rfl ?_ ?_ <;> intro ht)))
    (refine ycn (ycp Try.func24 rfl (by kernel_rfl) rfl) (hchk) rfl rfl rfl ?_ ?_; (· (exact to_)))
    repeat' (first | (refine ycf ?_; apply ybk; (· first | (first | (apply yad; (· rfl); (· exact yaz 1 rfl); (· exact ycj hu))) | (apply yae; (· rfl); (· (first | exact yck (yaz 0 rfl) hu rfl)))); (· rfl); (· rfl)) | refine t1_ ?_ | (refine ta_ ?_; intro _) | ((fail_if_success (refine ybi rfl ?_)); refine ybj rfl ?_ ?_ <;> (intro ht; rw [ht]; first | replace ht := of_decide_eq_true ht | replace ht := of_decide_eq_false ht | skip)) | (refine ych ?_; first | (refine ybw rfl ?_ ?_ <;> intro ht) | (refine ybx rfl ?_ ?_ <;> intro ht)))
    · (refine ycn (ycp Try.func32 rfl (by kernel_rfl) rfl) (hright) rfl rfl rfl ?_ ?_; (· (exact to_)))
      repeat' (first | (refine ycf ?_; apply ybk; (· first | (first | (apply yad; (· rfl); (· exact yaz 1 rfl); (· exact ycj hu))) | (apply yae; (· rfl); (· (first | exact yck (yaz 0 rfl) hu rfl)))); (· rfl); (· rfl)) | refine t1_ ?_ | (refine ta_ ?_; intro _) | ((fail_if_success (refine ybi rfl ?_)); refine ybj rfl ?_ ?_ <;> (intro ht; rw [ht]; first | replace ht := of_decide_eq_true ht | replace ht := of_decide_eq_false ht | skip)) | (refine ych ?_; first | (refine ybw rfl ?_ ?_ <;> intro ht) | (refine ybx rfl ?_ ?_ <;> intro ht)))
      (refine ycn (ycp Try.func36 rfl (by kernel_rfl) rfl) (hhas) rfl rfl rfl ?_ ?_; (· (exact to_)))
      repeat' (first | (refine ycf ?_; apply ybk; (· first | (first | (apply yad; (· rfl); (· exact yaz 1 rfl); (· exact ycj hu))) | (apply yae; (· rfl); (· (first | exact yck (yaz 0 rfl) hu rfl)))); (· rfl); (· rfl)) | refine t1_ ?_ | (refine ta_ ?_; intro _) | ((fail_if_success (refine ybi rfl ?_)); refine ybj rfl ?_ ?_ <;> (intro ht; rw [ht]; first | replace ht := of_decide_eq_true ht | replace ht := of_decide_eq_false ht | skip)) | (refine ych ?_; first | (refine ybw rfl ?_ ?_ <;> intro ht) | (refine ybx rfl ?_ ?_ <;> intro ht)))
      exact nx_ret1 rfl (rv_tmp rfl) (fun w' s' => ⟨by simp_all, s'.nil⟩)
    · exact nx_ret1 rfl (rv_tmp rfl) (fun w' s' => ⟨by simp_all, s'.nil⟩)
end Go.Proofs.Ytbpahaciegfpfaa
