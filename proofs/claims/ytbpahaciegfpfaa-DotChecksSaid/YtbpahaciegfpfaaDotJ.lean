/-
  DotJ: dot.tidy.
  Conditions: at most a million dots, all right; sixteen numbers from 0 to far.
-/
import Derived.Test.YtbpahaciegfpfaaCkLend
import Derived.Test.YtbpahaciegfpfaaDotI
namespace Go.Proofs.Ytbpahaciegfpfaa
open Go Go.Ck
set_option maxRecDepth 100000
set_option maxHeartbeats 1000000
set_option linter.unusedVariables false

def tstep (x : List Int × List Dt) (d : Dt) : List Int × List Dt :=
  if d.2 = x.1.getD (d.1 - 1).toNat 0 + 1 then (x.1.set (d.1 - 1).toNat d.2, x.2)
  else if x.1.getD (d.1 - 1).toNat 0 < d.2 ∧ d ∉ x.2 then (x.1, x.2 ++ [d]) else x
def tfold (u : List Int) (l : List Dt) : List Int × List Dt := l.foldl tstep (u, [])
def zeroU : List Int := List.replicate 16 0

theorem list16 : ∀ u : List Int, u.length = 16 → ∃ a0 a1 a2 a3 a4 a5 a6 a7 a8 a9 a10 a11 a12 a13 a14 a15, u = [a0, a1, a2, a3, a4, a5, a6, a7, a8, a9, a10, a11, a12, a13, a14, a15]
  | [a0, a1, a2, a3, a4, a5, a6, a7, a8, a9, a10, a11, a12, a13, a14, a15], _ => ⟨a0, a1, a2, a3, a4, a5, a6, a7, a8, a9, a10, a11, a12, a13, a14, a15, rfl⟩

theorem cxc_sz {u : List Int} {x : Value} (hu : u.length = 16) : (Value.agg (cxc u x).toArray).cells.size = 17 := by
  show (cxc u x).toArray.size = 17
  simp [ycj hu]
theorem cxc_fit {u : List Int} {x : Value} (hu : u.length = 16) : 0 + (Value.agg (cxc u x).toArray).cells.size ≤ 17 := by rw [cxc_sz hu]; omega
theorem cxc_all {u : List Int} {x : Value} (hu : u.length = 16) : (Value.agg (cxc u x).toArray).cells.toList.length = 17 := by
  show (cxc u x).toArray.toList.length = 17
  simp [ycj hu]
theorem cxc_one {u : List Int} {x : Value} (hx : x.oneCell' = true) : (Value.agg (cxc u x).toArray).cells.toList.all Value.oneCell' = true := by
  show (cxc u x).toArray.toList.all Value.oneCell' = true
  simp only [cxc, up, List.all_append, List.all_map, List.all_cons, List.all_nil, hx]
  simp [Value.oneCell', List.all_eq_true]
theorem tstep_len {x : List Int × List Dt} {d : Dt} : (tstep x d).1.length = x.1.length := by
  unfold tstep; split
  · simp
  · split <;> rfl
theorem tfold_succ {u : List Int} {l : List Dt} {k : Nat} (hk : k < l.length) : tfold u (l.take (k + 1)) = tstep (tfold u (l.take k)) l[k] := by
  unfold tfold
  rw [List.take_succ_eq_append_getElem hk, List.foldl_append]
  rfl
theorem tfold_ok {u : List Int} (hu : u.length = 16) (hub : ∀ x ∈ u, 0 ≤ x ∧ x ≤ 1099511627776) {l : List Dt} (hr : ∀ d ∈ l, rightB d = true) : ∀ k, k ≤ l.length →
    (tfold u (l.take k)).1.length = 16 ∧ (∀ x ∈ (tfold u (l.take k)).1, 0 ≤ x ∧ x ≤ 1099511627776) ∧ (tfold u (l.take k)).2.length ≤ k ∧ ∀ d ∈ (tfold u (l.take k)).2, rightB d = true := by
  intro k
  induction k with
  | zero => intro _; exact ⟨hu, hub, by simp [tfold], by simp [tfold]⟩
  | succ k ih =>
    intro hk
    obtain ⟨h1, h2, h3, h4⟩ := ih (by omega)
    rw [tfold_succ (by omega)]
    have hd := hr l[k] (List.getElem_mem _)
    have hdr := right_of hd
    unfold tstep
    split
    · refine ⟨by simpa using h1, fun x hx => ?_, Nat.le_succ_of_le h3, h4⟩
      rcases List.mem_or_eq_of_mem_set hx with hx | rfl
      · exact h2 x hx
      · omega
    · split
      · refine ⟨h1, h2, by simp; omega, fun d hd' => ?_⟩
        rcases List.mem_append.1 hd' with hd' | hd'
        · exact h4 d hd'
        · have : d = l[k] := by simpa using hd'
          rw [this]; exact hd
      · exact ⟨h1, h2, by omega, h4⟩

theorem spl_cxc {u : List Int} {mv : Value} {x : Int} {i o : Nat} (ho : o = i) (hi : i < u.length) : spl (cxc u mv).toArray.toList o (Value.int .i64 x).cells.toList = cxc (u.set i x) mv := by
  subst ho
  show (up u ++ [mv]).take o ++ [Value.int .i64 x] ++ (up u ++ [mv]).drop (o + 1) = up (u.set o x) ++ [mv]
  have hl : (up u).length = u.length := by simp [up]
  rw [List.take_append_of_le_length (by omega), List.drop_append_of_le_length (by omega)]
  unfold up
  rw [List.map_set, List.set_eq_take_append_cons_drop, if_pos (by simpa using hi)]
  simp
theorem fit_cxc {u : List Int} {mv : Value} {x : Int} {i o : Nat} (hu : u.length = 16) (ho : o = i) (hi : i < u.length) : o + (Value.int .i64 x).cells.size ≤ (cxc u mv).toArray.size := by
  show o + 1 ≤ _
  simp [ycj hu]; omega

theorem spl_more {u : List Int} {mv : Value} {ad : Option Addr} {m c : Nat} (hu : u.length = 16) : spl (cxc u mv).toArray.toList 16 (Value.slice ad m c).cells.toList = cxc u (.slice ad m c) := by
  show (up u ++ [mv]).take 16 ++ [Value.slice ad m c] ++ (up u ++ [mv]).drop (16 + 1) = up u ++ [Value.slice ad m c]
  have hl : (up u).length = 16 := by simp [up, hu]
  rw [← hl, List.take_left, List.drop_eq_nil_of_le (by simp)]
  simp
theorem fit_more {u : List Int} {mv : Value} {ad : Option Addr} {m c : Nat} (hu : u.length = 16) : 0 + 16 + (Value.slice ad m c).cells.size ≤ (cxc u mv).toArray.size := by
  show 16 + 1 ≤ _
  simp [ycj hu]

theorem tidy_sp (u : List Int) (mv : Value) (Lm : List Dt) (h : View) (hu : u.length = 16) (hub : ∀ x ∈ u, 0 ≤ x ∧ x ≤ 1099511627776) (hs : Ds h mv Lm) (hr : ∀ d ∈ Lm, rightB d = true) (hlen : Lm.length ≤ 1000000) (w : World) (s : St ⟨w, h, []⟩ h [] w) :
    Calls Try.prog 33 [.agg (up u).toArray, mv].toArray w fun e w' => ∃ x : View × Value × List Dt × Int, e = .returned (.tuple #[x.2.1, .int .i64 x.2.2.2]) ∧ St ⟨w, h, []⟩ x.1 [] w' ∧ x.2.2.1.Perm Lm ∧ SortedD x.2.2.1 ∧
      (if 32 < (tfold u x.2.2.1).2.length then x.2.2.2 = 11 ∧ Cx x.1 x.2.1 zeroU [] else x.2.2.2 = 0 ∧ Cx x.1 x.2.1 (tfold u x.2.2.1).1 (tfold u x.2.2.1).2) := by
  refine calls_enter Try.func33 rfl Try.ntmps33 rfl s ?_
  have hfu : fillL (fun i : Nat => ([(0, 16), (16, 1)] : List (Nat × Nat))[i]?) (up zeroU ++ [.slice none 0 0]) [(0, .agg (up u).toArray)] = some (cxc u (.slice none 0 0)) := by
    obtain ⟨a0, a1, a2, a3, a4, a5, a6, a7, a8, a9, a10, a11, a12, a13, a14, a15, rfl⟩ := list16 u hu
    rfl
  repeat' (first | (refine ycf ?_; apply ybk; (· first | (first | (apply yad (vs := up u); (· rfl); (· exact yaz 1 rfl); (· simp [up, hu])) | (apply yax (cs := cxc u (.slice none 0 0)); (· rfl); (· exact hfu)))); (· rfl); (· rfl)) | (refine ybg 0 rfl rfl rfl (cxc_sz hu) (cxc_fit hu) (cxc_one rfl) (ybh (cxc_all hu)) rfl rfl ?_ ?_ ?_; (· (exact to_)); (· (exact to_))) | refine t1_ ?_ | (refine ta_ ?_; intro _) | ((fail_if_success (refine ybi rfl ?_)); refine ybj rfl ?_ ?_ <;> (intro ht; rw [ht]; first | replace ht := of_decide_eq_true ht | replace ht := of_decide_eq_false ht | skip)) | (refine ych ?_; first | (refine ybw rfl ?_ ?_ <;> intro ht) | (refine ybx rfl ?_ ?_ <;> intro ht)))
  (refine yco (ycp Try.func55 rfl (by kernel_rfl) rfl) (values_sp mv Lm h hs) rfl rfl rfl ?_ ?_ ?_; (· (exact to_)); (· intro _ _ hle; (exact to_)); intro x px hle)
  repeat' (first | (refine ycf ?_; apply ybk; (· first | (first | (apply yad (vs := up u); (· rfl); (· exact yaz 1 rfl); (· simp [up, hu])) | (apply yax (cs := cxc u (.slice none 0 0)); (· rfl); (· exact hfu)))); (· rfl); (· rfl)) | (refine ybg 0 rfl rfl rfl (cxc_sz hu) (cxc_fit hu) (cxc_one rfl) (ybh (cxc_all hu)) rfl rfl ?_ ?_ ?_; (· (exact to_)); (· (exact to_))) | refine t1_ ?_ | (refine ta_ ?_; intro _) | ((fail_if_success (refine ybi rfl ?_)); refine ybj rfl ?_ ?_ <;> (intro ht; rw [ht]; first | replace ht := of_decide_eq_true ht | replace ht := of_decide_eq_false ht | skip)) | (refine ych ?_; first | (refine ybw rfl ?_ ?_ <;> intro ht) | (refine ybx rfl ?_ ?_ <;> intro ht)))
  generalize hv1 : addV h x _ = h1 at *
  have hb1 : h1 x = some (.cells #[mv] 22 (0, 0)) := by rw [← hv1]; exact addV_same
  have hle1 := hle
  (refine yco (ycp Try.func54 rfl (by kernel_rfl) rfl) (sortedFunc_sp x mv Lm h1 (hs.mono hle1) hb1 hlen) rfl rfl rfl ?_ ?_ ?_; (· (exact to_)); (· intro _ _ hle; (exact to_)); intro x px hle)
  refine rx_persist rfl fun h2 hle2 hsv => ?_
  obtain ⟨v, srt⟩ := x
  obtain ⟨hperm, hsorted⟩ := px
  replace hsv : Ds h2 v srt := hsv
  obtain ⟨_, ad, cap, rfl, hcap, _⟩ := id hsv
  have hsl : srt.length = Lm.length := hperm.length_eq
  have hsr : ∀ d ∈ srt, rightB d = true := fun d hd => hr d (hperm.mem_iff.1 hd)
  repeat' (first | (refine ycf ?_; apply ybk; (· first | (first | (apply yad (vs := up u); (· rfl); (· exact yaz 1 rfl); (· simp [up, hu])) | (apply yax (cs := cxc u (.slice none 0 0)); (· rfl); (· exact hfu)))); (· rfl); (· rfl)) | (refine ybg 0 rfl rfl rfl (cxc_sz hu) (cxc_fit hu) (cxc_one rfl) (ybh (cxc_all hu)) rfl rfl ?_ ?_ ?_; (· (exact to_)); (· (exact to_))) | refine t1_ ?_ | (refine ta_ ?_; intro _) | ((fail_if_success (refine ybi rfl ?_)); refine ybj rfl ?_ ?_ <;> (intro ht; rw [ht]; first | replace ht := of_decide_eq_true ht | replace ht := of_decide_eq_false ht | skip)) | (refine ych ?_; first | (refine ybw rfl ?_ ?_ <;> intro ht) | (refine ybx rfl ?_ ?_ <;> intro ht)))
  rename_i b2 b4 b6 hlex hl1 hl2
  refine cx_row 24 2 ?_
  refine cx_loop (X := Nat × Value) (fun y => [(4, .pointer (some ⟨b4, 0, none⟩)), (5, .int .i64 0), (6, .pointer (some ⟨b6, 0, none⟩)), (14, .slice ad srt.length cap), (15, .int .i64 srt.length), (16, .int .i64 y.1)]) (fun _ => h2)
    (fun y => [Res.row 24 2 y.2 (tfold u (srt.take y.1)).2.length ((tfold u (srt.take y.1)).2.flatMap dcs), Res.blk b6 (.cells (cxc (tfold u (srt.take y.1)).1 y.2).toArray 27 (0, 0)), Res.blk b4 (.cells (cxc zeroU (.slice none 0 0)).toArray 27 (0, 0))])
    (fun y => y.1 ≤ srt.length) (fun y => srt.length - y.1) (0, .slice none 0 0) (Nat.zero_le _) ts_ (fun _ s => st_left (B := [_]) s) ?_
  rintro ⟨k, v'⟩ hk
  replace hk : k ≤ srt.length := hk
  obtain ⟨t1, t2, t3, t4⟩ := tfold_ok hu hub hsr k hk
  by_cases hkl : k < srt.length
  · have eT := tfold_succ (u := u) hkl
    dsimp only
    generalize tfold u (srt.take k) = T at t1 t2 t3 t4 eT ⊢
    obtain ⟨u1, m1⟩ := T
    dsimp only at t1 t2 t3 t4 ⊢
    have hd := hsr srt[k] (List.getElem_mem _)
    have hdr := right_of hd
    obtain ⟨bs, o, rfl⟩ := hsv.ad (by omega) (by omega)
    have hel : ∀ L, Cells h2 L ⟨bs, o + k * 2, none⟩ (dcs srt[k]) := fun L => hsv.elem dcs_len k hkl
    have hgb := t2 (u1.getD (srt[k].1 - 1).toNat 0) (getD_mem (by omega))
    repeat' (first|(refine ycf ?_;apply ybk;(·first|(first|(apply yad;(·rfl);(·exact hel _);(·rfl))|(apply qv_nilCheck;rfl))|(apply yae;(·rfl);(·(first|exact ycl (yaz 2 rfl) (srt[k].1 - 1).toNat (by omega) (by omega)|exact yck (yaz 2 rfl) t1 rfl))));(·rfl);(·rfl))|(refine ybg 2 rfl rfl rfl rfl (fit_cxc (i := (srt[k].1 - 1).toNat) t1 (by omega) (by omega)) rfl (spl_cxc (i := (srt[k].1 - 1).toNat) (by omega) (by omega)) rfl rfl ?_ ?_ ?_;(·(exact to_));(·(exact to_)))|refine t1_ ?_|(refine ta_ ?_;intro _)|((fail_if_success (refine ybi rfl ?_));refine ybj rfl ?_ ?_<;>(intro ht;rw [ht];first|replace ht := of_decide_eq_true ht|replace ht := of_decide_eq_false ht|skip))|(refine ych ?_;first|(refine ybw rfl ?_ ?_<;>intro ht)|(refine ybx rfl ?_ ?_<;>intro ht)))
    · refine cx_region_draw' rfl (by kernel_rfl) ?_
      repeat' (refine ycf ?_;(first|(first|(apply ybm;(·(first|(first|(apply yad;(·rfl);(·exact hel _);(·rfl))|(apply qv_nilCheck;rfl))|(apply yae;(·rfl);(·(first|exact ycl (yaz 2 rfl) (srt[k].1 - 1).toNat (by omega) (by omega)|exact yck (yaz 2 rfl) t1 rfl)))|exact tq_));(·rfl);(·rfl);(·(exact th_)))|refine ybl rfl rfl ?_|((fail_if_success (refine ybi rfl ?_));refine ybj rfl ?_ ?_<;>(intro ht;rw [ht];first|replace ht := of_decide_eq_true ht|replace ht := of_decide_eq_false ht|skip))|(refine tb_ ?_ ?_ ?_;(·(exact to_));(·intro _;(exact to_));intro _)|(first|(refine ybg 2 rfl rfl rfl rfl (fit_cxc (i := (srt[k].1 - 1).toNat) t1 (by omega) (by omega)) rfl (spl_cxc (i := (srt[k].1 - 1).toNat) (by omega) (by omega)) rfl rfl ?_ ?_ ?_;(·(exact to_));(·(exact to_)))|(refine tqs_ ?_ ?_ ?_;(·(exact to_));(·(exact to_))))|(apply ybn;(·(first|(first|(apply yad;(·rfl);(·exact hel _);(·rfl))|(apply qv_nilCheck;rfl))|(apply yae;(·rfl);(·(first|exact ycl (yaz 2 rfl) (srt[k].1 - 1).toNat (by omega) (by omega)|exact yck (yaz 2 rfl) t1 rfl)))|exact tq_));(·rfl);(·rfl);(·rfl);(·(exact to_))))|refine ycg ?_))
      repeat' (first|(refine ycf ?_;apply ybk;(·first|(first|(apply yad;(·rfl);(·exact hel _);(·rfl))|(apply qv_nilCheck;rfl))|(apply yae;(·rfl);(·(first|exact ycl (yaz 2 rfl) (srt[k].1 - 1).toNat (by omega) (by omega)|exact yck (yaz 2 rfl) t1 rfl))));(·rfl);(·rfl))|(refine ybg 2 rfl rfl rfl rfl (fit_cxc (i := (srt[k].1 - 1).toNat) t1 (by omega) (by omega)) rfl (spl_cxc (i := (srt[k].1 - 1).toNat) (by omega) (by omega)) rfl rfl ?_ ?_ ?_;(·(exact to_));(·(exact to_)))|refine t1_ ?_|(refine ta_ ?_;intro _)|((fail_if_success (refine ybi rfl ?_));refine ybj rfl ?_ ?_<;>(intro ht;rw [ht];first|replace ht := of_decide_eq_true ht|replace ht := of_decide_eq_false ht|skip))|(refine ych ?_;first|(refine ybw rfl ?_ ?_<;>intro ht)|(refine ybx rfl ?_ ?_<;>intro ht)))
      · have e2 : tstep (u1, m1) srt[k] = (u1.set (srt[k].1 - 1).toNat (u1.getD (srt[k].1 - 1).toNat 0 + 1), m1) := by
          unfold tstep
          rw [if_pos ht, ht]
        refine nx_round (k + 1, v') (by show k + 1 ≤ _; omega) (by show srt.length - (k + 1) < srt.length - k; omega) ts_ (fun _ s => ?_)
        dsimp only
        rw [eT, e2]
        exact s.tl
      · have hne := ht
        refine cx_region_draw' rfl (by kernel_rfl) ?_
        repeat' (refine ycf ?_;(first|(first|(apply ybm;(·(first|(first|(apply yad;(·rfl);(·exact hel _);(·rfl))|(apply qv_nilCheck;rfl))|(apply yae;(·rfl);(·(first|exact ycl (yaz 2 rfl) (srt[k].1 - 1).toNat (by omega) (by omega)|exact yck (yaz 2 rfl) t1 rfl)))|exact tq_));(·rfl);(·rfl);(·(exact th_)))|refine ybl rfl rfl ?_|((fail_if_success (refine ybi rfl ?_));refine ybj rfl ?_ ?_<;>(intro ht;rw [ht];first|replace ht := of_decide_eq_true ht|replace ht := of_decide_eq_false ht|skip))|(refine tb_ ?_ ?_ ?_;(·(exact to_));(·intro _;(exact to_));intro _)|(first|(refine ybg 2 rfl rfl rfl rfl (fit_cxc (i := (srt[k].1 - 1).toNat) t1 (by omega) (by omega)) rfl (spl_cxc (i := (srt[k].1 - 1).toNat) (by omega) (by omega)) rfl rfl ?_ ?_ ?_;(·(exact to_));(·(exact to_)))|(refine tqs_ ?_ ?_ ?_;(·(exact to_));(·(exact to_))))|(apply ybn;(·(first|(first|(apply yad;(·rfl);(·exact hel _);(·rfl))|(apply qv_nilCheck;rfl))|(apply yae;(·rfl);(·(first|exact ycl (yaz 2 rfl) (srt[k].1 - 1).toNat (by omega) (by omega)|exact yck (yaz 2 rfl) t1 rfl)))|exact tq_));(·rfl);(·rfl);(·rfl);(·(exact to_))))|refine ycg ?_))
        · have hgt := ht
          (refine rx_call_lend (u := .bool (decide (srt[k] ∈ m1))) 1 (ycp Try.func57 rfl (by kernel_rfl) rfl) rfl (fun h' _ hsc => contains_sp v' m1 srt[k] h' hsc (by omega)) rfl rfl rfl ?_ ?_; (· (exact to_)))
          by_cases hin : srt[k] ∈ m1
          · have e2 : tstep (u1, m1) srt[k] = (u1, m1) := by
              unfold tstep
              rw [if_neg hne, if_neg (fun hx => hx.2 hin)]
            have ed : decide (srt[k] ∈ m1) = true := decide_eq_true hin
            rw [ed]
            repeat' (refine ycf ?_;(first|(first|(apply ybm;(·(first|(first|(apply yad;(·rfl);(·exact hel _);(·rfl))|(apply qv_nilCheck;rfl))|(apply yae;(·rfl);(·(first|exact ycl (yaz 2 rfl) (srt[k].1 - 1).toNat (by omega) (by omega)|exact yck (yaz 2 rfl) t1 rfl)))|exact tq_));(·rfl);(·rfl);(·(exact th_)))|refine ybl rfl rfl ?_|((fail_if_success (refine ybi rfl ?_));refine ybj rfl ?_ ?_<;>(intro ht;rw [ht];first|replace ht := of_decide_eq_true ht|replace ht := of_decide_eq_false ht|skip))|(refine tb_ ?_ ?_ ?_;(·(exact to_));(·intro _;(exact to_));intro _)|(first|(refine ybg 2 rfl rfl rfl rfl (fit_cxc (i := (srt[k].1 - 1).toNat) t1 (by omega) (by omega)) rfl (spl_cxc (i := (srt[k].1 - 1).toNat) (by omega) (by omega)) rfl rfl ?_ ?_ ?_;(·(exact to_));(·(exact to_)))|(refine tqs_ ?_ ?_ ?_;(·(exact to_));(·(exact to_))))|(apply ybn;(·(first|(first|(apply yad;(·rfl);(·exact hel _);(·rfl))|(apply qv_nilCheck;rfl))|(apply yae;(·rfl);(·(first|exact ycl (yaz 2 rfl) (srt[k].1 - 1).toNat (by omega) (by omega)|exact yck (yaz 2 rfl) t1 rfl)))|exact tq_));(·rfl);(·rfl);(·rfl);(·(exact to_))))|refine ycg ?_))
            repeat' (first|(refine ycf ?_;apply ybk;(·first|(first|(apply yad;(·rfl);(·exact hel _);(·rfl))|(apply qv_nilCheck;rfl))|(apply yae;(·rfl);(·(first|exact ycl (yaz 2 rfl) (srt[k].1 - 1).toNat (by omega) (by omega)|exact yck (yaz 2 rfl) t1 rfl))));(·rfl);(·rfl))|(refine ybg 2 rfl rfl rfl rfl (fit_cxc (i := (srt[k].1 - 1).toNat) t1 (by omega) (by omega)) rfl (spl_cxc (i := (srt[k].1 - 1).toNat) (by omega) (by omega)) rfl rfl ?_ ?_ ?_;(·(exact to_));(·(exact to_)))|refine t1_ ?_|(refine ta_ ?_;intro _)|((fail_if_success (refine ybi rfl ?_));refine ybj rfl ?_ ?_<;>(intro ht;rw [ht];first|replace ht := of_decide_eq_true ht|replace ht := of_decide_eq_false ht|skip))|(refine ych ?_;first|(refine ybw rfl ?_ ?_<;>intro ht)|(refine ybx rfl ?_ ?_<;>intro ht)))
            refine nx_round (k + 1, v') (by show k + 1 ≤ _; omega) (by show srt.length - (k + 1) < srt.length - k; omega) ts_ (fun _ s => ?_)
            dsimp only
            rw [eT, e2]
            exact s.tl
          · have e2 : tstep (u1, m1) srt[k] = (u1, m1 ++ [srt[k]]) := by
              unfold tstep
              rw [if_neg hne, if_pos ⟨hgt, hin⟩]
            have ed : decide (srt[k] ∈ m1) = false := decide_eq_false hin
            rw [ed]
            repeat' (refine ycf ?_;(first|(first|(apply ybm;(·(first|(first|(apply yad;(·rfl);(·exact hel _);(·rfl))|(apply qv_nilCheck;rfl))|(apply yae;(·rfl);(·(first|exact ycl (yaz 2 rfl) (srt[k].1 - 1).toNat (by omega) (by omega)|exact yck (yaz 2 rfl) t1 rfl)))|exact tq_));(·rfl);(·rfl);(·(exact th_)))|refine ybl rfl rfl ?_|((fail_if_success (refine ybi rfl ?_));refine ybj rfl ?_ ?_<;>(intro ht;rw [ht];first|replace ht := of_decide_eq_true ht|replace ht := of_decide_eq_false ht|skip))|(refine tb_ ?_ ?_ ?_;(·(exact to_));(·intro _;(exact to_));intro _)|(first|(refine ybg 2 rfl rfl rfl rfl (fit_cxc (i := (srt[k].1 - 1).toNat) t1 (by omega) (by omega)) rfl (spl_cxc (i := (srt[k].1 - 1).toNat) (by omega) (by omega)) rfl rfl ?_ ?_ ?_;(·(exact to_));(·(exact to_)))|(refine tqs_ ?_ ?_ ?_;(·(exact to_));(·(exact to_))))|(apply ybn;(·(first|(first|(apply yad;(·rfl);(·exact hel _);(·rfl))|(apply qv_nilCheck;rfl))|(apply yae;(·rfl);(·(first|exact ycl (yaz 2 rfl) (srt[k].1 - 1).toNat (by omega) (by omega)|exact yck (yaz 2 rfl) t1 rfl)))|exact tq_));(·rfl);(·rfl);(·rfl);(·(exact to_))))|refine ycg ?_))
            repeat' (first|(refine ycf ?_;apply ybk;(·first|(first|(apply yad;(·rfl);(·exact hel _);(·rfl))|(apply qv_nilCheck;rfl))|(apply yae;(·rfl);(·(first|exact ycl (yaz 2 rfl) (srt[k].1 - 1).toNat (by omega) (by omega)|exact yck (yaz 2 rfl) t1 rfl))));(·rfl);(·rfl))|(refine ybg 2 rfl rfl rfl rfl (fit_cxc (i := (srt[k].1 - 1).toNat) t1 (by omega) (by omega)) rfl (spl_cxc (i := (srt[k].1 - 1).toNat) (by omega) (by omega)) rfl rfl ?_ ?_ ?_;(·(exact to_));(·(exact to_)))|refine t1_ ?_|(refine ta_ ?_;intro _)|((fail_if_success (refine ybi rfl ?_));refine ybj rfl ?_ ?_<;>(intro ht;rw [ht];first|replace ht := of_decide_eq_true ht|replace ht := of_decide_eq_false ht|skip))|(refine ych ?_;first|(refine ybw rfl ?_ ?_<;>intro ht)|(refine ybx rfl ?_ ?_<;>intro ht)))
            refine rx_append (sz := 2) 2 rfl rfl rfl (yaz 0 rfl) rfl (one_dcs [srt[k]]) rfl (by omega) (by unfold maxLen; omega) (by omega) rfl rfl rfl ybf (fun _ => ybf) ?_
            intro v2 _
            refine rx_rowform 2 rfl (fun _ h0 _ => (by omega)) ?_
            rintro g2 cap2 rfl
            repeat' (first|(refine ycf ?_;apply ybk;(·first|(first|(apply yad;(·rfl);(·exact hel _);(·rfl))|(apply qv_nilCheck;rfl))|(apply yae;(·rfl);(·(first|exact ycl (yaz 2 rfl) (srt[k].1 - 1).toNat (by omega) (by omega)|exact yck (yaz 2 rfl) t1 rfl))));(·rfl);(·rfl))|(refine ybg 3 rfl rfl rfl rfl (fit_more t1) rfl (spl_more t1) rfl rfl ?_ ?_ ?_;(·(exact to_));(·(exact to_)))|refine t1_ ?_|(refine ta_ ?_;intro _)|((fail_if_success (refine ybi rfl ?_));refine ybj rfl ?_ ?_<;>(intro ht;rw [ht];first|replace ht := of_decide_eq_true ht|replace ht := of_decide_eq_false ht|skip))|(refine ych ?_;first|(refine ybw rfl ?_ ?_<;>intro ht)|(refine ybx rfl ?_ ?_<;>intro ht)))
            refine nx_round (k + 1, .slice (some ⟨g2, 0, none⟩) (m1.length + 1) cap2) (by show k + 1 ≤ _; omega) (by show srt.length - (k + 1) < srt.length - k; omega) ts_ (fun _ s => ?_)
            dsimp only
            rw [eT, e2]
            dsimp only
            rw [List.length_append, List.flatMap_append]
            exact s.tl.tl
        · have e2 : tstep (u1, m1) srt[k] = (u1, m1) := by
            unfold tstep
            rw [if_neg hne, if_neg (fun hx => ht hx.1)]
          repeat' (first|(refine ycf ?_;apply ybk;(·first|(first|(apply yad;(·rfl);(·exact hel _);(·rfl))|(apply qv_nilCheck;rfl))|(apply yae;(·rfl);(·(first|exact ycl (yaz 2 rfl) (srt[k].1 - 1).toNat (by omega) (by omega)|exact yck (yaz 2 rfl) t1 rfl))));(·rfl);(·rfl))|(refine ybg 3 rfl rfl rfl rfl (fit_more t1) rfl (spl_more t1) rfl rfl ?_ ?_ ?_;(·(exact to_));(·(exact to_)))|refine t1_ ?_|(refine ta_ ?_;intro _)|((fail_if_success (refine ybi rfl ?_));refine ybj rfl ?_ ?_<;>(intro ht;rw [ht];first|replace ht := of_decide_eq_true ht|replace ht := of_decide_eq_false ht|skip))|(refine ych ?_;first|(refine ybw rfl ?_ ?_<;>intro ht)|(refine ybx rfl ?_ ?_<;>intro ht)))
          refine nx_round (k + 1, v') (by show k + 1 ≤ _; omega) (by show srt.length - (k + 1) < srt.length - k; omega) ts_ (fun _ s => ?_)
          dsimp only
          rw [eT, e2]
          exact s.tl
    all_goals omega
  · have ek : k = srt.length := by omega
    subst ek
    dsimp only
    rw [List.take_length] at t1 t2 t3 t4 ⊢
    generalize hT : tfold u srt = T at t1 t2 t3 t4 ⊢
    obtain ⟨u1, m1⟩ := T
    dsimp only at t1 t2 t3 t4 ⊢
    refine cx_persist rfl fun h3 hle3 hsm => ?_
    replace hsm : Ds h3 v' m1 := hsm
    obtain ⟨_, ad2, cap2, rfl, _, _⟩ := id hsm
    repeat' (first | (refine ycf ?_; apply ybk; (· first | (apply yad; (· rfl); (· exact yaz 0 rfl); (· exact ycj t1)) | (apply yae; (· rfl); (· exact yck (yaz 0 rfl) t1 rfl))); (· rfl); (· rfl)) | (refine ybg 1 rfl rfl rfl (cxc_sz t1) (cxc_fit t1) (cxc_one rfl) (ybh (cxc_all t1)) rfl rfl ?_ ?_ ?_; (· (exact to_)); (· (exact to_))) | refine t1_ ?_ | (refine ta_ ?_; intro _) | ((fail_if_success (refine ybi rfl ?_)); refine ybj rfl ?_ ?_ <;> (intro ht; rw [ht]; first | replace ht := of_decide_eq_true ht | replace ht := of_decide_eq_false ht | skip)) | (refine ych ?_; first | (refine ybw rfl ?_ ?_ <;> intro ht) | (refine ybx rfl ?_ ?_ <;> intro ht)))
    · omega
    · refine nx_ret2 rfl (rv_cells rfl (yaz 1 rfl) rfl) (rv_tmp rfl) (fun w' s' => ⟨(h3, cxv zeroU (.slice none 0 0), srt, 11), rfl, s'.nil, hperm, hsorted, ?_⟩)
      rw [hT, if_pos (by show 32 < m1.length; omega)]
      exact ⟨rfl, rfl, _, rfl, Sc.nil h3 2 none 0⟩
    · refine nx_ret2 rfl (rv_cells rfl (yaz 1 rfl) (cxc_all t1)) (rv_tmp rfl) (fun w' s' => ⟨(h3, cxv u1 (.slice ad2 m1.length cap2), srt, 0), rfl, s'.nil, hperm, hsorted, ?_⟩)
      rw [hT, if_neg (by show ¬ 32 < m1.length; omega)]
      exact ⟨rfl, t1, _, rfl, hsm⟩
end Go.Proofs.Ytbpahaciegfpfaa
