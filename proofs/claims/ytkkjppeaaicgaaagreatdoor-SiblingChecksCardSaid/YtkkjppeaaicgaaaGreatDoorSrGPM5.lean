/-
  Part 5 of a proof: DotJ DotK DotL BitD.
  Conditions: each theorem states its own.
-/
import Derived.Test.YtkkjppeaaicgaaaGreatDoorSrGPM4
section
namespace Go.Proofs.YtkkjppeaaicgaaaGreatDoor
open Go Go.Ck
set_option maxRecDepth 100000
set_option maxHeartbeats 1000000
set_option linter.unusedVariables false
def tstep (x : List Int × List Dt) (d : Dt) : List Int × List Dt :=
  if d.2 = x.1.getD (d.1 - 1).toNat 0 + 1 then (x.1.set (d.1 - 1).toNat d.2, x.2)
  else if x.1.getD (d.1 - 1).toNat 0 < d.2 ∧ d ∉ x.2 then (x.1, x.2 ++ [d]) else x
def tfold (u : List Int) (l : List Dt) : List Int × List Dt := l.foldl tstep (u, [])
def zeroU : List Int := List.replicate 16 0
theorem list16 : ∀ u : List Int, u.length = 16 → ∃ a0 a1 a2 a3 a4 a5 a6 a7 a8 a9 a10 a11 a12 a13 a14 a15, u = [a0, a1, a2, a3, a4, a5, a6, a7, a8, a9, a10, a11, a12, a13, a14, a15]
  | [a0, a1, a2, a3, a4, a5, a6, a7, a8, a9, a10, a11, a12, a13, a14, a15], _ => ⟨a0, a1, a2, a3, a4, a5, a6, a7, a8, a9, a10, a11, a12, a13, a14, a15, rfl⟩
theorem cxc_sz {u : List Int} {x : Value} (hu : u.length = 16) : (Value.agg (cxc u x).toArray).cells.size = 17 := by
  show (cxc u x).toArray.size = 17
  simp [ycj hu]
theorem cxc_fit {u : List Int} {x : Value} (hu : u.length = 16) : 0 + (Value.agg (cxc u x).toArray).cells.size ≤ 17 := by rw [cxc_sz hu]; omega
theorem cxc_all {u : List Int} {x : Value} (hu : u.length = 16) : (Value.agg (cxc u x).toArray).cells.toList.length = 17 := by
  show (cxc u x).toArray.toList.length = 17
  simp [ycj hu]
theorem cxc_one {u : List Int} {x : Value} (hx : x.oneCell' = true) : (Value.agg (cxc u x).toArray).cells.toList.all Value.oneCell' = true := by
  show (cxc u x).toArray.toList.all Value.oneCell' = true
  simp only [cxc, up, List.all_append, List.all_map, List.all_cons, List.all_nil, hx]
  simp [Value.oneCell', List.all_eq_true]
theorem tfold_succ {u : List Int} {l : List Dt} {k : Nat} (hk : k < l.length) : tfold u (l.take (k + 1)) = tstep (tfold u (l.take k)) l[k] := by
  unfold tfold
  rw [List.take_succ_eq_append_getElem hk, List.foldl_append]
  rfl
theorem tfold_ok {u : List Int} (hu : u.length = 16) (hub : ∀ x ∈ u, 0 ≤ x ∧ x ≤ 1099511627776) {l : List Dt} (hr : ∀ d ∈ l, rightB d = true) : ∀ k, k ≤ l.length →
    (tfold u (l.take k)).1.length = 16 ∧ (∀ x ∈ (tfold u (l.take k)).1, 0 ≤ x ∧ x ≤ 1099511627776) ∧ (tfold u (l.take k)).2.length ≤ k ∧ ∀ d ∈ (tfold u (l.take k)).2, rightB d = true := by
  intro k
  induction k with
  | zero => intro _; exact ⟨hu, hub, by simp [tfold], by simp [tfold]⟩
  | succ k ih =>
    intro hk
    obtain ⟨h1, h2, h3, h4⟩ := ih (by omega)
    rw [tfold_succ (by omega)]
    have hd := hr l[k] (List.getElem_mem _)
    have hdr := right_of hd
    unfold tstep
    split
    · refine ⟨by simpa using h1, fun x hx => ?_, Nat.le_succ_of_le h3, h4⟩
      rcases List.mem_or_eq_of_mem_set hx with hx | rfl
      · exact h2 x hx
      · omega
    · split
      · refine ⟨h1, h2, by simp; omega, fun d hd' => ?_⟩
        rcases List.mem_append.1 hd' with hd' | hd'
        · exact h4 d hd'
        · have : d = l[k] := by simpa using hd'
          rw [this]; exact hd
      · exact ⟨h1, h2, by omega, h4⟩
theorem spl_cxc {u : List Int} {mv : Value} {x : Int} {i o : Nat} (ho : o = i) (hi : i < u.length) : spl (cxc u mv).toArray.toList o (Value.int .i64 x).cells.toList = cxc (u.set i x) mv := by
  subst ho
  show (up u ++ [mv]).take o ++ [Value.int .i64 x] ++ (up u ++ [mv]).drop (o + 1) = up (u.set o x) ++ [mv]
  have hl : (up u).length = u.length := by simp [up]
  rw [List.take_append_of_le_length (by omega), List.drop_append_of_le_length (by omega)]
  unfold up
  rw [List.map_set, List.set_eq_take_append_cons_drop, if_pos (by simpa using hi)]
  simp
theorem fit_cxc {u : List Int} {mv : Value} {x : Int} {i o : Nat} (hu : u.length = 16) (ho : o = i) (hi : i < u.length) : o + (Value.int .i64 x).cells.size ≤ (cxc u mv).toArray.size := by
  show o + 1 ≤ _
  simp [ycj hu]; omega
theorem spl_more {u : List Int} {mv : Value} {ad : Option Addr} {m c : Nat} (hu : u.length = 16) : spl (cxc u mv).toArray.toList 16 (Value.slice ad m c).cells.toList = cxc u (.slice ad m c) := by
  show (up u ++ [mv]).take 16 ++ [Value.slice ad m c] ++ (up u ++ [mv]).drop (16 + 1) = up u ++ [Value.slice ad m c]
  have hl : (up u).length = 16 := by simp [up, hu]
  rw [← hl, List.take_left, List.drop_eq_nil_of_le (by simp)]
  simp
theorem fit_more {u : List Int} {mv : Value} {ad : Option Addr} {m c : Nat} (hu : u.length = 16) : 0 + 16 + (Value.slice ad m c).cells.size ≤ (cxc u mv).toArray.size := by
  show 16 + 1 ≤ _
  simp [ycj hu]
theorem tidy_sp (u : List Int) (mv : Value) (Lm : List Dt) (h : View) (hu : u.length = 16) (hub : ∀ x ∈ u, 0 ≤ x ∧ x ≤ 1099511627776) (hs : Ds h mv Lm) (hr : ∀ d ∈ Lm, rightB d = true) (hlen : Lm.length ≤ 1000000) (w : World) (s : St ⟨w, h, []⟩ h [] w) :
    Calls Tryz.prog 65 [.agg (up u).toArray, mv].toArray w fun e w' => ∃ x : View × Value × List Dt × Int, e = .returned (.tuple #[x.2.1, .int .i64 x.2.2.2]) ∧ St ⟨w, h, []⟩ x.1 [] w' ∧ x.2.2.1.Perm Lm ∧ SortedD x.2.2.1 ∧
      (if 32 < (tfold u x.2.2.1).2.length then x.2.2.2 = 11 ∧ Cx x.1 x.2.1 zeroU [] else x.2.2.2 = 0 ∧ Cx x.1 x.2.1 (tfold u x.2.2.1).1 (tfold u x.2.2.1).2) := by
  refine calls_enter Tryz.func65 rfl Tryz.ntmps65 rfl s ?_
  have hfu : fillL (fun i : Nat => ([(0, 16), (16, 1)] : List (Nat × Nat))[i]?) (up zeroU ++ [.slice none 0 0]) [(0, .agg (up u).toArray)] = some (cxc u (.slice none 0 0)) := by
    obtain ⟨a0, a1, a2, a3, a4, a5, a6, a7, a8, a9, a10, a11, a12, a13, a14, a15, rfl⟩ := list16 u hu
    rfl
  repeat' (first|(refine ycf ?_;apply ybk;(·first|(first|(apply yad (vs := up u);(·rfl);(·exact yaz 1 rfl);(·simp [up, hu]))|(apply yax (cs := cxc u (.slice none 0 0));(·rfl);(·exact hfu))));(·rfl);(·rfl))|(refine ybg 0 rfl rfl rfl (cxc_sz hu) (cxc_fit hu) (cxc_one rfl) (ybh (cxc_all hu)) rfl rfl ?_ ?_ ?_;(·(exact to_));(·(exact to_)))|refine t1_ ?_|(refine ta_ ?_;intro _)|((fail_if_success (refine ybi rfl ?_));refine ybj rfl ?_ ?_<;>(intro ht;rw [ht];first|replace ht := oet_ ht|replace ht := oef_ ht|skip))|(refine ych ?_;first|(refine ybw rfl ?_ ?_<;>intro ht)|(refine ybx rfl ?_ ?_<;>intro ht)))
  (refine yco (ycp Tryz.func97 rfl (by kernel_rfl) rfl) (values_sp mv Lm h hs) rfl rfl rfl ?_ ?_ ?_; (· (exact to_)); (· intro _ _ hle; (exact to_)); intro x px hle)
  repeat' (first|(refine ycf ?_;apply ybk;(·first|(first|(apply yad (vs := up u);(·rfl);(·exact yaz 1 rfl);(·simp [up, hu]))|(apply yax (cs := cxc u (.slice none 0 0));(·rfl);(·exact hfu))));(·rfl);(·rfl))|(refine ybg 0 rfl rfl rfl (cxc_sz hu) (cxc_fit hu) (cxc_one rfl) (ybh (cxc_all hu)) rfl rfl ?_ ?_ ?_;(·(exact to_));(·(exact to_)))|refine t1_ ?_|(refine ta_ ?_;intro _)|((fail_if_success (refine ybi rfl ?_));refine ybj rfl ?_ ?_<;>(intro ht;rw [ht];first|replace ht := oet_ ht|replace ht := oef_ ht|skip))|(refine ych ?_;first|(refine ybw rfl ?_ ?_<;>intro ht)|(refine ybx rfl ?_ ?_<;>intro ht)))
  generalize hv1 : addV h x _ = h1 at *
  have hb1 : h1 x = some (.cells #[mv] 35 (0, 0)) := by rw [← hv1]; exact addV_same
  have hle1 := hle
  (refine yco (ycp Tryz.func96 rfl (by kernel_rfl) rfl) (sortedFunc_sp x mv Lm h1 (hs.mono hle1) hb1 hlen) rfl rfl rfl ?_ ?_ ?_; (· (exact to_)); (· intro _ _ hle; (exact to_)); intro x px hle)
  refine rx_persist rfl fun h2 hle2 hsv => ?_
  obtain ⟨v, srt⟩ := x
  obtain ⟨hperm, hsorted⟩ := px
  replace hsv : Ds h2 v srt := hsv
  obtain ⟨_, ad, cap, rfl, hcap, _⟩ := id hsv
  have hsl : srt.length = Lm.length := hperm.length_eq
  have hsr : ∀ d ∈ srt, rightB d = true := fun d hd => hr d (hperm.mem_iff.1 hd)
  repeat' (first|(refine ycf ?_;apply ybk;(·first|(first|(apply yad (vs := up u);(·rfl);(·exact yaz 1 rfl);(·simp [up, hu]))|(apply yax (cs := cxc u (.slice none 0 0));(·rfl);(·exact hfu))));(·rfl);(·rfl))|(refine ybg 0 rfl rfl rfl (cxc_sz hu) (cxc_fit hu) (cxc_one rfl) (ybh (cxc_all hu)) rfl rfl ?_ ?_ ?_;(·(exact to_));(·(exact to_)))|refine t1_ ?_|(refine ta_ ?_;intro _)|((fail_if_success (refine ybi rfl ?_));refine ybj rfl ?_ ?_<;>(intro ht;rw [ht];first|replace ht := oet_ ht|replace ht := oef_ ht|skip))|(refine ych ?_;first|(refine ybw rfl ?_ ?_<;>intro ht)|(refine ybx rfl ?_ ?_<;>intro ht)))
  rename_i b2 b4 b6 hlex hl1 hl2
  refine cx_row 53 2 ?_
  refine cx_loop (X := Nat × Value) (fun y => [(4, .pointer (some ⟨b4, 0, none⟩)), (5, .int .i64 0), (6, .pointer (some ⟨b6, 0, none⟩)), (14, .slice ad srt.length cap), (15, .int .i64 srt.length), (16, .int .i64 y.1)]) (fun _ => h2)
    (fun y => [Res.row 53 2 y.2 (tfold u (srt.take y.1)).2.length ((tfold u (srt.take y.1)).2.flatMap dcs), Res.blk b6 (.cells (cxc (tfold u (srt.take y.1)).1 y.2).toArray 37 (0, 0)), Res.blk b4 (.cells (cxc zeroU (.slice none 0 0)).toArray 37 (0, 0))])
    (fun y => y.1 ≤ srt.length) (fun y => srt.length - y.1) (0, .slice none 0 0) (Nat.zero_le _) ts_ (fun _ s => st_left (B := [_]) s) ?_
  rintro ⟨k, v'⟩ hk
  replace hk : k ≤ srt.length := hk
  obtain ⟨t1, t2, t3, t4⟩ := tfold_ok hu hub hsr k hk
  by_cases hkl : k < srt.length
  · have eT := tfold_succ (u := u) hkl
    dsimp only
    generalize tfold u (srt.take k) = T at t1 t2 t3 t4 eT ⊢
    obtain ⟨u1, m1⟩ := T
    dsimp only at t1 t2 t3 t4 ⊢
    have hd := hsr srt[k] (List.getElem_mem _)
    have hdr := right_of hd
    obtain ⟨bs, o, rfl⟩ := hsv.ad (by omega) (by omega)
    have hel : ∀ L, Cells h2 L ⟨bs, o + k * 2, none⟩ (dcs srt[k]) := fun L => hsv.elem dcs_len k hkl
    have hgb := t2 (u1.getD (srt[k].1 - 1).toNat 0) (getD_mem (by omega))
    repeat' (first|(refine ycf ?_;apply ybk;(·first|(first|(apply yad;(·rfl);(·exact hel _);(·rfl))|(apply qv_nilCheck;rfl))|(apply yae;(·rfl);(·(first|exact ycl (yaz 2 rfl) (srt[k].1 - 1).toNat (by omega) (by omega)|exact yck (yaz 2 rfl) t1 rfl))));(·rfl);(·rfl))|(refine ybg 2 rfl rfl rfl rfl (fit_cxc (i := (srt[k].1 - 1).toNat) t1 (by omega) (by omega)) rfl (spl_cxc (i := (srt[k].1 - 1).toNat) (by omega) (by omega)) rfl rfl ?_ ?_ ?_;(·(exact to_));(·(exact to_)))|refine t1_ ?_|(refine ta_ ?_;intro _)|((fail_if_success (refine ybi rfl ?_));refine ybj rfl ?_ ?_<;>(intro ht;rw [ht];first|replace ht := oet_ ht|replace ht := oef_ ht|skip))|(refine ych ?_;first|(refine ybw rfl ?_ ?_<;>intro ht)|(refine ybx rfl ?_ ?_<;>intro ht)))
    · refine cx_region_draw' rfl (by kernel_rfl) ?_
      repeat' (refine ycf ?_;(first|(first|(apply ybm;(·(first|(first|(apply yad;(·rfl);(·exact hel _);(·rfl))|(apply qv_nilCheck;rfl))|(apply yae;(·rfl);(·(first|exact ycl (yaz 2 rfl) (srt[k].1 - 1).toNat (by omega) (by omega)|exact yck (yaz 2 rfl) t1 rfl)))|exact tq_));(·rfl);(·rfl);(·(exact th_)))|refine ybl rfl rfl ?_|((fail_if_success (refine ybi rfl ?_));refine ybj rfl ?_ ?_<;>(intro ht;rw [ht];first|replace ht := oet_ ht|replace ht := oef_ ht|skip))|(refine tb_ ?_ ?_ ?_;(·(exact to_));(·intro _;(exact to_));intro _)|(first|(refine ybg 2 rfl rfl rfl rfl (fit_cxc (i := (srt[k].1 - 1).toNat) t1 (by omega) (by omega)) rfl (spl_cxc (i := (srt[k].1 - 1).toNat) (by omega) (by omega)) rfl rfl ?_ ?_ ?_;(·(exact to_));(·(exact to_)))|(refine tqs_ ?_ ?_ ?_;(·(exact to_));(·(exact to_))))|(apply ybn;(·(first|(first|(apply yad;(·rfl);(·exact hel _);(·rfl))|(apply qv_nilCheck;rfl))|(apply yae;(·rfl);(·(first|exact ycl (yaz 2 rfl) (srt[k].1 - 1).toNat (by omega) (by omega)|exact yck (yaz 2 rfl) t1 rfl)))|exact tq_));(·rfl);(·rfl);(·rfl);(·(exact to_))))|refine ycg ?_))
      repeat' (first|(refine ycf ?_;apply ybk;(·first|(first|(apply yad;(·rfl);(·exact hel _);(·rfl))|(apply qv_nilCheck;rfl))|(apply yae;(·rfl);(·(first|exact ycl (yaz 2 rfl) (srt[k].1 - 1).toNat (by omega) (by omega)|exact yck (yaz 2 rfl) t1 rfl))));(·rfl);(·rfl))|(refine ybg 2 rfl rfl rfl rfl (fit_cxc (i := (srt[k].1 - 1).toNat) t1 (by omega) (by omega)) rfl (spl_cxc (i := (srt[k].1 - 1).toNat) (by omega) (by omega)) rfl rfl ?_ ?_ ?_;(·(exact to_));(·(exact to_)))|refine t1_ ?_|(refine ta_ ?_;intro _)|((fail_if_success (refine ybi rfl ?_));refine ybj rfl ?_ ?_<;>(intro ht;rw [ht];first|replace ht := oet_ ht|replace ht := oef_ ht|skip))|(refine ych ?_;first|(refine ybw rfl ?_ ?_<;>intro ht)|(refine ybx rfl ?_ ?_<;>intro ht)))
      · have e2 : tstep (u1, m1) srt[k] = (u1.set (srt[k].1 - 1).toNat (u1.getD (srt[k].1 - 1).toNat 0 + 1), m1) := by
          unfold tstep
          rw [if_pos ht, ht]
        refine nx_round (k + 1, v') (by show k + 1 ≤ _; omega) (by show srt.length - (k + 1) < srt.length - k; omega) ts_ (fun _ s => ?_)
        dsimp only
        rw [eT, e2]
        exact s.tl
      · have hne := ht
        refine cx_region_draw' rfl (by kernel_rfl) ?_
        repeat' (refine ycf ?_;(first|(first|(apply ybm;(·(first|(first|(apply yad;(·rfl);(·exact hel _);(·rfl))|(apply qv_nilCheck;rfl))|(apply yae;(·rfl);(·(first|exact ycl (yaz 2 rfl) (srt[k].1 - 1).toNat (by omega) (by omega)|exact yck (yaz 2 rfl) t1 rfl)))|exact tq_));(·rfl);(·rfl);(·(exact th_)))|refine ybl rfl rfl ?_|((fail_if_success (refine ybi rfl ?_));refine ybj rfl ?_ ?_<;>(intro ht;rw [ht];first|replace ht := oet_ ht|replace ht := oef_ ht|skip))|(refine tb_ ?_ ?_ ?_;(·(exact to_));(·intro _;(exact to_));intro _)|(first|(refine ybg 2 rfl rfl rfl rfl (fit_cxc (i := (srt[k].1 - 1).toNat) t1 (by omega) (by omega)) rfl (spl_cxc (i := (srt[k].1 - 1).toNat) (by omega) (by omega)) rfl rfl ?_ ?_ ?_;(·(exact to_));(·(exact to_)))|(refine tqs_ ?_ ?_ ?_;(·(exact to_));(·(exact to_))))|(apply ybn;(·(first|(first|(apply yad;(·rfl);(·exact hel _);(·rfl))|(apply qv_nilCheck;rfl))|(apply yae;(·rfl);(·(first|exact ycl (yaz 2 rfl) (srt[k].1 - 1).toNat (by omega) (by omega)|exact yck (yaz 2 rfl) t1 rfl)))|exact tq_));(·rfl);(·rfl);(·rfl);(·(exact to_))))|refine ycg ?_))
        · have hgt := ht
          (refine rx_call_lend (u := .bool (decide (srt[k] ∈ m1))) 1 (ycp Tryz.func99 rfl (by kernel_rfl) rfl) rfl (fun h' _ hsc => contains_sp v' m1 srt[k] h' hsc (by omega)) rfl rfl rfl ?_ ?_; (· (exact to_)))
          by_cases hin : srt[k] ∈ m1
          · have e2 : tstep (u1, m1) srt[k] = (u1, m1) := by
              unfold tstep
              rw [if_neg hne, if_neg (fun hx => hx.2 hin)]
            have ed : decide (srt[k] ∈ m1) = true := decide_eq_true hin
            rw [ed]
            repeat' (refine ycf ?_;(first|(first|(apply ybm;(·(first|(first|(apply yad;(·rfl);(·exact hel _);(·rfl))|(apply qv_nilCheck;rfl))|(apply yae;(·rfl);(·(first|exact ycl (yaz 2 rfl) (srt[k].1 - 1).toNat (by omega) (by omega)|exact yck (yaz 2 rfl) t1 rfl)))|exact tq_));(·rfl);(·rfl);(·(exact th_)))|refine ybl rfl rfl ?_|((fail_if_success (refine ybi rfl ?_));refine ybj rfl ?_ ?_<;>(intro ht;rw [ht];first|replace ht := oet_ ht|replace ht := oef_ ht|skip))|(refine tb_ ?_ ?_ ?_;(·(exact to_));(·intro _;(exact to_));intro _)|(first|(refine ybg 2 rfl rfl rfl rfl (fit_cxc (i := (srt[k].1 - 1).toNat) t1 (by omega) (by omega)) rfl (spl_cxc (i := (srt[k].1 - 1).toNat) (by omega) (by omega)) rfl rfl ?_ ?_ ?_;(·(exact to_));(·(exact to_)))|(refine tqs_ ?_ ?_ ?_;(·(exact to_));(·(exact to_))))|(apply ybn;(·(first|(first|(apply yad;(·rfl);(·exact hel _);(·rfl))|(apply qv_nilCheck;rfl))|(apply yae;(·rfl);(·(first|exact ycl (yaz 2 rfl) (srt[k].1 - 1).toNat (by omega) (by omega)|exact yck (yaz 2 rfl) t1 rfl)))|exact tq_));(·rfl);(·rfl);(·rfl);(·(exact to_))))|refine ycg ?_))
            repeat' (first|(refine ycf ?_;apply ybk;(·first|(first|(apply yad;(·rfl);(·exact hel _);(·rfl))|(apply qv_nilCheck;rfl))|(apply yae;(·rfl);(·(first|exact ycl (yaz 2 rfl) (srt[k].1 - 1).toNat (by omega) (by omega)|exact yck (yaz 2 rfl) t1 rfl))));(·rfl);(·rfl))|(refine ybg 2 rfl rfl rfl rfl (fit_cxc (i := (srt[k].1 - 1).toNat) t1 (by omega) (by omega)) rfl (spl_cxc (i := (srt[k].1 - 1).toNat) (by omega) (by omega)) rfl rfl ?_ ?_ ?_;(·(exact to_));(·(exact to_)))|refine t1_ ?_|(refine ta_ ?_;intro _)|((fail_if_success (refine ybi rfl ?_));refine ybj rfl ?_ ?_<;>(intro ht;rw [ht];first|replace ht := oet_ ht|replace ht := oef_ ht|skip))|(refine ych ?_;first|(refine ybw rfl ?_ ?_<;>intro ht)|(refine ybx rfl ?_ ?_<;>intro ht)))
            refine nx_round (k + 1, v') (by show k + 1 ≤ _; omega) (by show srt.length - (k + 1) < srt.length - k; omega) ts_ (fun _ s => ?_)
            dsimp only
            rw [eT, e2]
            exact s.tl
          · have e2 : tstep (u1, m1) srt[k] = (u1, m1 ++ [srt[k]]) := by
              unfold tstep
              rw [if_neg hne, if_pos ⟨hgt, hin⟩]
            have ed : decide (srt[k] ∈ m1) = false := decide_eq_false hin
            rw [ed]
            repeat' (refine ycf ?_;(first|(first|(apply ybm;(·(first|(first|(apply yad;(·rfl);(·exact hel _);(·rfl))|(apply qv_nilCheck;rfl))|(apply yae;(·rfl);(·(first|exact ycl (yaz 2 rfl) (srt[k].1 - 1).toNat (by omega) (by omega)|exact yck (yaz 2 rfl) t1 rfl)))|exact tq_));(·rfl);(·rfl);(·(exact th_)))|refine ybl rfl rfl ?_|((fail_if_success (refine ybi rfl ?_));refine ybj rfl ?_ ?_<;>(intro ht;rw [ht];first|replace ht := oet_ ht|replace ht := oef_ ht|skip))|(refine tb_ ?_ ?_ ?_;(·(exact to_));(·intro _;(exact to_));intro _)|(first|(refine ybg 2 rfl rfl rfl rfl (fit_cxc (i := (srt[k].1 - 1).toNat) t1 (by omega) (by omega)) rfl (spl_cxc (i := (srt[k].1 - 1).toNat) (by omega) (by omega)) rfl rfl ?_ ?_ ?_;(·(exact to_));(·(exact to_)))|(refine tqs_ ?_ ?_ ?_;(·(exact to_));(·(exact to_))))|(apply ybn;(·(first|(first|(apply yad;(·rfl);(·exact hel _);(·rfl))|(apply qv_nilCheck;rfl))|(apply yae;(·rfl);(·(first|exact ycl (yaz 2 rfl) (srt[k].1 - 1).toNat (by omega) (by omega)|exact yck (yaz 2 rfl) t1 rfl)))|exact tq_));(·rfl);(·rfl);(·rfl);(·(exact to_))))|refine ycg ?_))
            repeat' (first|(refine ycf ?_;apply ybk;(·first|(first|(apply yad;(·rfl);(·exact hel _);(·rfl))|(apply qv_nilCheck;rfl))|(apply yae;(·rfl);(·(first|exact ycl (yaz 2 rfl) (srt[k].1 - 1).toNat (by omega) (by omega)|exact yck (yaz 2 rfl) t1 rfl))));(·rfl);(·rfl))|(refine ybg 2 rfl rfl rfl rfl (fit_cxc (i := (srt[k].1 - 1).toNat) t1 (by omega) (by omega)) rfl (spl_cxc (i := (srt[k].1 - 1).toNat) (by omega) (by omega)) rfl rfl ?_ ?_ ?_;(·(exact to_));(·(exact to_)))|refine t1_ ?_|(refine ta_ ?_;intro _)|((fail_if_success (refine ybi rfl ?_));refine ybj rfl ?_ ?_<;>(intro ht;rw [ht];first|replace ht := oet_ ht|replace ht := oef_ ht|skip))|(refine ych ?_;first|(refine ybw rfl ?_ ?_<;>intro ht)|(refine ybx rfl ?_ ?_<;>intro ht)))
            refine rx_append (sz := 2) 2 rfl rfl rfl (yaz 0 rfl) rfl (one_dcs [srt[k]]) rfl (by omega) (by unfold maxLen; omega) (by omega) rfl rfl rfl ybf (fun _ => ybf) ?_
            intro v2 _
            refine rx_rowform 2 rfl (fun _ h0 _ => (by omega)) ?_
            rintro g2 cap2 rfl
            repeat' (first|(refine ycf ?_;apply ybk;(·first|(first|(apply yad;(·rfl);(·exact hel _);(·rfl))|(apply qv_nilCheck;rfl))|(apply yae;(·rfl);(·(first|exact ycl (yaz 2 rfl) (srt[k].1 - 1).toNat (by omega) (by omega)|exact yck (yaz 2 rfl) t1 rfl))));(·rfl);(·rfl))|(refine ybg 3 rfl rfl rfl rfl (fit_more t1) rfl (spl_more t1) rfl rfl ?_ ?_ ?_;(·(exact to_));(·(exact to_)))|refine t1_ ?_|(refine ta_ ?_;intro _)|((fail_if_success (refine ybi rfl ?_));refine ybj rfl ?_ ?_<;>(intro ht;rw [ht];first|replace ht := oet_ ht|replace ht := oef_ ht|skip))|(refine ych ?_;first|(refine ybw rfl ?_ ?_<;>intro ht)|(refine ybx rfl ?_ ?_<;>intro ht)))
            refine nx_round (k + 1, .slice (some ⟨g2, 0, none⟩) (m1.length + 1) cap2) (by show k + 1 ≤ _; omega) (by show srt.length - (k + 1) < srt.length - k; omega) ts_ (fun _ s => ?_)
            dsimp only
            rw [eT, e2]
            dsimp only
            rw [List.length_append, List.flatMap_append]
            exact s.tl.tl
        · have e2 : tstep (u1, m1) srt[k] = (u1, m1) := by
            unfold tstep
            rw [if_neg hne, if_neg (fun hx => ht hx.1)]
          repeat' (first|(refine ycf ?_;apply ybk;(·first|(first|(apply yad;(·rfl);(·exact hel _);(·rfl))|(apply qv_nilCheck;rfl))|(apply yae;(·rfl);(·(first|exact ycl (yaz 2 rfl) (srt[k].1 - 1).toNat (by omega) (by omega)|exact yck (yaz 2 rfl) t1 rfl))));(·rfl);(·rfl))|(refine ybg 3 rfl rfl rfl rfl (fit_more t1) rfl (spl_more t1) rfl rfl ?_ ?_ ?_;(·(exact to_));(·(exact to_)))|refine t1_ ?_|(refine ta_ ?_;intro _)|((fail_if_success (refine ybi rfl ?_));refine ybj rfl ?_ ?_<;>(intro ht;rw [ht];first|replace ht := oet_ ht|replace ht := oef_ ht|skip))|(refine ych ?_;first|(refine ybw rfl ?_ ?_<;>intro ht)|(refine ybx rfl ?_ ?_<;>intro ht)))
          refine nx_round (k + 1, v') (by show k + 1 ≤ _; omega) (by show srt.length - (k + 1) < srt.length - k; omega) ts_ (fun _ s => ?_)
          dsimp only
          rw [eT, e2]
          exact s.tl
    all_goals omega
  · have ek : k = srt.length := by omega
    subst ek
    dsimp only
    rw [List.take_length] at t1 t2 t3 t4 ⊢
    generalize hT : tfold u srt = T at t1 t2 t3 t4 ⊢
    obtain ⟨u1, m1⟩ := T
    dsimp only at t1 t2 t3 t4 ⊢
    refine cx_persist rfl fun h3 hle3 hsm => ?_
    replace hsm : Ds h3 v' m1 := hsm
    obtain ⟨_, ad2, cap2, rfl, _, _⟩ := id hsm
    repeat' (first|(refine ycf ?_;apply ybk;(·first|(apply yad;(·rfl);(·exact yaz 0 rfl);(·exact ycj t1))|(apply yae;(·rfl);(·exact yck (yaz 0 rfl) t1 rfl)));(·rfl);(·rfl))|(refine ybg 1 rfl rfl rfl (cxc_sz t1) (cxc_fit t1) (cxc_one rfl) (ybh (cxc_all t1)) rfl rfl ?_ ?_ ?_;(·(exact to_));(·(exact to_)))|refine t1_ ?_|(refine ta_ ?_;intro _)|((fail_if_success (refine ybi rfl ?_));refine ybj rfl ?_ ?_<;>(intro ht;rw [ht];first|replace ht := oet_ ht|replace ht := oef_ ht|skip))|(refine ych ?_;first|(refine ybw rfl ?_ ?_<;>intro ht)|(refine ybx rfl ?_ ?_<;>intro ht)))
    · omega
    · refine nx_ret2 rfl (rv_cells rfl (yaz 1 rfl) rfl) (rv_tmp rfl) (fun w' s' => ⟨(h3, cxv zeroU (.slice none 0 0), srt, 11), rfl, s'.nil, hperm, hsorted, ?_⟩)
      rw [hT, if_pos (by show 32 < m1.length; omega)]
      exact ⟨rfl, rfl, _, rfl, Sc.nil h3 2 none 0⟩
    · refine nx_ret2 rfl (rv_cells rfl (yaz 1 rfl) (cxc_all t1)) (rv_tmp rfl) (fun w' s' => ⟨(h3, cxv u1 (.slice ad2 m1.length cap2), srt, 0), rfl, s'.nil, hperm, hsorted, ?_⟩)
      rw [hT, if_neg (by show ¬ 32 < m1.length; omega)]
      exact ⟨rfl, t1, _, rfl, hsm⟩
end Go.Proofs.YtkkjppeaaicgaaaGreatDoor
end

section
namespace Go.Proofs.YtkkjppeaaicgaaaGreatDoor
open Go Go.Ck
set_option maxRecDepth 100000
set_option maxHeartbeats 1000000
set_option linter.unusedVariables false
theorem Add_sp (cv : Value) (u : List Int) (l : List Dt) (d : Dt) (h : View) (hc : Cx h cv u l) (hl : l.length ≤ 100000) (w : World) (s : St ⟨w, h, []⟩ h [] w) :
    Calls Tryz.prog 32 [cv, dv d].toArray w fun e w' => ∃ x : View × Value × List Dt × Int, e = .returned (.tuple #[x.2.1, .int .i64 x.2.2.2]) ∧ St ⟨w, h, []⟩ x.1 [] w' ∧
      (if checkC u l ≠ 0 ∨ rightB d = false then x.2.2.2 = 1 ∧ Cx x.1 x.2.1 zeroU []
      else x.2.2.1.Perm (l ++ [d]) ∧ SortedD x.2.2.1 ∧
        (if 32 < (tfold u x.2.2.1).2.length then x.2.2.2 = 11 ∧ Cx x.1 x.2.1 zeroU [] else x.2.2.2 = 0 ∧ Cx x.1 x.2.1 (tfold u x.2.2.1).1 (tfold u x.2.2.1).2)) := by
  have hc' := hc
  obtain ⟨hu, mv, rfl, hs⟩ := hc
  have hchk := check_sp _ u l h hc' (by omega)
  have hright := right_sp d h
  refine calls_enter Tryz.func32 rfl Tryz.ntmps32 rfl s ?_
  repeat' (first|(refine ycf ?_;apply ybk;(·first|(first|(apply yad;(·rfl);(·exact yaz 2 rfl);(·exact ycj hu))|(apply yad (vs := up u);(·rfl);(·exact ycm (yaz 2 rfl));(·simp [up, hu]))));(·rfl);(·rfl))|refine t1_ ?_|(refine ta_ ?_;intro _)|((fail_if_success (refine ybi rfl ?_));refine ybj rfl ?_ ?_<;>(intro ht;rw [ht];first|replace ht := oet_ ht|replace ht := oef_ ht|skip))|(refine ych ?_;first|(refine ybw rfl ?_ ?_<;>intro ht)|(refine ybx rfl ?_ ?_<;>intro ht)))
  (refine ycn (ycp Tryz.func55 rfl (by kernel_rfl) rfl) (hchk) rfl rfl rfl ?_ ?_; (· (exact to_)))
  repeat' (first|(refine ycf ?_;apply ybk;(·first|(first|(apply yad;(·rfl);(·exact yaz 2 rfl);(·exact ycj hu))|(apply yad (vs := up u);(·rfl);(·exact ycm (yaz 2 rfl));(·simp [up, hu]))));(·rfl);(·rfl))|refine t1_ ?_|(refine ta_ ?_;intro _)|((fail_if_success (refine ybi rfl ?_));refine ybj rfl ?_ ?_<;>(intro ht;rw [ht];first|replace ht := oet_ ht|replace ht := oef_ ht|skip))|(refine ych ?_;first|(refine ybw rfl ?_ ?_<;>intro ht)|(refine ybx rfl ?_ ?_<;>intro ht)))
  · have hk := ht
    refine nx_ret2 rfl (rv_cells rfl (yaz 0 rfl) rfl) (rv_tmp rfl) (fun w' s' => ⟨(h, cxv zeroU (.slice none 0 0), [], 1), rfl, s'.nil, ?_⟩)
    rw [if_pos (.inl hk)]
    exact ⟨rfl, rfl, _, rfl, Sc.nil h 2 none 0⟩
  have hk : checkC u l = 0 := by omega
  cases hR : rightB d with
  | false =>
    rw [hR] at hright
    (refine ycn (ycp Tryz.func64 rfl (by kernel_rfl) rfl) (hright) rfl rfl rfl ?_ ?_; (· (exact to_)))
    repeat' (first|(refine ycf ?_;apply ybk;(·first|(first|(apply yad;(·rfl);(·exact yaz 2 rfl);(·exact ycj hu))|(apply yad (vs := up u);(·rfl);(·exact ycm (yaz 2 rfl));(·simp [up, hu]))));(·rfl);(·rfl))|refine t1_ ?_|(refine ta_ ?_;intro _)|((fail_if_success (refine ybi rfl ?_));refine ybj rfl ?_ ?_<;>(intro ht;rw [ht];first|replace ht := oet_ ht|replace ht := oef_ ht|skip))|(refine ych ?_;first|(refine ybw rfl ?_ ?_<;>intro ht)|(refine ybx rfl ?_ ?_<;>intro ht)))
    refine nx_ret2 rfl (rv_cells rfl (yaz 0 rfl) rfl) (rv_tmp rfl) (fun w' s' => ⟨(h, cxv zeroU (.slice none 0 0), [], 1), rfl, s'.nil, ?_⟩)
    rw [if_pos (.inr rfl)]
    exact ⟨rfl, rfl, _, rfl, Sc.nil h 2 none 0⟩
  | true =>
    rw [hR] at hright
    obtain ⟨hub, _, hlr⟩ := check_right hk
    have hrr : ∀ x ∈ l ++ [d], rightB x = true := fun x hx => by
      rcases List.mem_append.1 hx with hx | hx
      · exact hlr x hx
      · rw [List.mem_singleton.1 hx]; exact hR
    (refine ycn (ycp Tryz.func64 rfl (by kernel_rfl) rfl) (hright) rfl rfl rfl ?_ ?_; (· (exact to_)))
    repeat' (first|(refine ycf ?_;apply ybk;(·first|(first|(apply yad;(·rfl);(·exact yaz 2 rfl);(·exact ycj hu))|(apply yad (vs := up u);(·rfl);(·exact ycm (yaz 2 rfl));(·simp [up, hu])))|(apply yae;(·rfl);(·exact yck (yaz 2 rfl) hu rfl)));(·rfl);(·rfl))|refine t1_ ?_|(refine ta_ ?_;intro _)|((fail_if_success (refine ybi rfl ?_));refine ybj rfl ?_ ?_<;>(intro ht;rw [ht];first|replace ht := oet_ ht|replace ht := oef_ ht|skip))|(refine ych ?_;first|(refine ybw rfl ?_ ?_<;>intro ht)|(refine ybx rfl ?_ ?_<;>intro ht)))
    refine cx_region_fork [0, 1, 2, 3, 5] 4 6 [7, 8, 9, 10, 11, 12] rfl (by kernel_rfl) ?_
    repeat' (refine ycf ?_;(first|(first|(apply ybm;(·(first|(first|(apply yad;(·rfl);(·exact yaz 2 rfl);(·exact ycj hu))|(apply yad (vs := up u);(·rfl);(·exact ycm (yaz 2 rfl));(·simp [up, hu])))|(apply yae;(·rfl);(·exact yck (yaz 2 rfl) hu rfl))|exact tq_));(·rfl);(·rfl);(·(exact th_)))|refine ybl rfl rfl ?_|((fail_if_success (refine ybi rfl ?_));refine ybj rfl ?_ ?_<;>(intro ht;rw [ht];first|replace ht := oet_ ht|replace ht := oef_ ht|skip))|(refine tb_ ?_ ?_ ?_;(·(exact to_));(·intro _;(exact to_));intro _)|(first|(refine tqs_ ?_ ?_ ?_;(·(exact to_));(·(exact to_))))|(apply ybn;(·(first|(first|(apply yad;(·rfl);(·exact yaz 2 rfl);(·exact ycj hu))|(apply yad (vs := up u);(·rfl);(·exact ycm (yaz 2 rfl));(·simp [up, hu])))|(apply yae;(·rfl);(·exact yck (yaz 2 rfl) hu rfl))|exact tq_));(·rfl);(·rfl);(·rfl);(·(exact to_))))|refine ycg ?_))
    refine nx_fork ?_ ?_
    · (refine yco (ycp Tryz.func66 rfl (by kernel_rfl) rfl) (clone_sp mv l h hs (by omega)) rfl rfl rfl ?_ ?_ ?_; (· (exact to_)); (· intro _ _ hle; (exact to_)); intro x px hle)
      repeat' (refine ycf ?_;(first|(first|(apply ybm;(·(first|(first|(apply yad;(·rfl);(·exact yaz 2 rfl);(·exact ycj hu))|(apply yad (vs := up u);(·rfl);(·exact ycm (yaz 2 rfl));(·simp [up, hu])))|(apply yae;(·rfl);(·exact yck (yaz 2 rfl) hu rfl))|exact tq_));(·rfl);(·rfl);(·(exact th_)))|refine ybl rfl rfl ?_|((fail_if_success (refine ybi rfl ?_));refine ybj rfl ?_ ?_<;>(intro ht;rw [ht];first|replace ht := oet_ ht|replace ht := oef_ ht|skip))|(refine tb_ ?_ ?_ ?_;(·(exact to_));(·intro _;(exact to_));intro _)|(first|(refine tqs_ ?_ ?_ ?_;(·(exact to_));(·(exact to_))))|(apply ybn;(·(first|(first|(apply yad;(·rfl);(·exact yaz 2 rfl);(·exact ycj hu))|(apply yad (vs := up u);(·rfl);(·exact ycm (yaz 2 rfl));(·simp [up, hu])))|(apply yae;(·rfl);(·exact yck (yaz 2 rfl) hu rfl))|exact tq_));(·rfl);(·rfl);(·rfl);(·(exact to_))))|refine ycg ?_))
      refine rx_append (sz := 2) 1 rfl rfl rfl (yaz 0 rfl) rfl (one_dcs [d]) rfl (by omega) (by unfold maxLen; omega) (by omega) rfl rfl rfl ?_ ?_ ?_
      · (exact to_)
      · intro v'; (exact to_)
      intro v2 _
      refine rx_perm (perm_at (k := 1) rfl) (rx_persist rfl fun h3 hle3 hs3 => ?_)
      have hs3' : Ds h3 v2 (l ++ [d]) := by
        unfold Ds
        rw [List.length_append, List.flatMap_append]
        exact hs3
      (refine yco (ycp Tryz.func65 rfl (by kernel_rfl) rfl) (tidy_sp u v2 (l ++ [d]) h3 hu hub hs3' hrr (by simp; omega)) rfl rfl rfl ?_ ?_ ?_; (· (exact to_)); (· intro _ _ hle; (exact to_)); intro x px hle)
      obtain ⟨h4, v4, srt, er⟩ := x
      replace hle : Le h3 h4 := hle
      obtain ⟨p1, p2, p3⟩ := px
      have hcx : ∃ u' m', Cx h4 v4 u' m' := by
        split at p3
        · exact ⟨_, _, p3.2⟩
        · exact ⟨_, _, p3.2⟩
      obtain ⟨u', m', hu', mv', rfl, hs'⟩ := hcx
      obtain ⟨_, ad', cap', rfl, _, _⟩ := id hs'
      repeat' (refine ycf ?_;(first|(first|(apply ybm;(·(first|(first|(apply yad;(·rfl);(·exact yaz 2 rfl);(·exact ycj hu))|(apply yad (vs := up u);(·rfl);(·exact ycm (yaz 2 rfl));(·simp [up, hu])))|(apply yae;(·rfl);(·exact yck (yaz 2 rfl) hu rfl))|exact tq_));(·rfl);(·rfl);(·(first|exact fun _ s => s|exact fun _ s => s.tl|exact fun _ s => s.tl.tl|exact fun _ s => Hd.sub s (Le.trans hle3 hle) (fun r hr => List.mem_cons_of_mem _ hr))))|refine ybl rfl rfl ?_|((fail_if_success (refine ybi rfl ?_));refine ybj rfl ?_ ?_<;>(intro ht;rw [ht];first|replace ht := oet_ ht|replace ht := oef_ ht|skip))|(refine tb_ ?_ ?_ ?_;(·(first|exact ybf|(refine .inl ?_;(first|exact fun _ s => s|exact fun _ s => s.tl|exact fun _ s => s.tl.tl|exact fun _ s => Hd.sub s (Le.trans hle3 hle) (fun r hr => List.mem_cons_of_mem _ hr)))|exact to_));(·intro _;(first|exact ybf|(refine .inl ?_;(first|exact fun _ s => s|exact fun _ s => s.tl|exact fun _ s => s.tl.tl|exact fun _ s => Hd.sub s (Le.trans hle3 hle) (fun r hr => List.mem_cons_of_mem _ hr)))|exact to_));intro _)|(first|(refine ybg 1 rfl rfl rfl (cxc_sz hu') (cxc_fit hu') (cxc_one rfl) (ybh (cxc_all hu')) rfl rfl ?_ ?_ ?_;(·(first|exact ybf|(refine .inl ?_;(first|exact fun _ s => s|exact fun _ s => s.tl|exact fun _ s => s.tl.tl|exact fun _ s => Hd.sub s (Le.trans hle3 hle) (fun r hr => List.mem_cons_of_mem _ hr)))|exact to_));(·(first|exact ybf|(refine .inl ?_;(first|exact fun _ s => s|exact fun _ s => s.tl|exact fun _ s => s.tl.tl|exact fun _ s => Hd.sub s (Le.trans hle3 hle) (fun r hr => List.mem_cons_of_mem _ hr)))|exact to_)))|(refine tqs_ ?_ ?_ ?_;(·(first|exact ybf|(refine .inl ?_;(first|exact fun _ s => s|exact fun _ s => s.tl|exact fun _ s => s.tl.tl|exact fun _ s => Hd.sub s (Le.trans hle3 hle) (fun r hr => List.mem_cons_of_mem _ hr)))|exact to_));(·(first|exact ybf|(refine .inl ?_;(first|exact fun _ s => s|exact fun _ s => s.tl|exact fun _ s => s.tl.tl|exact fun _ s => Hd.sub s (Le.trans hle3 hle) (fun r hr => List.mem_cons_of_mem _ hr)))|exact to_))))|(apply ybn;(·(first|(first|(apply yad;(·rfl);(·exact yaz 2 rfl);(·exact ycj hu))|(apply yad (vs := up u);(·rfl);(·exact ycm (yaz 2 rfl));(·simp [up, hu])))|(apply yae;(·rfl);(·exact yck (yaz 2 rfl) hu rfl))|exact tq_));(·rfl);(·rfl);(·rfl);(·(first|exact ybf|(refine .inl ?_;(first|exact fun _ s => s|exact fun _ s => s.tl|exact fun _ s => s.tl.tl|exact fun _ s => Hd.sub s (Le.trans hle3 hle) (fun r hr => List.mem_cons_of_mem _ hr)))|exact to_))))|refine ycg ?_))
      repeat' (first|(refine ycf ?_;apply ybk;(·first|(first|(apply yad;(·rfl);(·exact yaz 2 rfl);(·exact ycj hu))|(apply yad (vs := up u);(·rfl);(·exact ycm (yaz 2 rfl));(·simp [up, hu])))|(apply yae;(·rfl);(·exact yck (yaz 2 rfl) hu rfl)));(·rfl);(·rfl))|(refine ybg 1 rfl rfl rfl (cxc_sz hu') (cxc_fit hu') (cxc_one rfl) (ybh (cxc_all hu')) rfl rfl ?_ ?_ ?_;(·(first|exact ybf|(refine .inl ?_;(first|exact fun _ s => s|exact fun _ s => s.tl|exact fun _ s => s.tl.tl|exact fun _ s => Hd.sub s (Le.trans hle3 hle) (fun r hr => List.mem_cons_of_mem _ hr)))|exact to_));(·(first|exact ybf|(refine .inl ?_;(first|exact fun _ s => s|exact fun _ s => s.tl|exact fun _ s => s.tl.tl|exact fun _ s => Hd.sub s (Le.trans hle3 hle) (fun r hr => List.mem_cons_of_mem _ hr)))|exact to_)))|refine t1_ ?_|(refine ta_ ?_;intro _)|((fail_if_success (refine ybi rfl ?_));refine ybj rfl ?_ ?_<;>(intro ht;rw [ht];first|replace ht := oet_ ht|replace ht := oef_ ht|skip))|(refine ych ?_;first|(refine ybw rfl ?_ ?_<;>intro ht)|(refine ybx rfl ?_ ?_<;>intro ht)))
      refine nx_ret2 rfl (rv_cells rfl (yaz 1 rfl) (cxc_all hu')) (rv_tmp rfl) (fun w' s' => ⟨(h4, cxv u' (.slice ad' m'.length cap'), srt, er), rfl, s'.nil, ?_⟩)
      rw [if_neg (by simp [hk])]
      exact ⟨p1, p2, p3⟩
    · repeat' (refine ycf ?_;(first|(first|(apply ybm;(·(first|(first|(apply yad;(·rfl);(·exact yaz 2 rfl);(·exact ycj hu))|(apply yad (vs := up u);(·rfl);(·exact ycm (yaz 2 rfl));(·simp [up, hu])))|(apply yae;(·rfl);(·exact yck (yaz 2 rfl) hu rfl))|exact tq_));(·rfl);(·rfl);(·(first|exact fun _ s => s|exact fun _ s => s.tl|exact fun _ s => s.tl.tl|exact fun _ s => Hd.sub s (Le.trans hle3 hle) (fun r hr => List.mem_cons_of_mem _ hr))))|refine ybl rfl rfl ?_|((fail_if_success (refine ybi rfl ?_));refine ybj rfl ?_ ?_<;>(intro ht;rw [ht];first|replace ht := oet_ ht|replace ht := oef_ ht|skip))|(refine tb_ ?_ ?_ ?_;(·(first|exact ybf|(refine .inl ?_;(first|exact fun _ s => s|exact fun _ s => s.tl|exact fun _ s => s.tl.tl|exact fun _ s => Hd.sub s (Le.trans hle3 hle) (fun r hr => List.mem_cons_of_mem _ hr)))|exact to_));(·intro _;(first|exact ybf|(refine .inl ?_;(first|exact fun _ s => s|exact fun _ s => s.tl|exact fun _ s => s.tl.tl|exact fun _ s => Hd.sub s (Le.trans hle3 hle) (fun r hr => List.mem_cons_of_mem _ hr)))|exact to_));intro _)|(first|(refine ybg 1 rfl rfl rfl (cxc_sz hu') (cxc_fit hu') (cxc_one rfl) (ybh (cxc_all hu')) rfl rfl ?_ ?_ ?_;(·(first|exact ybf|(refine .inl ?_;(first|exact fun _ s => s|exact fun _ s => s.tl|exact fun _ s => s.tl.tl|exact fun _ s => Hd.sub s (Le.trans hle3 hle) (fun r hr => List.mem_cons_of_mem _ hr)))|exact to_));(·(first|exact ybf|(refine .inl ?_;(first|exact fun _ s => s|exact fun _ s => s.tl|exact fun _ s => s.tl.tl|exact fun _ s => Hd.sub s (Le.trans hle3 hle) (fun r hr => List.mem_cons_of_mem _ hr)))|exact to_)))|(refine tqs_ ?_ ?_ ?_;(·(first|exact ybf|(refine .inl ?_;(first|exact fun _ s => s|exact fun _ s => s.tl|exact fun _ s => s.tl.tl|exact fun _ s => Hd.sub s (Le.trans hle3 hle) (fun r hr => List.mem_cons_of_mem _ hr)))|exact to_));(·(first|exact ybf|(refine .inl ?_;(first|exact fun _ s => s|exact fun _ s => s.tl|exact fun _ s => s.tl.tl|exact fun _ s => Hd.sub s (Le.trans hle3 hle) (fun r hr => List.mem_cons_of_mem _ hr)))|exact to_))))|(apply ybn;(·(first|(first|(apply yad;(·rfl);(·exact yaz 2 rfl);(·exact ycj hu))|(apply yad (vs := up u);(·rfl);(·exact ycm (yaz 2 rfl));(·simp [up, hu])))|(apply yae;(·rfl);(·exact yck (yaz 2 rfl) hu rfl))|exact tq_));(·rfl);(·rfl);(·rfl);(·(first|exact ybf|(refine .inl ?_;(first|exact fun _ s => s|exact fun _ s => s.tl|exact fun _ s => s.tl.tl|exact fun _ s => Hd.sub s (Le.trans hle3 hle) (fun r hr => List.mem_cons_of_mem _ hr)))|exact to_))))|refine ycg ?_))
      (refine yco (ycp Tryz.func66 rfl (by kernel_rfl) rfl) (clone_sp mv l h hs (by omega)) rfl rfl rfl ?_ ?_ ?_;(·(first|exact ybf|(refine .inl ?_;(first|exact fun _ s => s|exact fun _ s => s.tl|exact fun _ s => s.tl.tl|exact fun _ s => Hd.sub s (Le.trans hle3 hle) (fun r hr => List.mem_cons_of_mem _ hr)))|exact to_));(·intro _ _ hle;(first|exact ybf|(refine .inl ?_;(first|exact fun _ s => s|exact fun _ s => s.tl|exact fun _ s => s.tl.tl|exact fun _ s => Hd.sub s (Le.trans hle3 hle) (fun r hr => List.mem_cons_of_mem _ hr)))|exact to_));intro x px hle)
      repeat' (refine ycf ?_;(first|(first|(apply ybm;(·(first|(first|(apply yad;(·rfl);(·exact yaz 2 rfl);(·exact ycj hu))|(apply yad (vs := up u);(·rfl);(·exact ycm (yaz 2 rfl));(·simp [up, hu])))|(apply yae;(·rfl);(·exact yck (yaz 2 rfl) hu rfl))|exact tq_));(·rfl);(·rfl);(·(first|exact fun _ s => s|exact fun _ s => s.tl|exact fun _ s => s.tl.tl|exact fun _ s => Hd.sub s (Le.trans hle3 hle) (fun r hr => List.mem_cons_of_mem _ hr))))|refine ybl rfl rfl ?_|((fail_if_success (refine ybi rfl ?_));refine ybj rfl ?_ ?_<;>(intro ht;rw [ht];first|replace ht := oet_ ht|replace ht := oef_ ht|skip))|(refine tb_ ?_ ?_ ?_;(·(first|exact ybf|(refine .inl ?_;(first|exact fun _ s => s|exact fun _ s => s.tl|exact fun _ s => s.tl.tl|exact fun _ s => Hd.sub s (Le.trans hle3 hle) (fun r hr => List.mem_cons_of_mem _ hr)))|exact to_));(·intro _;(first|exact ybf|(refine .inl ?_;(first|exact fun _ s => s|exact fun _ s => s.tl|exact fun _ s => s.tl.tl|exact fun _ s => Hd.sub s (Le.trans hle3 hle) (fun r hr => List.mem_cons_of_mem _ hr)))|exact to_));intro _)|(first|(refine ybg 1 rfl rfl rfl (cxc_sz hu') (cxc_fit hu') (cxc_one rfl) (ybh (cxc_all hu')) rfl rfl ?_ ?_ ?_;(·(first|exact ybf|(refine .inl ?_;(first|exact fun _ s => s|exact fun _ s => s.tl|exact fun _ s => s.tl.tl|exact fun _ s => Hd.sub s (Le.trans hle3 hle) (fun r hr => List.mem_cons_of_mem _ hr)))|exact to_));(·(first|exact ybf|(refine .inl ?_;(first|exact fun _ s => s|exact fun _ s => s.tl|exact fun _ s => s.tl.tl|exact fun _ s => Hd.sub s (Le.trans hle3 hle) (fun r hr => List.mem_cons_of_mem _ hr)))|exact to_)))|(refine tqs_ ?_ ?_ ?_;(·(first|exact ybf|(refine .inl ?_;(first|exact fun _ s => s|exact fun _ s => s.tl|exact fun _ s => s.tl.tl|exact fun _ s => Hd.sub s (Le.trans hle3 hle) (fun r hr => List.mem_cons_of_mem _ hr)))|exact to_));(·(first|exact ybf|(refine .inl ?_;(first|exact fun _ s => s|exact fun _ s => s.tl|exact fun _ s => s.tl.tl|exact fun _ s => Hd.sub s (Le.trans hle3 hle) (fun r hr => List.mem_cons_of_mem _ hr)))|exact to_))))|(apply ybn;(·(first|(first|(apply yad;(·rfl);(·exact yaz 2 rfl);(·exact ycj hu))|(apply yad (vs := up u);(·rfl);(·exact ycm (yaz 2 rfl));(·simp [up, hu])))|(apply yae;(·rfl);(·exact yck (yaz 2 rfl) hu rfl))|exact tq_));(·rfl);(·rfl);(·rfl);(·(first|exact ybf|(refine .inl ?_;(first|exact fun _ s => s|exact fun _ s => s.tl|exact fun _ s => s.tl.tl|exact fun _ s => Hd.sub s (Le.trans hle3 hle) (fun r hr => List.mem_cons_of_mem _ hr)))|exact to_))))|refine ycg ?_))
      refine rx_append (sz := 2) 0 rfl rfl rfl (yaz 1 rfl) rfl (one_dcs [d]) rfl (by omega) (by unfold maxLen; omega) (by omega) rfl rfl rfl ?_ ?_ ?_
      · (first|exact ybf|(refine .inl ?_;(first|exact fun _ s => s|exact fun _ s => s.tl|exact fun _ s => s.tl.tl|exact fun _ s => Hd.sub s (Le.trans hle3 hle) (fun r hr => List.mem_cons_of_mem _ hr)))|exact to_)
      · intro v';(first|exact ybf|(refine .inl ?_;(first|exact fun _ s => s|exact fun _ s => s.tl|exact fun _ s => s.tl.tl|exact fun _ s => Hd.sub s (Le.trans hle3 hle) (fun r hr => List.mem_cons_of_mem _ hr)))|exact to_)
      intro v2 _
      refine rx_persist rfl fun h3 hle3 hs3 => ?_
      have hs3' : Ds h3 v2 (l ++ [d]) := by
        unfold Ds
        rw [List.length_append, List.flatMap_append]
        exact hs3
      (refine yco (ycp Tryz.func65 rfl (by kernel_rfl) rfl) (tidy_sp u v2 (l ++ [d]) h3 hu hub hs3' hrr (by simp;omega)) rfl rfl rfl ?_ ?_ ?_;(·(first|exact ybf|(refine .inl ?_;(first|exact fun _ s => s|exact fun _ s => s.tl|exact fun _ s => s.tl.tl|exact fun _ s => Hd.sub s (Le.trans hle3 hle) (fun r hr => List.mem_cons_of_mem _ hr)))|exact to_));(·intro _ _ hle;(first|exact ybf|(refine .inl ?_;(first|exact fun _ s => s|exact fun _ s => s.tl|exact fun _ s => s.tl.tl|exact fun _ s => Hd.sub s (Le.trans hle3 hle) (fun r hr => List.mem_cons_of_mem _ hr)))|exact to_));intro x px hle)
      obtain ⟨h4, v4, srt, er⟩ := x
      replace hle : Le h3 h4 := hle
      obtain ⟨p1, p2, p3⟩ := px
      have hcx : ∃ u' m', Cx h4 v4 u' m' := by
        split at p3
        · exact ⟨_, _, p3.2⟩
        · exact ⟨_, _, p3.2⟩
      obtain ⟨u', m', hu', mv', rfl, hs'⟩ := hcx
      obtain ⟨_, ad', cap', rfl, _, _⟩ := id hs'
      repeat' (refine ycf ?_;(first|(first|(apply ybm;(·(first|(first|(apply yad;(·rfl);(·exact yaz 2 rfl);(·exact ycj hu))|(apply yad (vs := up u);(·rfl);(·exact ycm (yaz 2 rfl));(·simp [up, hu])))|(apply yae;(·rfl);(·exact yck (yaz 2 rfl) hu rfl))|exact tq_));(·rfl);(·rfl);(·(first|exact fun _ s => s|exact fun _ s => s.tl|exact fun _ s => s.tl.tl|exact fun _ s => Hd.sub s (Le.trans hle3 hle) (fun r hr => List.mem_cons_of_mem _ hr))))|refine ybl rfl rfl ?_|((fail_if_success (refine ybi rfl ?_));refine ybj rfl ?_ ?_<;>(intro ht;rw [ht];first|replace ht := oet_ ht|replace ht := oef_ ht|skip))|(refine tb_ ?_ ?_ ?_;(·(first|exact ybf|(refine .inl ?_;(first|exact fun _ s => s|exact fun _ s => s.tl|exact fun _ s => s.tl.tl|exact fun _ s => Hd.sub s (Le.trans hle3 hle) (fun r hr => List.mem_cons_of_mem _ hr)))|exact to_));(·intro _;(first|exact ybf|(refine .inl ?_;(first|exact fun _ s => s|exact fun _ s => s.tl|exact fun _ s => s.tl.tl|exact fun _ s => Hd.sub s (Le.trans hle3 hle) (fun r hr => List.mem_cons_of_mem _ hr)))|exact to_));intro _)|(first|(refine ybg 1 rfl rfl rfl (cxc_sz hu') (cxc_fit hu') (cxc_one rfl) (ybh (cxc_all hu')) rfl rfl ?_ ?_ ?_;(·(first|exact ybf|(refine .inl ?_;(first|exact fun _ s => s|exact fun _ s => s.tl|exact fun _ s => s.tl.tl|exact fun _ s => Hd.sub s (Le.trans hle3 hle) (fun r hr => List.mem_cons_of_mem _ hr)))|exact to_));(·(first|exact ybf|(refine .inl ?_;(first|exact fun _ s => s|exact fun _ s => s.tl|exact fun _ s => s.tl.tl|exact fun _ s => Hd.sub s (Le.trans hle3 hle) (fun r hr => List.mem_cons_of_mem _ hr)))|exact to_)))|(refine tqs_ ?_ ?_ ?_;(·(first|exact ybf|(refine .inl ?_;(first|exact fun _ s => s|exact fun _ s => s.tl|exact fun _ s => s.tl.tl|exact fun _ s => Hd.sub s (Le.trans hle3 hle) (fun r hr => List.mem_cons_of_mem _ hr)))|exact to_));(·(first|exact ybf|(refine .inl ?_;(first|exact fun _ s => s|exact fun _ s => s.tl|exact fun _ s => s.tl.tl|exact fun _ s => Hd.sub s (Le.trans hle3 hle) (fun r hr => List.mem_cons_of_mem _ hr)))|exact to_))))|(apply ybn;(·(first|(first|(apply yad;(·rfl);(·exact yaz 2 rfl);(·exact ycj hu))|(apply yad (vs := up u);(·rfl);(·exact ycm (yaz 2 rfl));(·simp [up, hu])))|(apply yae;(·rfl);(·exact yck (yaz 2 rfl) hu rfl))|exact tq_));(·rfl);(·rfl);(·rfl);(·(first|exact ybf|(refine .inl ?_;(first|exact fun _ s => s|exact fun _ s => s.tl|exact fun _ s => s.tl.tl|exact fun _ s => Hd.sub s (Le.trans hle3 hle) (fun r hr => List.mem_cons_of_mem _ hr)))|exact to_))))|refine ycg ?_))
      repeat' (first|(refine ycf ?_;apply ybk;(·first|(first|(apply yad;(·rfl);(·exact yaz 2 rfl);(·exact ycj hu))|(apply yad (vs := up u);(·rfl);(·exact ycm (yaz 2 rfl));(·simp [up, hu])))|(apply yae;(·rfl);(·exact yck (yaz 2 rfl) hu rfl)));(·rfl);(·rfl))|(refine ybg 1 rfl rfl rfl (cxc_sz hu') (cxc_fit hu') (cxc_one rfl) (ybh (cxc_all hu')) rfl rfl ?_ ?_ ?_;(·(first|exact ybf|(refine .inl ?_;(first|exact fun _ s => s|exact fun _ s => s.tl|exact fun _ s => s.tl.tl|exact fun _ s => Hd.sub s (Le.trans hle3 hle) (fun r hr => List.mem_cons_of_mem _ hr)))|exact to_));(·(first|exact ybf|(refine .inl ?_;(first|exact fun _ s => s|exact fun _ s => s.tl|exact fun _ s => s.tl.tl|exact fun _ s => Hd.sub s (Le.trans hle3 hle) (fun r hr => List.mem_cons_of_mem _ hr)))|exact to_)))|refine t1_ ?_|(refine ta_ ?_;intro _)|((fail_if_success (refine ybi rfl ?_));refine ybj rfl ?_ ?_<;>(intro ht;rw [ht];first|replace ht := oet_ ht|replace ht := oef_ ht|skip))|(refine ych ?_;first|(refine ybw rfl ?_ ?_<;>intro ht)|(refine ybx rfl ?_ ?_<;>intro ht)))
      refine nx_ret2 rfl (rv_cells rfl (yaz 1 rfl) (cxc_all hu')) (rv_tmp rfl) (fun w' s' => ⟨(h4, cxv u' (.slice ad' m'.length cap'), srt, er), rfl, s'.nil, ?_⟩)
      rw [if_neg (by simp [hk])]
      exact ⟨p1, p2, p3⟩
end Go.Proofs.YtkkjppeaaicgaaaGreatDoor
end

section
namespace Go.Proofs.YtkkjppeaaicgaaaGreatDoor
open Go Go.Ck
set_option maxRecDepth 100000
set_option maxHeartbeats 1000000
set_option linter.unusedVariables false
theorem qv_min {P : Program} {n : Nat} {F : List (Nat × Value)} {h : View} {L : List Res} {dst : Option Nat} {ty : Nat} {pos : String} {af : Array Edge} {gd : Option (Nat × Bool)} {ts : Array TypeId} {x y : Operand} {k : IntKind} {i j : Int} (hx : ev F x = some (.int k i)) (hy : ev F y = some (.int k j)) :
    QV P n F h L ⟨dst, .call ⟨.builtin .min, #[x, y], ts⟩, ty, pos, af, gd⟩ (.int k (if j < i then j else i)) := .mk fun a w f s => by
  simp [execOp, resolve, invoke, builtin, Builtin.min_, f.ev hx, f.ev hy, Builtin.min2]
theorem qv_min' {P : Program} {n : Nat} {F : List (Nat × Value)} {h : View} {L : List Res} {dst : Option Nat} {ty : Nat} {pos : String} {af : Array Edge} {gd : Option (Nat × Bool)} {ts : Array TypeId} {x y : Operand} {k : IntKind} {i j r : Int} (hx : ev F x = some (.int k i)) (hy : ev F y = some (.int k j)) (hr : (if j < i then j else i) = r) :
    QV P n F h L ⟨dst, .call ⟨.builtin .min, #[x, y], ts⟩, ty, pos, af, gd⟩ (.int k r) := by subst hr; exact qv_min hx hy
theorem sc_take {h : View} {k m cap j : Nat} {ad : Option Addr} {xs : List Value} (s : Sc h k (.slice ad m cap) m xs) (hj : j ≤ m) : Sc h k (.slice ad j cap) j (xs.take (j * k)) := by
  obtain ⟨h1, ad', cap', h2, h3, h4⟩ := s
  cases h2
  refine ⟨?_, ad, cap, rfl, by omega, ?_⟩
  · rw [List.length_take, h1]
    exact Nat.min_eq_left (Nat.mul_le_mul_right k hj)
  · rcases h4 with rfl | ⟨b, o, cs, e, fz, q1, q2, q3⟩
    · exact .inl (by simp)
    · refine .inr ⟨b, o, cs, e, fz, q1, q2, fun i u hi => q3 i u ?_⟩
      rw [List.getElem?_take] at hi
      split at hi
      · exact hi
      · cases hi
theorem flat_take {l : List Dt} : ∀ {j : Nat}, (l.flatMap dcs).take (j * 2) = (l.take j).flatMap dcs := by
  induction l with
  | nil => intro j; simp
  | cons d l ih =>
    intro j
    cases j with
    | zero => simp
    | succ j =>
      have : (j + 1) * 2 = (dcs d).length + j * 2 := by rw [dcs_len]; omega
      rw [this]
      simp only [List.flatMap_cons, List.take_succ_cons, List.take_length_add_append, ih]
theorem fill2 {u : List Int} {ad : Option Addr} {m c : Nat} (hu : u.length = 16) : fillL (fun i : Nat => ([(0, 16), (16, 1)] : List (Nat × Nat))[i]?) (up zeroU ++ [.slice none 0 0]) [(0, .agg (up u).toArray), (1, .slice ad m c)] = some (cxc u (.slice ad m c)) := by
  obtain ⟨a0, a1, a2, a3, a4, a5, a6, a7, a8, a9, a10, a11, a12, a13, a14, a15, rfl⟩ := list16 u hu
  rfl
end Go.Proofs.YtkkjppeaaicgaaaGreatDoor
end

section
namespace Go.Proofs.YtkkjppeaaicgaaaGreatDoor
open Go Go.Ck
set_option maxRecDepth 100000
set_option maxHeartbeats 2000000
set_option linter.unusedVariables false
def num8 (x : Int) : List Int := (putLow 8 x).reverse
def num1 (x : Int) : List Int := (putLow 1 x).reverse
def encD (d : Dt) : List Int := num8 d.1 ++ num8 d.2
def encW (u : List Int) (l : List Dt) : List Int := u.flatMap num8 ++ num1 l.length ++ l.flatMap encD
theorem num8_len (x : Int) : (num8 x).length = 8 := by simp [num8, putLow_len]
theorem num1_len (x : Int) : (num1 x).length = 1 := by simp [num1, putLow_len]
theorem encU_len : ∀ u : List Int, (u.flatMap num8).length = 8 * u.length
  | [] => rfl
  | x :: u => by rw [List.flatMap_cons, List.length_append, num8_len, encU_len u, List.length_cons]; omega
theorem encD_len (d : Dt) : (encD d).length = 16 := by simp [encD, num8_len]
theorem encL_len : ∀ l : List Dt, (l.flatMap encD).length = 16 * l.length
  | [] => rfl
  | x :: l => by rw [List.flatMap_cons, List.length_append, encD_len, encL_len l, List.length_cons]; omega
theorem flat_succ {α β : Type} {f : α → List β} {l : List α} {k : Nat} (hk : k < l.length) : (l.take (k + 1)).flatMap f = (l.take k).flatMap f ++ f l[k] := by
  rw [List.take_succ_eq_append_getElem hk, List.flatMap_append]
  simp
theorem Write_sp (cv : Value) (u : List Int) (l : List Dt) (h : View) (hc : Cx h cv u l) (hl : l.length ≤ 4611686018427387904) (w : World) (s : St ⟨w, h, []⟩ h [] w) :
    Calls Tryz.prog 23 [cv].toArray w fun e w' => ∃ x : View × Value, e = .returned (.tuple #[x.2, .int .i64 (checkC u l)]) ∧ St ⟨w, h, []⟩ x.1 [] w' ∧ Bs8 x.1 x.2 (if checkC u l = 0 then encW u l else []) := by
  have hc' := hc
  obtain ⟨hu, mv, rfl, hs⟩ := hc
  obtain ⟨_, ad, cap, rfl, _, _⟩ := id hs
  refine calls_enter Tryz.func23 rfl Tryz.ntmps23 rfl s ?_
  repeat' (first|(refine ycf ?_;apply ybk;(·first|(first|(apply yad (vs := up u);(·rfl);(·exact ycm (yaz 1 rfl));(·simp [up, hu]))|(apply yad;(·rfl);(·exact yaz 0 rfl);(·exact ycj hu))));(·rfl);(·rfl))|refine t1_ ?_|(refine ta_ ?_;intro _)|((fail_if_success (refine ybi rfl ?_));refine ybj rfl ?_ ?_<;>(intro ht;rw [ht];first|replace ht := oet_ ht|replace ht := oef_ ht|skip))|(refine ych ?_;first|(refine ybw rfl ?_ ?_<;>intro ht)|(refine ybx rfl ?_ ?_<;>intro ht)))
  (refine ycn (ycp Tryz.func55 rfl (by kernel_rfl) rfl) (check_sp _ u l h hc' hl) rfl rfl rfl ?_ ?_; (· (exact to_)))
  repeat' (first|(refine ycf ?_;apply ybk;(·first|(first|(apply yad (vs := up u);(·rfl);(·exact ycm (yaz 1 rfl));(·simp [up, hu]))|(apply yad;(·rfl);(·exact yaz 0 rfl);(·exact ycj hu))));(·rfl);(·rfl))|refine t1_ ?_|(refine ta_ ?_;intro _)|((fail_if_success (refine ybi rfl ?_));refine ybj rfl ?_ ?_<;>(intro ht;rw [ht];first|replace ht := oet_ ht|replace ht := oef_ ht|skip))|(refine ych ?_;first|(refine ybw rfl ?_ ?_<;>intro ht)|(refine ybx rfl ?_ ?_<;>intro ht)))
  · have hk := ht
    refine nx_ret2 rfl (rv_tmp rfl) (rv_tmp rfl) (fun w' s' => ⟨(h, .slice none 0 0), rfl, s'.nil, ?_⟩)
    rw [if_neg hk]
    exact Sc.nil h 1 none 0
  have hk0 : checkC u l = 0 := by omega
  rw [hk0]
  obtain ⟨hub, hl32, hlr⟩ := check_right hk0
  rename_i b1 bo
  refine cx_loop (X := Nat × Value) (fun y => [(1, .pointer (some ⟨b1, 0, none⟩)), (5, .pointer (some ⟨bo, 0, none⟩)), (18, .agg (up u).toArray), (19, .int .i64 y.1)]) (fun _ => h)
    (fun y => [outR bo y.2 false, rowB y.2 ((u.take y.1).flatMap num8), Res.blk b1 (.cells (cxc u (.slice ad l.length cap)).toArray 37 (0, 0))]) (fun y => y.1 ≤ 16) (fun y => 16 - y.1) (0, .slice none 0 0) (Nat.zero_le _) ts_ (fun _ s => (s.rowNil 5 1).perm (List.Perm.swap _ _ _)) ?_
  rintro ⟨k, v⟩ hk
  replace hk : k ≤ 16 := hk
  dsimp only
  by_cases hk16 : k < 16
  · have hku : k < u.length := by omega
    have hidx : (up u).toArray[((k : Int)).toNat * 1]? = some (.int .i64 u[k]) := by simp [up, hku]
    have hb := hub _ (List.getElem_mem hku)
    have hfl := encU_len (u.take k)
    rw [List.length_take] at hfl
    repeat' (first|(refine ycf ?_;apply ybk;(·first|(apply qv_index;(·rfl);(·rfl);(·omega);(·omega);(·exact hidx)));(·rfl);(·rfl))|refine t1_ ?_|(refine ta_ ?_;intro _)|((fail_if_success (refine ybi rfl ?_));refine ybj rfl ?_ ?_<;>(intro ht;rw [ht];first|replace ht := oet_ ht|replace ht := oef_ ht|skip))|(refine ych ?_;first|(refine ybw rfl ?_ ?_<;>intro ht)|(refine ybx rfl ?_ ?_<;>intro ht)))
    (refine rx_call_2 (ycp Tryz.func24 rfl (by kernel_rfl) rfl) (OutNum_sp bo v ((u.take k).flatMap num8) false u[k] hb.1 (by omega) (by omega) h) rfl rfl rfl ?_ ?_ ?_; (· (exact to_)); (· intro _ _ hle; (exact to_)); intro x px hle)
    repeat' (first|(refine ycf ?_;apply ybk;(·first|(apply qv_index;(·rfl);(·rfl);(·omega);(·omega);(·exact hidx)));(·rfl);(·rfl))|refine t1_ ?_|(refine ta_ ?_;intro _)|((fail_if_success (refine ybi rfl ?_));refine ybj rfl ?_ ?_<;>(intro ht;rw [ht];first|replace ht := oet_ ht|replace ht := oef_ ht|skip))|(refine ych ?_;first|(refine ybw rfl ?_ ?_<;>intro ht)|(refine ybx rfl ?_ ?_<;>intro ht)))
    refine nx_round (k + 1, x) (by show k + 1 ≤ 16; omega) (by show 16 - (k + 1) < 16 - k; omega) ts_ (fun _ s => ?_)
    dsimp only
    rw [flat_succ hku]
    exact s
    omega
  · have ek : k = 16 := by omega
    subst ek
    have htk : u.take 16 = u := List.take_of_length_le (by omega)
    have hfl := encU_len u
    rw [htk]
    repeat' (first|(refine ycf ?_;apply ybk;(·first|(apply qv_index;(·rfl);(·rfl);(·omega);(·omega);(·exact hidx))|(apply yae;(·rfl);(·exact yck (yaz 2 rfl) hu rfl)));(·rfl);(·rfl))|refine t1_ ?_|(refine ta_ ?_;intro _)|((fail_if_success (refine ybi rfl ?_));refine ybj rfl ?_ ?_<;>(intro ht;rw [ht];first|replace ht := oet_ ht|replace ht := oef_ ht|skip))|(refine ych ?_;first|(refine ybw rfl ?_ ?_<;>intro ht)|(refine ybx rfl ?_ ?_<;>intro ht)))
    (refine rx_call_2 (ycp Tryz.func22 rfl (by kernel_rfl) rfl) (OutSmall_sp bo v (u.flatMap num8) false l.length (by omega) (by omega) (by omega) h) rfl rfl rfl ?_ ?_ ?_; (· (exact to_)); (· intro _ _ hle; (exact to_)); intro x px hle)
    repeat' (first|(refine ycf ?_;apply ybk;(·first|(apply qv_index;(·rfl);(·rfl);(·omega);(·omega);(·exact hidx))|(apply yae;(·rfl);(·exact yck (yaz 2 rfl) hu rfl)));(·rfl);(·rfl))|refine t1_ ?_|(refine ta_ ?_;intro _)|((fail_if_success (refine ybi rfl ?_));refine ybj rfl ?_ ?_<;>(intro ht;rw [ht];first|replace ht := oet_ ht|replace ht := oef_ ht|skip))|(refine ych ?_;first|(refine ybw rfl ?_ ?_<;>intro ht)|(refine ybx rfl ?_ ?_<;>intro ht)))
    have hpre : (u.flatMap num8 ++ num1 l.length).length = 129 := by rw [List.length_append, hfl, num1_len]; omega
    refine cx_loop (X := Nat × Value) (fun y => [(1, .pointer (some ⟨b1, 0, none⟩)), (5, .pointer (some ⟨bo, 0, none⟩)), (32, .slice ad l.length cap), (33, .int .i64 l.length), (34, .int .i64 y.1)]) (fun _ => h)
      (fun y => [outR bo y.2 false, rowB y.2 (u.flatMap num8 ++ num1 l.length ++ (l.take y.1).flatMap encD), Res.blk b1 (.cells (cxc u (.slice ad l.length cap)).toArray 37 (0, 0))]) (fun y => y.1 ≤ l.length) (fun y => l.length - y.1) (0, x) (Nat.zero_le _) ts_ (fun _ s => ?_) ?_
    · dsimp only
      rw [List.take_zero, List.flatMap_nil, List.append_nil]
      exact s
    rintro ⟨j, v⟩ hj
    replace hj : j ≤ l.length := hj
    dsimp only
    have hfj := encL_len (l.take j)
    rw [List.length_take] at hfj
    by_cases hjl : j < l.length
    · obtain ⟨bs, o, rfl⟩ := hs.ad (by omega) (by omega)
      have hel : ∀ L, Cells h L ⟨bs, o + j * 2, none⟩ (dcs l[j]) := fun L => hs.elem dcs_len j hjl
      have hd4 := right_of (hlr _ (List.getElem_mem hjl))
      have hnl : (u.flatMap num8 ++ num1 l.length ++ (l.take j).flatMap encD).length ≤ 10000 := by rw [List.length_append, hpre, hfj]; omega
      repeat' (first|(refine ycf ?_;apply ybk;(·first|(apply yad;(·rfl);(·exact hel _);(·rfl))|(apply yae;(·rfl);(·exact yck (yaz 2 rfl) hu rfl)));(·rfl);(·rfl))|refine t1_ ?_|(refine ta_ ?_;intro _)|((fail_if_success (refine ybi rfl ?_));refine ybj rfl ?_ ?_<;>(intro ht;rw [ht];first|replace ht := oet_ ht|replace ht := oef_ ht|skip))|(refine ych ?_;first|(refine ybw rfl ?_ ?_<;>intro ht)|(refine ybx rfl ?_ ?_<;>intro ht)))
      · refine cx_perm (List.Perm.trans (List.Perm.swap _ _ _) (List.Perm.cons _ (List.Perm.swap _ _ _))) ?_
        rename_i b9
        refine cx_region_draw [Res.blk b9 (.cells (dcs l[j]).toArray 53 (0, 0))] rfl (by kernel_rfl) ?_
        repeat' (refine ycf ?_;(first|(first|(apply ybm;(·(first|(apply yad;(·rfl);(·exact hel _);(·rfl))|(apply yae;(·rfl);(·exact yck (yaz 2 rfl) hu rfl))|exact tq_));(·rfl);(·rfl);(·(first|exact fun _ s => Hd.sub s (Le.refl h) (fun r hr => List.mem_cons_of_mem _ (List.mem_cons_of_mem _ (List.mem_append_left [_] hr))))))|refine ybl rfl rfl ?_|((fail_if_success (refine ybi rfl ?_));refine ybj rfl ?_ ?_<;>(intro ht;rw [ht];first|replace ht := oet_ ht|replace ht := oef_ ht|skip))|(refine tb_ ?_ ?_ ?_;(·(first|exact ybf|(refine .inl ?_;(first|exact fun _ s => Hd.sub s (Le.refl h) (fun r hr => List.mem_cons_of_mem _ (List.mem_cons_of_mem _ (List.mem_append_left [_] hr)))))|exact to_));(·intro _;(first|exact ybf|(refine .inl ?_;(first|exact fun _ s => Hd.sub s (Le.refl h) (fun r hr => List.mem_cons_of_mem _ (List.mem_cons_of_mem _ (List.mem_append_left [_] hr)))))|exact to_));intro _)|(first|(refine tqs_ ?_ ?_ ?_;(·(first|exact ybf|(refine .inl ?_;(first|exact fun _ s => Hd.sub s (Le.refl h) (fun r hr => List.mem_cons_of_mem _ (List.mem_cons_of_mem _ (List.mem_append_left [_] hr)))))|exact to_));(·(first|exact ybf|(refine .inl ?_;(first|exact fun _ s => Hd.sub s (Le.refl h) (fun r hr => List.mem_cons_of_mem _ (List.mem_cons_of_mem _ (List.mem_append_left [_] hr)))))|exact to_))))|(apply ybn;(·(first|(apply yad;(·rfl);(·exact hel _);(·rfl))|(apply yae;(·rfl);(·exact yck (yaz 2 rfl) hu rfl))|exact tq_));(·rfl);(·rfl);(·rfl);(·(first|exact ybf|(refine .inl ?_;(first|exact fun _ s => Hd.sub s (Le.refl h) (fun r hr => List.mem_cons_of_mem _ (List.mem_cons_of_mem _ (List.mem_append_left [_] hr)))))|exact to_))))|refine ycg ?_))
        (refine rx_call_2 (ycp Tryz.func24 rfl (by kernel_rfl) rfl) (OutNum_sp bo v _ false l[j].1 (by omega) (by omega) (by omega) h) rfl rfl rfl ?_ ?_ ?_;(·(first|exact ybf|(refine .inl ?_;(first|exact fun _ s => Hd.sub s (Le.refl h) (fun r hr => List.mem_cons_of_mem _ (List.mem_cons_of_mem _ (List.mem_append_left [_] hr)))))|exact to_));(·intro _ _ hle;(first|exact ybf|(refine .inl ?_;(first|exact fun _ s => Hd.sub s (Le.refl h) (fun r hr => List.mem_cons_of_mem _ (List.mem_cons_of_mem _ (List.mem_append_left [_] hr)))))|exact to_));intro x px hle)
        repeat' (refine ycf ?_;(first|(first|(apply ybm;(·(first|(apply yad;(·rfl);(·exact hel _);(·rfl))|(apply yae;(·rfl);(·exact yck (yaz 2 rfl) hu rfl))|exact tq_));(·rfl);(·rfl);(·(first|exact fun _ s => Hd.sub s (Le.refl h) (fun r hr => List.mem_cons_of_mem _ (List.mem_cons_of_mem _ (List.mem_append_left [_] hr))))))|refine ybl rfl rfl ?_|((fail_if_success (refine ybi rfl ?_));refine ybj rfl ?_ ?_<;>(intro ht;rw [ht];first|replace ht := oet_ ht|replace ht := oef_ ht|skip))|(refine tb_ ?_ ?_ ?_;(·(first|exact ybf|(refine .inl ?_;(first|exact fun _ s => Hd.sub s (Le.refl h) (fun r hr => List.mem_cons_of_mem _ (List.mem_cons_of_mem _ (List.mem_append_left [_] hr)))))|exact to_));(·intro _;(first|exact ybf|(refine .inl ?_;(first|exact fun _ s => Hd.sub s (Le.refl h) (fun r hr => List.mem_cons_of_mem _ (List.mem_cons_of_mem _ (List.mem_append_left [_] hr)))))|exact to_));intro _)|(first|(refine tqs_ ?_ ?_ ?_;(·(first|exact ybf|(refine .inl ?_;(first|exact fun _ s => Hd.sub s (Le.refl h) (fun r hr => List.mem_cons_of_mem _ (List.mem_cons_of_mem _ (List.mem_append_left [_] hr)))))|exact to_));(·(first|exact ybf|(refine .inl ?_;(first|exact fun _ s => Hd.sub s (Le.refl h) (fun r hr => List.mem_cons_of_mem _ (List.mem_cons_of_mem _ (List.mem_append_left [_] hr)))))|exact to_))))|(apply ybn;(·(first|(apply yad;(·rfl);(·exact hel _);(·rfl))|(apply yae;(·rfl);(·exact yck (yaz 2 rfl) hu rfl))|exact tq_));(·rfl);(·rfl);(·rfl);(·(first|exact ybf|(refine .inl ?_;(first|exact fun _ s => Hd.sub s (Le.refl h) (fun r hr => List.mem_cons_of_mem _ (List.mem_cons_of_mem _ (List.mem_append_left [_] hr)))))|exact to_))))|refine ycg ?_))
        (refine rx_call_2 (ycp Tryz.func24 rfl (by kernel_rfl) rfl) (OutNum_sp bo x _ false l[j].2 (by omega) (by omega) (by rw [List.length_append, List.length_reverse, putLow_len];omega) h) rfl rfl rfl ?_ ?_ ?_;(·(first|exact ybf|(refine .inl ?_;(first|exact fun _ s => Hd.sub s (Le.refl h) (fun r hr => List.mem_cons_of_mem _ (List.mem_cons_of_mem _ (List.mem_append_left [_] hr)))))|exact to_));(·intro _ _ hle;(first|exact ybf|(refine .inl ?_;(first|exact fun _ s => Hd.sub s (Le.refl h) (fun r hr => List.mem_cons_of_mem _ (List.mem_cons_of_mem _ (List.mem_append_left [_] hr)))))|exact to_));intro x px hle)
        repeat' (refine ycf ?_;(first|(first|(apply ybm;(·(first|(apply yad;(·rfl);(·exact hel _);(·rfl))|(apply yae;(·rfl);(·exact yck (yaz 2 rfl) hu rfl))|exact tq_));(·rfl);(·rfl);(·(first|exact fun _ s => Hd.sub s (Le.refl h) (fun r hr => List.mem_cons_of_mem _ (List.mem_cons_of_mem _ (List.mem_append_left [_] hr))))))|refine ybl rfl rfl ?_|((fail_if_success (refine ybi rfl ?_));refine ybj rfl ?_ ?_<;>(intro ht;rw [ht];first|replace ht := oet_ ht|replace ht := oef_ ht|skip))|(refine tb_ ?_ ?_ ?_;(·(first|exact ybf|(refine .inl ?_;(first|exact fun _ s => Hd.sub s (Le.refl h) (fun r hr => List.mem_cons_of_mem _ (List.mem_cons_of_mem _ (List.mem_append_left [_] hr)))))|exact to_));(·intro _;(first|exact ybf|(refine .inl ?_;(first|exact fun _ s => Hd.sub s (Le.refl h) (fun r hr => List.mem_cons_of_mem _ (List.mem_cons_of_mem _ (List.mem_append_left [_] hr)))))|exact to_));intro _)|(first|(refine tqs_ ?_ ?_ ?_;(·(first|exact ybf|(refine .inl ?_;(first|exact fun _ s => Hd.sub s (Le.refl h) (fun r hr => List.mem_cons_of_mem _ (List.mem_cons_of_mem _ (List.mem_append_left [_] hr)))))|exact to_));(·(first|exact ybf|(refine .inl ?_;(first|exact fun _ s => Hd.sub s (Le.refl h) (fun r hr => List.mem_cons_of_mem _ (List.mem_cons_of_mem _ (List.mem_append_left [_] hr)))))|exact to_))))|(apply ybn;(·(first|(apply yad;(·rfl);(·exact hel _);(·rfl))|(apply yae;(·rfl);(·exact yck (yaz 2 rfl) hu rfl))|exact tq_));(·rfl);(·rfl);(·rfl);(·(first|exact ybf|(refine .inl ?_;(first|exact fun _ s => Hd.sub s (Le.refl h) (fun r hr => List.mem_cons_of_mem _ (List.mem_cons_of_mem _ (List.mem_append_left [_] hr)))))|exact to_))))|refine ycg ?_))
        repeat' (first|(refine ycf ?_;apply ybk;(·first|(apply yad;(·rfl);(·exact hel _);(·rfl))|(apply yae;(·rfl);(·exact yck (yaz 2 rfl) hu rfl)));(·rfl);(·rfl))|refine t1_ ?_|(refine ta_ ?_;intro _)|((fail_if_success (refine ybi rfl ?_));refine ybj rfl ?_ ?_<;>(intro ht;rw [ht];first|replace ht := oet_ ht|replace ht := oef_ ht|skip))|(refine ych ?_;first|(refine ybw rfl ?_ ?_<;>intro ht)|(refine ybx rfl ?_ ?_<;>intro ht)))
        refine nx_round (j + 1, x) (by show j + 1 ≤ _; omega) (by show l.length - (j + 1) < l.length - j; omega) ts_ (fun _ s => ?_)
        dsimp only
        rw [flat_succ hjl, ← List.append_assoc]
        have e : u.flatMap num8 ++ num1 l.length ++ (l.take j).flatMap encD ++ encD l[j] = u.flatMap num8 ++ num1 l.length ++ (l.take j).flatMap encD ++ (putLow 8 l[j].1).reverse ++ (putLow 8 l[j].2).reverse := by
          rw [encD, ← List.append_assoc]; rfl
        rw [e]
        have s2 : St _ h [Res.blk b9 _, outR bo x false, rowB x _, Res.blk b1 _] _ := s.perm (List.Perm.trans (List.Perm.cons _ (List.Perm.swap _ _ _)) (List.Perm.swap _ _ _))
        exact s2.tl
      · omega
    · have ej : j = l.length := by omega
      subst ej
      rw [List.take_length] at hfj ⊢
      repeat' (first|(refine ycf ?_;apply ybk;(·first|(apply yad;(·rfl);(·exact hel _);(·rfl))|(apply yae;(·rfl);(·exact yck (yaz 2 rfl) hu rfl)));(·rfl);(·rfl))|refine t1_ ?_|(refine ta_ ?_;intro _)|((fail_if_success (refine ybi rfl ?_));refine ybj rfl ?_ ?_<;>(intro ht;rw [ht];first|replace ht := oet_ ht|replace ht := oef_ ht|skip))|(refine ych ?_;first|(refine ybw rfl ?_ ?_<;>intro ht)|(refine ybx rfl ?_ ?_<;>intro ht)))
      · omega
      have hnl : (u.flatMap num8 ++ num1 l.length ++ l.flatMap encD).length ≤ 10000 := by rw [List.length_append, hpre, hfj]; omega
      (refine rx_call_2 (ycp Tryz.func26 rfl (by kernel_rfl) rfl) (Done_sp bo v _ (by omega) h) rfl rfl rfl ?_ ?_ ?_;(·(first|exact ybf|(refine .inl ?_;(first|exact fun _ s => Hd.sub s (Le.refl h) (fun r hr => List.mem_cons_of_mem _ (List.mem_cons_of_mem _ (List.mem_append_left [_] hr)))))|exact to_));(·intro _ _ hle;(first|exact ybf|(refine .inl ?_;(first|exact fun _ s => Hd.sub s (Le.refl h) (fun r hr => List.mem_cons_of_mem _ (List.mem_cons_of_mem _ (List.mem_append_left [_] hr)))))|exact to_));intro x px hle)
      refine rx_persist rfl fun h3 hle3 hsv => ?_
      obtain ⟨_, adx, capx, hx, _, _⟩ := id hsv
      subst hx
      repeat' (first|(refine ycf ?_;apply ybk;(·first|(apply yad;(·rfl);(·exact hel _);(·rfl))|(apply yae;(·rfl);(·exact yck (yaz 2 rfl) hu rfl)));(·rfl);(·rfl))|refine t1_ ?_|(refine ta_ ?_;intro _)|((fail_if_success (refine ybi rfl ?_));refine ybj rfl ?_ ?_<;>(intro ht;rw [ht];first|replace ht := oet_ ht|replace ht := oef_ ht|skip))|(refine ych ?_;first|(refine ybw rfl ?_ ?_<;>intro ht)|(refine ybx rfl ?_ ?_<;>intro ht)))
      refine nx_ret2 rfl (rv_tmp rfl) (rv_tmp rfl) (fun w' s' => ⟨(h3, _), rfl, s'.nil, ?_⟩)
      rw [if_pos rfl]
      exact hsv
end Go.Proofs.YtkkjppeaaicgaaaGreatDoor
end
