/-
  Part 5 of a proof: DotJ DotK DotL DotM DotN DotQ CkGrow DotT.
  Conditions: each theorem states its own.
-/
import Derived.Lib.AppendZerosOnto
import Derived.Test.YtkkjppeaaicgaaaRpDPM4
section
namespace Go.Proofs.Ytkkjppeaaicgaaa
open Go Go.Ck
set_option maxRecDepth 100000
set_option maxHeartbeats 1000000
set_option linter.unusedVariables false

def tstep (x : List Int × List Dt) (d : Dt) : List Int × List Dt :=
  if d.2 = x.1.getD (d.1 - 1).toNat 0 + 1 then (x.1.set (d.1 - 1).toNat d.2, x.2)
  else if x.1.getD (d.1 - 1).toNat 0 < d.2 ∧ d ∉ x.2 then (x.1, x.2 ++ [d]) else x
def tfold (u : List Int) (l : List Dt) : List Int × List Dt := l.foldl tstep (u, [])
def zeroU : List Int := List.replicate 16 0

theorem list16 : ∀ u : List Int, u.length = 16 → ∃ a0 a1 a2 a3 a4 a5 a6 a7 a8 a9 a10 a11 a12 a13 a14 a15, u = [a0, a1, a2, a3, a4, a5, a6, a7, a8, a9, a10, a11, a12, a13, a14, a15]
  | [a0, a1, a2, a3, a4, a5, a6, a7, a8, a9, a10, a11, a12, a13, a14, a15], _ => ⟨a0, a1, a2, a3, a4, a5, a6, a7, a8, a9, a10, a11, a12, a13, a14, a15, rfl⟩

theorem cxc_sz {u : List Int} {x : Value} (hu : u.length = 16) : (Value.agg (cxc u x).toArray).cells.size = 17 := by
  show (cxc u x).toArray.size = 17
  simp [ycj hu]
theorem cxc_fit {u : List Int} {x : Value} (hu : u.length = 16) : 0 + (Value.agg (cxc u x).toArray).cells.size ≤ 17 := by rw [cxc_sz hu]; omega
theorem cxc_all {u : List Int} {x : Value} (hu : u.length = 16) : (Value.agg (cxc u x).toArray).cells.toList.length = 17 := by
  show (cxc u x).toArray.toList.length = 17
  simp [ycj hu]
theorem cxc_one {u : List Int} {x : Value} (hx : x.oneCell' = true) : (Value.agg (cxc u x).toArray).cells.toList.all Value.oneCell' = true := by
  show (cxc u x).toArray.toList.all Value.oneCell' = true
  simp only [cxc, up, List.all_append, List.all_map, List.all_cons, List.all_nil, hx]
  simp [Value.oneCell', List.all_eq_true]
theorem tstep_len {x : List Int × List Dt} {d : Dt} : (tstep x d).1.length = x.1.length := by
  unfold tstep; split
  · simp
  · split <;> rfl
theorem tfold_succ {u : List Int} {l : List Dt} {k : Nat} (hk : k < l.length) : tfold u (l.take (k + 1)) = tstep (tfold u (l.take k)) l[k] := by
  unfold tfold
  rw [List.take_succ_eq_append_getElem hk, List.foldl_append]
  rfl
theorem tfold_ok {u : List Int} (hu : u.length = 16) (hub : ∀ x ∈ u, 0 ≤ x ∧ x ≤ 1099511627776) {l : List Dt} (hr : ∀ d ∈ l, rightB d = true) : ∀ k, k ≤ l.length →
    (tfold u (l.take k)).1.length = 16 ∧ (∀ x ∈ (tfold u (l.take k)).1, 0 ≤ x ∧ x ≤ 1099511627776) ∧ (tfold u (l.take k)).2.length ≤ k ∧ ∀ d ∈ (tfold u (l.take k)).2, rightB d = true := by
  intro k
  induction k with
  | zero => intro _; exact ⟨hu, hub, by simp [tfold], by simp [tfold]⟩
  | succ k ih =>
    intro hk
    obtain ⟨h1, h2, h3, h4⟩ := ih (by omega)
    rw [tfold_succ (by omega)]
    have hd := hr l[k] (List.getElem_mem _)
    have hdr := right_of hd
    unfold tstep
    split
    · refine ⟨by simpa using h1, fun x hx => ?_, Nat.le_succ_of_le h3, h4⟩
      rcases List.mem_or_eq_of_mem_set hx with hx | rfl
      · exact h2 x hx
      · omega
    · split
      · refine ⟨h1, h2, by simp; omega, fun d hd' => ?_⟩
        rcases List.mem_append.1 hd' with hd' | hd'
        · exact h4 d hd'
        · have : d = l[k] := by simpa using hd'
          rw [this]; exact hd
      · exact ⟨h1, h2, by omega, h4⟩

theorem spl_cxc {u : List Int} {mv : Value} {x : Int} {i o : Nat} (ho : o = i) (hi : i < u.length) : spl (cxc u mv).toArray.toList o (Value.int .i64 x).cells.toList = cxc (u.set i x) mv := by
  subst ho
  show (up u ++ [mv]).take o ++ [Value.int .i64 x] ++ (up u ++ [mv]).drop (o + 1) = up (u.set o x) ++ [mv]
  have hl : (up u).length = u.length := by simp [up]
  rw [List.take_append_of_le_length (by omega), List.drop_append_of_le_length (by omega)]
  unfold up
  rw [List.map_set, List.set_eq_take_append_cons_drop, if_pos (by simpa using hi)]
  simp
theorem fit_cxc {u : List Int} {mv : Value} {x : Int} {i o : Nat} (hu : u.length = 16) (ho : o = i) (hi : i < u.length) : o + (Value.int .i64 x).cells.size ≤ (cxc u mv).toArray.size := by
  show o + 1 ≤ _
  simp [ycj hu]; omega

theorem spl_more {u : List Int} {mv : Value} {ad : Option Addr} {m c : Nat} (hu : u.length = 16) : spl (cxc u mv).toArray.toList 16 (Value.slice ad m c).cells.toList = cxc u (.slice ad m c) := by
  show (up u ++ [mv]).take 16 ++ [Value.slice ad m c] ++ (up u ++ [mv]).drop (16 + 1) = up u ++ [Value.slice ad m c]
  have hl : (up u).length = 16 := by simp [up, hu]
  rw [← hl, List.take_left, List.drop_eq_nil_of_le (by simp)]
  simp
theorem fit_more {u : List Int} {mv : Value} {ad : Option Addr} {m c : Nat} (hu : u.length = 16) : 0 + 16 + (Value.slice ad m c).cells.size ≤ (cxc u mv).toArray.size := by
  show 16 + 1 ≤ _
  simp [ycj hu]

theorem tidy_sp (u : List Int) (mv : Value) (Lm : List Dt) (h : View) (hu : u.length = 16) (hub : ∀ x ∈ u, 0 ≤ x ∧ x ≤ 1099511627776) (hs : Ds h mv Lm) (hr : ∀ d ∈ Lm, rightB d = true) (hlen : Lm.length ≤ 1000000) (w : World) (s : St ⟨w, h, []⟩ h [] w) :
    Calls Try.prog 62 [.agg (up u).toArray, mv].toArray w fun e w' => ∃ x : View × Value × List Dt × Int, e = .returned (.tuple #[x.2.1, .int .i64 x.2.2.2]) ∧ St ⟨w, h, []⟩ x.1 [] w' ∧ x.2.2.1.Perm Lm ∧ SortedD x.2.2.1 ∧
      (if 32 < (tfold u x.2.2.1).2.length then x.2.2.2 = 11 ∧ Cx x.1 x.2.1 zeroU [] else x.2.2.2 = 0 ∧ Cx x.1 x.2.1 (tfold u x.2.2.1).1 (tfold u x.2.2.1).2) := by
  refine calls_enter Try.func62 rfl Try.ntmps62 rfl s ?_
  have hfu : fillL (fun i : Nat => ([(0, 16), (16, 1)] : List (Nat × Nat))[i]?) (up zeroU ++ [.slice none 0 0]) [(0, .agg (up u).toArray)] = some (cxc u (.slice none 0 0)) := by
    obtain ⟨a0, a1, a2, a3, a4, a5, a6, a7, a8, a9, a10, a11, a12, a13, a14, a15, rfl⟩ := list16 u hu
    rfl
  repeat' (first | (refine ycf ?_; apply ybk; (· first | (first | (apply yad (vs := up u); (· rfl); (· exact yaz 1 rfl); (· simp [up, hu])) | (apply yax (cs := cxc u (.slice none 0 0)); (· rfl); (· exact hfu)))); (· rfl); (· rfl)) | (refine ybg 0 rfl rfl rfl (cxc_sz hu) (cxc_fit hu) (cxc_one rfl) (ybh (cxc_all hu)) rfl rfl ?_ ?_ ?_; (· (exact to_)); (· (exact to_))) | refine t1_ ?_ | (refine ta_ ?_; intro _) | ((fail_if_success (refine ybi rfl ?_)); refine ybj rfl ?_ ?_ <;> (intro ht; rw [ht]; first | replace ht := of_decide_eq_true ht | replace ht := of_decide_eq_false ht | skip)) | (refine ych ?_; first | (refine ybw rfl ?_ ?_ <;> intro ht) | (refine ybx rfl ?_ ?_ <;> intro ht)))
  (refine yco (ycp Try.func83 rfl (by kernel_rfl) rfl) (values_sp mv Lm h hs) rfl rfl rfl ?_ ?_ ?_; (· (exact to_)); (· intro _ _ hle; (exact to_)); intro x px hle)
  repeat' (first | (refine ycf ?_; apply ybk; (· first | (first | (apply yad (vs := up u); (· rfl); (· exact yaz 1 rfl); (· simp [up, hu])) | (apply yax (cs := cxc u (.slice none 0 0)); (· rfl); (· exact hfu)))); (· rfl); (· rfl)) | (refine ybg 0 rfl rfl rfl (cxc_sz hu) (cxc_fit hu) (cxc_one rfl) (ybh (cxc_all hu)) rfl rfl ?_ ?_ ?_; (· (exact to_)); (· (exact to_))) | refine t1_ ?_ | (refine ta_ ?_; intro _) | ((fail_if_success (refine ybi rfl ?_)); refine ybj rfl ?_ ?_ <;> (intro ht; rw [ht]; first | replace ht := of_decide_eq_true ht | replace ht := of_decide_eq_false ht | skip)) | (refine ych ?_; first | (refine ybw rfl ?_ ?_ <;> intro ht) | (refine ybx rfl ?_ ?_ <;> intro ht)))
  generalize hv1 : addV h x _ = h1 at *
  have hb1 : h1 x = some (.cells #[mv] 31 (0, 0)) := by rw [← hv1]; exact addV_same
  have hle1 := hle
  (refine yco (ycp Try.func82 rfl (by kernel_rfl) rfl) (sortedFunc_sp x mv Lm h1 (hs.mono hle1) hb1 hlen) rfl rfl rfl ?_ ?_ ?_; (· (exact to_)); (· intro _ _ hle; (exact to_)); intro x px hle)
  refine rx_persist rfl fun h2 hle2 hsv => ?_
  obtain ⟨v, srt⟩ := x
  obtain ⟨hperm, hsorted⟩ := px
  replace hsv : Ds h2 v srt := hsv
  obtain ⟨_, ad, cap, rfl, hcap, _⟩ := id hsv
  have hsl : srt.length = Lm.length := hperm.length_eq
  have hsr : ∀ d ∈ srt, rightB d = true := fun d hd => hr d (hperm.mem_iff.1 hd)
  repeat' (first | (refine ycf ?_; apply ybk; (· first | (first | (apply yad (vs := up u); (· rfl); (· exact yaz 1 rfl); (· simp [up, hu])) | (apply yax (cs := cxc u (.slice none 0 0)); (· rfl); (· exact hfu)))); (· rfl); (· rfl)) | (refine ybg 0 rfl rfl rfl (cxc_sz hu) (cxc_fit hu) (cxc_one rfl) (ybh (cxc_all hu)) rfl rfl ?_ ?_ ?_; (· (exact to_)); (· (exact to_))) | refine t1_ ?_ | (refine ta_ ?_; intro _) | ((fail_if_success (refine ybi rfl ?_)); refine ybj rfl ?_ ?_ <;> (intro ht; rw [ht]; first | replace ht := of_decide_eq_true ht | replace ht := of_decide_eq_false ht | skip)) | (refine ych ?_; first | (refine ybw rfl ?_ ?_ <;> intro ht) | (refine ybx rfl ?_ ?_ <;> intro ht)))
  rename_i b2 b4 b6 hlex hl1 hl2
  refine cx_row 39 2 ?_
  refine cx_loop (X := Nat × Value) (fun y => [(4, .pointer (some ⟨b4, 0, none⟩)), (5, .int .i64 0), (6, .pointer (some ⟨b6, 0, none⟩)), (14, .slice ad srt.length cap), (15, .int .i64 srt.length), (16, .int .i64 y.1)]) (fun _ => h2)
    (fun y => [Res.row 39 2 y.2 (tfold u (srt.take y.1)).2.length ((tfold u (srt.take y.1)).2.flatMap dcs), Res.blk b6 (.cells (cxc (tfold u (srt.take y.1)).1 y.2).toArray 33 (0, 0)), Res.blk b4 (.cells (cxc zeroU (.slice none 0 0)).toArray 33 (0, 0))])
    (fun y => y.1 ≤ srt.length) (fun y => srt.length - y.1) (0, .slice none 0 0) (Nat.zero_le _) ts_ (fun _ s => st_left (B := [_]) s) ?_
  rintro ⟨k, v'⟩ hk
  replace hk : k ≤ srt.length := hk
  obtain ⟨t1, t2, t3, t4⟩ := tfold_ok hu hub hsr k hk
  by_cases hkl : k < srt.length
  · have eT := tfold_succ (u := u) hkl
    dsimp only
    generalize tfold u (srt.take k) = T at t1 t2 t3 t4 eT ⊢
    obtain ⟨u1, m1⟩ := T
    dsimp only at t1 t2 t3 t4 ⊢
    have hd := hsr srt[k] (List.getElem_mem _)
    have hdr := right_of hd
    obtain ⟨bs, o, rfl⟩ := hsv.ad (by omega) (by omega)
    have hel : ∀ L, Cells h2 L ⟨bs, o + k * 2, none⟩ (dcs srt[k]) := fun L => hsv.elem dcs_len k hkl
    have hgb := t2 (u1.getD (srt[k].1 - 1).toNat 0) (getD_mem (by omega))
    repeat' (first|(refine ycf ?_;apply ybk;(·first|(first|(apply yad;(·rfl);(·exact hel _);(·rfl))|(apply qv_nilCheck;rfl))|(apply yae;(·rfl);(·(first|exact ycl (yaz 2 rfl) (srt[k].1 - 1).toNat (by omega) (by omega)|exact yck (yaz 2 rfl) t1 rfl))));(·rfl);(·rfl))|(refine ybg 2 rfl rfl rfl rfl (fit_cxc (i := (srt[k].1 - 1).toNat) t1 (by omega) (by omega)) rfl (spl_cxc (i := (srt[k].1 - 1).toNat) (by omega) (by omega)) rfl rfl ?_ ?_ ?_;(·(exact to_));(·(exact to_)))|refine t1_ ?_|(refine ta_ ?_;intro _)|((fail_if_success (refine ybi rfl ?_));refine ybj rfl ?_ ?_<;>(intro ht;rw [ht];first|replace ht := of_decide_eq_true ht|replace ht := of_decide_eq_false ht|skip))|(refine ych ?_;first|(refine ybw rfl ?_ ?_<;>intro ht)|(refine ybx rfl ?_ ?_<;>intro ht)))
    · refine cx_region_draw' rfl (by kernel_rfl) ?_
      repeat' (refine ycf ?_;(first|(first|(apply ybm;(·(first|(first|(apply yad;(·rfl);(·exact hel _);(·rfl))|(apply qv_nilCheck;rfl))|(apply yae;(·rfl);(·(first|exact ycl (yaz 2 rfl) (srt[k].1 - 1).toNat (by omega) (by omega)|exact yck (yaz 2 rfl) t1 rfl)))|exact tq_));(·rfl);(·rfl);(·(exact th_)))|refine ybl rfl rfl ?_|((fail_if_success (refine ybi rfl ?_));refine ybj rfl ?_ ?_<;>(intro ht;rw [ht];first|replace ht := of_decide_eq_true ht|replace ht := of_decide_eq_false ht|skip))|(refine tb_ ?_ ?_ ?_;(·(exact to_));(·intro _;(exact to_));intro _)|(first|(refine ybg 2 rfl rfl rfl rfl (fit_cxc (i := (srt[k].1 - 1).toNat) t1 (by omega) (by omega)) rfl (spl_cxc (i := (srt[k].1 - 1).toNat) (by omega) (by omega)) rfl rfl ?_ ?_ ?_;(·(exact to_));(·(exact to_)))|(refine tqs_ ?_ ?_ ?_;(·(exact to_));(·(exact to_))))|(apply ybn;(·(first|(first|(apply yad;(·rfl);(·exact hel _);(·rfl))|(apply qv_nilCheck;rfl))|(apply yae;(·rfl);(·(first|exact ycl (yaz 2 rfl) (srt[k].1 - 1).toNat (by omega) (by omega)|exact yck (yaz 2 rfl) t1 rfl)))|exact tq_));(·rfl);(·rfl);(·rfl);(·(exact to_))))|refine ycg ?_))
      repeat' (first|(refine ycf ?_;apply ybk;(·first|(first|(apply yad;(·rfl);(·exact hel _);(·rfl))|(apply qv_nilCheck;rfl))|(apply yae;(·rfl);(·(first|exact ycl (yaz 2 rfl) (srt[k].1 - 1).toNat (by omega) (by omega)|exact yck (yaz 2 rfl) t1 rfl))));(·rfl);(·rfl))|(refine ybg 2 rfl rfl rfl rfl (fit_cxc (i := (srt[k].1 - 1).toNat) t1 (by omega) (by omega)) rfl (spl_cxc (i := (srt[k].1 - 1).toNat) (by omega) (by omega)) rfl rfl ?_ ?_ ?_;(·(exact to_));(·(exact to_)))|refine t1_ ?_|(refine ta_ ?_;intro _)|((fail_if_success (refine ybi rfl ?_));refine ybj rfl ?_ ?_<;>(intro ht;rw [ht];first|replace ht := of_decide_eq_true ht|replace ht := of_decide_eq_false ht|skip))|(refine ych ?_;first|(refine ybw rfl ?_ ?_<;>intro ht)|(refine ybx rfl ?_ ?_<;>intro ht)))
      · have e2 : tstep (u1, m1) srt[k] = (u1.set (srt[k].1 - 1).toNat (u1.getD (srt[k].1 - 1).toNat 0 + 1), m1) := by
          unfold tstep
          rw [if_pos ht, ht]
        refine nx_round (k + 1, v') (by show k + 1 ≤ _; omega) (by show srt.length - (k + 1) < srt.length - k; omega) ts_ (fun _ s => ?_)
        dsimp only
        rw [eT, e2]
        exact s.tl
      · have hne := ht
        refine cx_region_draw' rfl (by kernel_rfl) ?_
        repeat' (refine ycf ?_;(first|(first|(apply ybm;(·(first|(first|(apply yad;(·rfl);(·exact hel _);(·rfl))|(apply qv_nilCheck;rfl))|(apply yae;(·rfl);(·(first|exact ycl (yaz 2 rfl) (srt[k].1 - 1).toNat (by omega) (by omega)|exact yck (yaz 2 rfl) t1 rfl)))|exact tq_));(·rfl);(·rfl);(·(exact th_)))|refine ybl rfl rfl ?_|((fail_if_success (refine ybi rfl ?_));refine ybj rfl ?_ ?_<;>(intro ht;rw [ht];first|replace ht := of_decide_eq_true ht|replace ht := of_decide_eq_false ht|skip))|(refine tb_ ?_ ?_ ?_;(·(exact to_));(·intro _;(exact to_));intro _)|(first|(refine ybg 2 rfl rfl rfl rfl (fit_cxc (i := (srt[k].1 - 1).toNat) t1 (by omega) (by omega)) rfl (spl_cxc (i := (srt[k].1 - 1).toNat) (by omega) (by omega)) rfl rfl ?_ ?_ ?_;(·(exact to_));(·(exact to_)))|(refine tqs_ ?_ ?_ ?_;(·(exact to_));(·(exact to_))))|(apply ybn;(·(first|(first|(apply yad;(·rfl);(·exact hel _);(·rfl))|(apply qv_nilCheck;rfl))|(apply yae;(·rfl);(·(first|exact ycl (yaz 2 rfl) (srt[k].1 - 1).toNat (by omega) (by omega)|exact yck (yaz 2 rfl) t1 rfl)))|exact tq_));(·rfl);(·rfl);(·rfl);(·(exact to_))))|refine ycg ?_))
        · have hgt := ht
          (refine rx_call_lend (u := .bool (decide (srt[k] ∈ m1))) 1 (ycp Try.func85 rfl (by kernel_rfl) rfl) rfl (fun h' _ hsc => contains_sp v' m1 srt[k] h' hsc (by omega)) rfl rfl rfl ?_ ?_; (· (exact to_)))
          by_cases hin : srt[k] ∈ m1
          · have e2 : tstep (u1, m1) srt[k] = (u1, m1) := by
              unfold tstep
              rw [if_neg hne, if_neg (fun hx => hx.2 hin)]
            have ed : decide (srt[k] ∈ m1) = true := decide_eq_true hin
            rw [ed]
            repeat' (refine ycf ?_;(first|(first|(apply ybm;(·(first|(first|(apply yad;(·rfl);(·exact hel _);(·rfl))|(apply qv_nilCheck;rfl))|(apply yae;(·rfl);(·(first|exact ycl (yaz 2 rfl) (srt[k].1 - 1).toNat (by omega) (by omega)|exact yck (yaz 2 rfl) t1 rfl)))|exact tq_));(·rfl);(·rfl);(·(exact th_)))|refine ybl rfl rfl ?_|((fail_if_success (refine ybi rfl ?_));refine ybj rfl ?_ ?_<;>(intro ht;rw [ht];first|replace ht := of_decide_eq_true ht|replace ht := of_decide_eq_false ht|skip))|(refine tb_ ?_ ?_ ?_;(·(exact to_));(·intro _;(exact to_));intro _)|(first|(refine ybg 2 rfl rfl rfl rfl (fit_cxc (i := (srt[k].1 - 1).toNat) t1 (by omega) (by omega)) rfl (spl_cxc (i := (srt[k].1 - 1).toNat) (by omega) (by omega)) rfl rfl ?_ ?_ ?_;(·(exact to_));(·(exact to_)))|(refine tqs_ ?_ ?_ ?_;(·(exact to_));(·(exact to_))))|(apply ybn;(·(first|(first|(apply yad;(·rfl);(·exact hel _);(·rfl))|(apply qv_nilCheck;rfl))|(apply yae;(·rfl);(·(first|exact ycl (yaz 2 rfl) (srt[k].1 - 1).toNat (by omega) (by omega)|exact yck (yaz 2 rfl) t1 rfl)))|exact tq_));(·rfl);(·rfl);(·rfl);(·(exact to_))))|refine ycg ?_))
            repeat' (first|(refine ycf ?_;apply ybk;(·first|(first|(apply yad;(·rfl);(·exact hel _);(·rfl))|(apply qv_nilCheck;rfl))|(apply yae;(·rfl);(·(first|exact ycl (yaz 2 rfl) (srt[k].1 - 1).toNat (by omega) (by omega)|exact yck (yaz 2 rfl) t1 rfl))));(·rfl);(·rfl))|(refine ybg 2 rfl rfl rfl rfl (fit_cxc (i := (srt[k].1 - 1).toNat) t1 (by omega) (by omega)) rfl (spl_cxc (i := (srt[k].1 - 1).toNat) (by omega) (by omega)) rfl rfl ?_ ?_ ?_;(·(exact to_));(·(exact to_)))|refine t1_ ?_|(refine ta_ ?_;intro _)|((fail_if_success (refine ybi rfl ?_));refine ybj rfl ?_ ?_<;>(intro ht;rw [ht];first|replace ht := of_decide_eq_true ht|replace ht := of_decide_eq_false ht|skip))|(refine ych ?_;first|(refine ybw rfl ?_ ?_<;>intro ht)|(refine ybx rfl ?_ ?_<;>intro ht)))
            refine nx_round (k + 1, v') (by show k + 1 ≤ _; omega) (by show srt.length - (k + 1) < srt.length - k; omega) ts_ (fun _ s => ?_)
            dsimp only
            rw [eT, e2]
            exact s.tl
          · have e2 : tstep (u1, m1) srt[k] = (u1, m1 ++ [srt[k]]) := by
              unfold tstep
              rw [if_neg hne, if_pos ⟨hgt, hin⟩]
            have ed : decide (srt[k] ∈ m1) = false := decide_eq_false hin
            rw [ed]
            repeat' (refine ycf ?_;(first|(first|(apply ybm;(·(first|(first|(apply yad;(·rfl);(·exact hel _);(·rfl))|(apply qv_nilCheck;rfl))|(apply yae;(·rfl);(·(first|exact ycl (yaz 2 rfl) (srt[k].1 - 1).toNat (by omega) (by omega)|exact yck (yaz 2 rfl) t1 rfl)))|exact tq_));(·rfl);(·rfl);(·(exact th_)))|refine ybl rfl rfl ?_|((fail_if_success (refine ybi rfl ?_));refine ybj rfl ?_ ?_<;>(intro ht;rw [ht];first|replace ht := of_decide_eq_true ht|replace ht := of_decide_eq_false ht|skip))|(refine tb_ ?_ ?_ ?_;(·(exact to_));(·intro _;(exact to_));intro _)|(first|(refine ybg 2 rfl rfl rfl rfl (fit_cxc (i := (srt[k].1 - 1).toNat) t1 (by omega) (by omega)) rfl (spl_cxc (i := (srt[k].1 - 1).toNat) (by omega) (by omega)) rfl rfl ?_ ?_ ?_;(·(exact to_));(·(exact to_)))|(refine tqs_ ?_ ?_ ?_;(·(exact to_));(·(exact to_))))|(apply ybn;(·(first|(first|(apply yad;(·rfl);(·exact hel _);(·rfl))|(apply qv_nilCheck;rfl))|(apply yae;(·rfl);(·(first|exact ycl (yaz 2 rfl) (srt[k].1 - 1).toNat (by omega) (by omega)|exact yck (yaz 2 rfl) t1 rfl)))|exact tq_));(·rfl);(·rfl);(·rfl);(·(exact to_))))|refine ycg ?_))
            repeat' (first|(refine ycf ?_;apply ybk;(·first|(first|(apply yad;(·rfl);(·exact hel _);(·rfl))|(apply qv_nilCheck;rfl))|(apply yae;(·rfl);(·(first|exact ycl (yaz 2 rfl) (srt[k].1 - 1).toNat (by omega) (by omega)|exact yck (yaz 2 rfl) t1 rfl))));(·rfl);(·rfl))|(refine ybg 2 rfl rfl rfl rfl (fit_cxc (i := (srt[k].1 - 1).toNat) t1 (by omega) (by omega)) rfl (spl_cxc (i := (srt[k].1 - 1).toNat) (by omega) (by omega)) rfl rfl ?_ ?_ ?_;(·(exact to_));(·(exact to_)))|refine t1_ ?_|(refine ta_ ?_;intro _)|((fail_if_success (refine ybi rfl ?_));refine ybj rfl ?_ ?_<;>(intro ht;rw [ht];first|replace ht := of_decide_eq_true ht|replace ht := of_decide_eq_false ht|skip))|(refine ych ?_;first|(refine ybw rfl ?_ ?_<;>intro ht)|(refine ybx rfl ?_ ?_<;>intro ht)))
            refine rx_append (sz := 2) 2 rfl rfl rfl (yaz 0 rfl) rfl (one_dcs [srt[k]]) rfl (by omega) (by unfold maxLen; omega) (by omega) rfl rfl rfl ybf (fun _ => ybf) ?_
            intro v2 _
            refine rx_rowform 2 rfl (fun _ h0 _ => (by omega)) ?_
            rintro g2 cap2 rfl
            repeat' (first|(refine ycf ?_;apply ybk;(·first|(first|(apply yad;(·rfl);(·exact hel _);(·rfl))|(apply qv_nilCheck;rfl))|(apply yae;(·rfl);(·(first|exact ycl (yaz 2 rfl) (srt[k].1 - 1).toNat (by omega) (by omega)|exact yck (yaz 2 rfl) t1 rfl))));(·rfl);(·rfl))|(refine ybg 3 rfl rfl rfl rfl (fit_more t1) rfl (spl_more t1) rfl rfl ?_ ?_ ?_;(·(exact to_));(·(exact to_)))|refine t1_ ?_|(refine ta_ ?_;intro _)|((fail_if_success (refine ybi rfl ?_));refine ybj rfl ?_ ?_<;>(intro ht;rw [ht];first|replace ht := of_decide_eq_true ht|replace ht := of_decide_eq_false ht|skip))|(refine ych ?_;first|(refine ybw rfl ?_ ?_<;>intro ht)|(refine ybx rfl ?_ ?_<;>intro ht)))
            refine nx_round (k + 1, .slice (some ⟨g2, 0, none⟩) (m1.length + 1) cap2) (by show k + 1 ≤ _; omega) (by show srt.length - (k + 1) < srt.length - k; omega) ts_ (fun _ s => ?_)
            dsimp only
            rw [eT, e2]
            dsimp only
            rw [List.length_append, List.flatMap_append]
            exact s.tl.tl
        · have e2 : tstep (u1, m1) srt[k] = (u1, m1) := by
            unfold tstep
            rw [if_neg hne, if_neg (fun hx => ht hx.1)]
          repeat' (first|(refine ycf ?_;apply ybk;(·first|(first|(apply yad;(·rfl);(·exact hel _);(·rfl))|(apply qv_nilCheck;rfl))|(apply yae;(·rfl);(·(first|exact ycl (yaz 2 rfl) (srt[k].1 - 1).toNat (by omega) (by omega)|exact yck (yaz 2 rfl) t1 rfl))));(·rfl);(·rfl))|(refine ybg 3 rfl rfl rfl rfl (fit_more t1) rfl (spl_more t1) rfl rfl ?_ ?_ ?_;(·(exact to_));(·(exact to_)))|refine t1_ ?_|(refine ta_ ?_;intro _)|((fail_if_success (refine ybi rfl ?_));refine ybj rfl ?_ ?_<;>(intro ht;rw [ht];first|replace ht := of_decide_eq_true ht|replace ht := of_decide_eq_false ht|skip))|(refine ych ?_;first|(refine ybw rfl ?_ ?_<;>intro ht)|(refine ybx rfl ?_ ?_<;>intro ht)))
          refine nx_round (k + 1, v') (by show k + 1 ≤ _; omega) (by show srt.length - (k + 1) < srt.length - k; omega) ts_ (fun _ s => ?_)
          dsimp only
          rw [eT, e2]
          exact s.tl
    all_goals omega
  · have ek : k = srt.length := by omega
    subst ek
    dsimp only
    rw [List.take_length] at t1 t2 t3 t4 ⊢
    generalize hT : tfold u srt = T at t1 t2 t3 t4 ⊢
    obtain ⟨u1, m1⟩ := T
    dsimp only at t1 t2 t3 t4 ⊢
    refine cx_persist rfl fun h3 hle3 hsm => ?_
    replace hsm : Ds h3 v' m1 := hsm
    obtain ⟨_, ad2, cap2, rfl, _, _⟩ := id hsm
    repeat' (first | (refine ycf ?_; apply ybk; (· first | (apply yad; (· rfl); (· exact yaz 0 rfl); (· exact ycj t1)) | (apply yae; (· rfl); (· exact yck (yaz 0 rfl) t1 rfl))); (· rfl); (· rfl)) | (refine ybg 1 rfl rfl rfl (cxc_sz t1) (cxc_fit t1) (cxc_one rfl) (ybh (cxc_all t1)) rfl rfl ?_ ?_ ?_; (· (exact to_)); (· (exact to_))) | refine t1_ ?_ | (refine ta_ ?_; intro _) | ((fail_if_success (refine ybi rfl ?_)); refine ybj rfl ?_ ?_ <;> (intro ht; rw [ht]; first | replace ht := of_decide_eq_true ht | replace ht := of_decide_eq_false ht | skip)) | (refine ych ?_; first | (refine ybw rfl ?_ ?_ <;> intro ht) | (refine ybx rfl ?_ ?_ <;> intro ht)))
    · omega
    · refine nx_ret2 rfl (rv_cells rfl (yaz 1 rfl) rfl) (rv_tmp rfl) (fun w' s' => ⟨(h3, cxv zeroU (.slice none 0 0), srt, 11), rfl, s'.nil, hperm, hsorted, ?_⟩)
      rw [hT, if_pos (by show 32 < m1.length; omega)]
      exact ⟨rfl, rfl, _, rfl, Sc.nil h3 2 none 0⟩
    · refine nx_ret2 rfl (rv_cells rfl (yaz 1 rfl) (cxc_all t1)) (rv_tmp rfl) (fun w' s' => ⟨(h3, cxv u1 (.slice ad2 m1.length cap2), srt, 0), rfl, s'.nil, hperm, hsorted, ?_⟩)
      rw [hT, if_neg (by show ¬ 32 < m1.length; omega)]
      exact ⟨rfl, t1, _, rfl, hsm⟩
end Go.Proofs.Ytkkjppeaaicgaaa
end

section
namespace Go.Proofs.Ytkkjppeaaicgaaa
open Go Go.Ck
set_option maxRecDepth 100000
set_option maxHeartbeats 1000000
set_option linter.unusedVariables false

theorem Add_sp (cv : Value) (u : List Int) (l : List Dt) (d : Dt) (h : View) (hc : Cx h cv u l) (hl : l.length ≤ 100000) (w : World) (s : St ⟨w, h, []⟩ h [] w) :
    Calls Try.prog 40 [cv, dv d].toArray w fun e w' => ∃ x : View × Value × List Dt × Int, e = .returned (.tuple #[x.2.1, .int .i64 x.2.2.2]) ∧ St ⟨w, h, []⟩ x.1 [] w' ∧
      (if checkC u l ≠ 0 ∨ rightB d = false then x.2.2.2 = 1 ∧ Cx x.1 x.2.1 zeroU []
      else x.2.2.1.Perm (l ++ [d]) ∧ SortedD x.2.2.1 ∧
        (if 32 < (tfold u x.2.2.1).2.length then x.2.2.2 = 11 ∧ Cx x.1 x.2.1 zeroU [] else x.2.2.2 = 0 ∧ Cx x.1 x.2.1 (tfold u x.2.2.1).1 (tfold u x.2.2.1).2)) := by
  have hc' := hc
  obtain ⟨hu, mv, rfl, hs⟩ := hc
  have hchk := check_sp _ u l h hc' (by omega)
  have hright := right_sp d h
  refine calls_enter Try.func40 rfl Try.ntmps40 rfl s ?_
  repeat' (first | (refine ycf ?_; apply ybk; (· first | (first | (apply yad; (· rfl); (· exact yaz 2 rfl); (· exact ycj hu)) | (apply yad (vs := up u); (· rfl); (· exact ycm (yaz 2 rfl)); (· simp [up, hu])))); (· rfl); (· rfl)) | refine t1_ ?_ | (refine ta_ ?_; intro _) | ((fail_if_success (refine ybi rfl ?_)); refine ybj rfl ?_ ?_ <;> (intro ht; rw [ht]; first | replace ht := of_decide_eq_true ht | replace ht := of_decide_eq_false ht | skip)) | (refine ych ?_; first | (refine ybw rfl ?_ ?_ <;> intro ht) | (refine ybx rfl ?_ ?_ <;> intro ht)))
  (refine ycn (ycp Try.func41 rfl (by kernel_rfl) rfl) (hchk) rfl rfl rfl ?_ ?_; (· (exact to_)))
  repeat' (first | (refine ycf ?_; apply ybk; (· first | (first | (apply yad; (· rfl); (· exact yaz 2 rfl); (· exact ycj hu)) | (apply yad (vs := up u); (· rfl); (· exact ycm (yaz 2 rfl)); (· simp [up, hu])))); (· rfl); (· rfl)) | refine t1_ ?_ | (refine ta_ ?_; intro _) | ((fail_if_success (refine ybi rfl ?_)); refine ybj rfl ?_ ?_ <;> (intro ht; rw [ht]; first | replace ht := of_decide_eq_true ht | replace ht := of_decide_eq_false ht | skip)) | (refine ych ?_; first | (refine ybw rfl ?_ ?_ <;> intro ht) | (refine ybx rfl ?_ ?_ <;> intro ht)))
  · have hk := ht
    refine nx_ret2 rfl (rv_cells rfl (yaz 0 rfl) rfl) (rv_tmp rfl) (fun w' s' => ⟨(h, cxv zeroU (.slice none 0 0), [], 1), rfl, s'.nil, ?_⟩)
    rw [if_pos (.inl hk)]
    exact ⟨rfl, rfl, _, rfl, Sc.nil h 2 none 0⟩
  have hk : checkC u l = 0 := by omega
  cases hR : rightB d with
  | false =>
    rw [hR] at hright
    (refine ycn (ycp Try.func61 rfl (by kernel_rfl) rfl) (hright) rfl rfl rfl ?_ ?_; (· (exact to_)))
    repeat' (first | (refine ycf ?_; apply ybk; (· first | (first | (apply yad; (· rfl); (· exact yaz 2 rfl); (· exact ycj hu)) | (apply yad (vs := up u); (· rfl); (· exact ycm (yaz 2 rfl)); (· simp [up, hu])))); (· rfl); (· rfl)) | refine t1_ ?_ | (refine ta_ ?_; intro _) | ((fail_if_success (refine ybi rfl ?_)); refine ybj rfl ?_ ?_ <;> (intro ht; rw [ht]; first | replace ht := of_decide_eq_true ht | replace ht := of_decide_eq_false ht | skip)) | (refine ych ?_; first | (refine ybw rfl ?_ ?_ <;> intro ht) | (refine ybx rfl ?_ ?_ <;> intro ht)))
    refine nx_ret2 rfl (rv_cells rfl (yaz 0 rfl) rfl) (rv_tmp rfl) (fun w' s' => ⟨(h, cxv zeroU (.slice none 0 0), [], 1), rfl, s'.nil, ?_⟩)
    rw [if_pos (.inr rfl)]
    exact ⟨rfl, rfl, _, rfl, Sc.nil h 2 none 0⟩
  | true =>
    rw [hR] at hright
    obtain ⟨hub, _, hlr⟩ := check_right hk
    have hrr : ∀ x ∈ l ++ [d], rightB x = true := fun x hx => by
      rcases List.mem_append.1 hx with hx | hx
      · exact hlr x hx
      · rw [List.mem_singleton.1 hx]; exact hR
    (refine ycn (ycp Try.func61 rfl (by kernel_rfl) rfl) (hright) rfl rfl rfl ?_ ?_; (· (exact to_)))
    repeat' (first | (refine ycf ?_; apply ybk; (· first | (first | (apply yad; (· rfl); (· exact yaz 2 rfl); (· exact ycj hu)) | (apply yad (vs := up u); (· rfl); (· exact ycm (yaz 2 rfl)); (· simp [up, hu]))) | (apply yae; (· rfl); (· exact yck (yaz 2 rfl) hu rfl))); (· rfl); (· rfl)) | refine t1_ ?_ | (refine ta_ ?_; intro _) | ((fail_if_success (refine ybi rfl ?_)); refine ybj rfl ?_ ?_ <;> (intro ht; rw [ht]; first | replace ht := of_decide_eq_true ht | replace ht := of_decide_eq_false ht | skip)) | (refine ych ?_; first | (refine ybw rfl ?_ ?_ <;> intro ht) | (refine ybx rfl ?_ ?_ <;> intro ht)))
    refine cx_region_fork [0, 1, 2, 3, 5] 4 6 [7, 8, 9, 10, 11, 12] rfl (by kernel_rfl) ?_
    repeat' (refine ycf ?_;(first|(first|(apply ybm;(·(first|(first|(apply yad;(·rfl);(·exact yaz 2 rfl);(·exact ycj hu))|(apply yad (vs := up u);(·rfl);(·exact ycm (yaz 2 rfl));(·simp [up, hu])))|(apply yae;(·rfl);(·exact yck (yaz 2 rfl) hu rfl))|exact tq_));(·rfl);(·rfl);(·(exact th_)))|refine ybl rfl rfl ?_|((fail_if_success (refine ybi rfl ?_));refine ybj rfl ?_ ?_<;>(intro ht;rw [ht];first|replace ht := of_decide_eq_true ht|replace ht := of_decide_eq_false ht|skip))|(refine tb_ ?_ ?_ ?_;(·(exact to_));(·intro _;(exact to_));intro _)|(first|(refine tqs_ ?_ ?_ ?_;(·(exact to_));(·(exact to_))))|(apply ybn;(·(first|(first|(apply yad;(·rfl);(·exact yaz 2 rfl);(·exact ycj hu))|(apply yad (vs := up u);(·rfl);(·exact ycm (yaz 2 rfl));(·simp [up, hu])))|(apply yae;(·rfl);(·exact yck (yaz 2 rfl) hu rfl))|exact tq_));(·rfl);(·rfl);(·rfl);(·(exact to_))))|refine ycg ?_))
    refine nx_fork ?_ ?_
    · (refine yco (ycp Try.func63 rfl (by kernel_rfl) rfl) (clone_sp mv l h hs (by omega)) rfl rfl rfl ?_ ?_ ?_; (· (exact to_)); (· intro _ _ hle; (exact to_)); intro x px hle)
      repeat' (refine ycf ?_;(first|(first|(apply ybm;(·(first|(first|(apply yad;(·rfl);(·exact yaz 2 rfl);(·exact ycj hu))|(apply yad (vs := up u);(·rfl);(·exact ycm (yaz 2 rfl));(·simp [up, hu])))|(apply yae;(·rfl);(·exact yck (yaz 2 rfl) hu rfl))|exact tq_));(·rfl);(·rfl);(·(exact th_)))|refine ybl rfl rfl ?_|((fail_if_success (refine ybi rfl ?_));refine ybj rfl ?_ ?_<;>(intro ht;rw [ht];first|replace ht := of_decide_eq_true ht|replace ht := of_decide_eq_false ht|skip))|(refine tb_ ?_ ?_ ?_;(·(exact to_));(·intro _;(exact to_));intro _)|(first|(refine tqs_ ?_ ?_ ?_;(·(exact to_));(·(exact to_))))|(apply ybn;(·(first|(first|(apply yad;(·rfl);(·exact yaz 2 rfl);(·exact ycj hu))|(apply yad (vs := up u);(·rfl);(·exact ycm (yaz 2 rfl));(·simp [up, hu])))|(apply yae;(·rfl);(·exact yck (yaz 2 rfl) hu rfl))|exact tq_));(·rfl);(·rfl);(·rfl);(·(exact to_))))|refine ycg ?_))
      refine rx_append (sz := 2) 1 rfl rfl rfl (yaz 0 rfl) rfl (one_dcs [d]) rfl (by omega) (by unfold maxLen; omega) (by omega) rfl rfl rfl ?_ ?_ ?_
      · (exact to_)
      · intro v'; (exact to_)
      intro v2 _
      refine rx_perm (perm_at (k := 1) rfl) (rx_persist rfl fun h3 hle3 hs3 => ?_)
      have hs3' : Ds h3 v2 (l ++ [d]) := by
        unfold Ds
        rw [List.length_append, List.flatMap_append]
        exact hs3
      (refine yco (ycp Try.func62 rfl (by kernel_rfl) rfl) (tidy_sp u v2 (l ++ [d]) h3 hu hub hs3' hrr (by simp; omega)) rfl rfl rfl ?_ ?_ ?_; (· (exact to_)); (· intro _ _ hle; (exact to_)); intro x px hle)
      obtain ⟨h4, v4, srt, er⟩ := x
      replace hle : Le h3 h4 := hle
      obtain ⟨p1, p2, p3⟩ := px
      have hcx : ∃ u' m', Cx h4 v4 u' m' := by
        split at p3
        · exact ⟨_, _, p3.2⟩
        · exact ⟨_, _, p3.2⟩
      obtain ⟨u', m', hu', mv', rfl, hs'⟩ := hcx
      obtain ⟨_, ad', cap', rfl, _, _⟩ := id hs'
      repeat' (refine ycf ?_;(first|(first|(apply ybm;(·(first|(first|(apply yad;(·rfl);(·exact yaz 2 rfl);(·exact ycj hu))|(apply yad (vs := up u);(·rfl);(·exact ycm (yaz 2 rfl));(·simp [up, hu])))|(apply yae;(·rfl);(·exact yck (yaz 2 rfl) hu rfl))|exact tq_));(·rfl);(·rfl);(·(first|exact fun _ s => s|exact fun _ s => s.tl|exact fun _ s => s.tl.tl|exact fun _ s => Hd.sub s (Le.trans hle3 hle) (fun r hr => List.mem_cons_of_mem _ hr))))|refine ybl rfl rfl ?_|((fail_if_success (refine ybi rfl ?_));refine ybj rfl ?_ ?_<;>(intro ht;rw [ht];first|replace ht := of_decide_eq_true ht|replace ht := of_decide_eq_false ht|skip))|(refine tb_ ?_ ?_ ?_;(·(first|exact ybf|(refine .inl ?_;(first|exact fun _ s => s|exact fun _ s => s.tl|exact fun _ s => s.tl.tl|exact fun _ s => Hd.sub s (Le.trans hle3 hle) (fun r hr => List.mem_cons_of_mem _ hr)))|exact to_));(·intro _;(first|exact ybf|(refine .inl ?_;(first|exact fun _ s => s|exact fun _ s => s.tl|exact fun _ s => s.tl.tl|exact fun _ s => Hd.sub s (Le.trans hle3 hle) (fun r hr => List.mem_cons_of_mem _ hr)))|exact to_));intro _)|(first|(refine ybg 1 rfl rfl rfl (cxc_sz hu') (cxc_fit hu') (cxc_one rfl) (ybh (cxc_all hu')) rfl rfl ?_ ?_ ?_;(·(first|exact ybf|(refine .inl ?_;(first|exact fun _ s => s|exact fun _ s => s.tl|exact fun _ s => s.tl.tl|exact fun _ s => Hd.sub s (Le.trans hle3 hle) (fun r hr => List.mem_cons_of_mem _ hr)))|exact to_));(·(first|exact ybf|(refine .inl ?_;(first|exact fun _ s => s|exact fun _ s => s.tl|exact fun _ s => s.tl.tl|exact fun _ s => Hd.sub s (Le.trans hle3 hle) (fun r hr => List.mem_cons_of_mem _ hr)))|exact to_)))|(refine tqs_ ?_ ?_ ?_;(·(first|exact ybf|(refine .inl ?_;(first|exact fun _ s => s|exact fun _ s => s.tl|exact fun _ s => s.tl.tl|exact fun _ s => Hd.sub s (Le.trans hle3 hle) (fun r hr => List.mem_cons_of_mem _ hr)))|exact to_));(·(first|exact ybf|(refine .inl ?_;(first|exact fun _ s => s|exact fun _ s => s.tl|exact fun _ s => s.tl.tl|exact fun _ s => Hd.sub s (Le.trans hle3 hle) (fun r hr => List.mem_cons_of_mem _ hr)))|exact to_))))|(apply ybn;(·(first|(first|(apply yad;(·rfl);(·exact yaz 2 rfl);(·exact ycj hu))|(apply yad (vs := up u);(·rfl);(·exact ycm (yaz 2 rfl));(·simp [up, hu])))|(apply yae;(·rfl);(·exact yck (yaz 2 rfl) hu rfl))|exact tq_));(·rfl);(·rfl);(·rfl);(·(first|exact ybf|(refine .inl ?_;(first|exact fun _ s => s|exact fun _ s => s.tl|exact fun _ s => s.tl.tl|exact fun _ s => Hd.sub s (Le.trans hle3 hle) (fun r hr => List.mem_cons_of_mem _ hr)))|exact to_))))|refine ycg ?_))
      repeat' (first|(refine ycf ?_;apply ybk;(·first|(first|(apply yad;(·rfl);(·exact yaz 2 rfl);(·exact ycj hu))|(apply yad (vs := up u);(·rfl);(·exact ycm (yaz 2 rfl));(·simp [up, hu])))|(apply yae;(·rfl);(·exact yck (yaz 2 rfl) hu rfl)));(·rfl);(·rfl))|(refine ybg 1 rfl rfl rfl (cxc_sz hu') (cxc_fit hu') (cxc_one rfl) (ybh (cxc_all hu')) rfl rfl ?_ ?_ ?_;(·(first|exact ybf|(refine .inl ?_;(first|exact fun _ s => s|exact fun _ s => s.tl|exact fun _ s => s.tl.tl|exact fun _ s => Hd.sub s (Le.trans hle3 hle) (fun r hr => List.mem_cons_of_mem _ hr)))|exact to_));(·(first|exact ybf|(refine .inl ?_;(first|exact fun _ s => s|exact fun _ s => s.tl|exact fun _ s => s.tl.tl|exact fun _ s => Hd.sub s (Le.trans hle3 hle) (fun r hr => List.mem_cons_of_mem _ hr)))|exact to_)))|refine t1_ ?_|(refine ta_ ?_;intro _)|((fail_if_success (refine ybi rfl ?_));refine ybj rfl ?_ ?_<;>(intro ht;rw [ht];first|replace ht := of_decide_eq_true ht|replace ht := of_decide_eq_false ht|skip))|(refine ych ?_;first|(refine ybw rfl ?_ ?_<;>intro ht)|(refine ybx rfl ?_ ?_<;>intro ht)))
      refine nx_ret2 rfl (rv_cells rfl (yaz 1 rfl) (cxc_all hu')) (rv_tmp rfl) (fun w' s' => ⟨(h4, cxv u' (.slice ad' m'.length cap'), srt, er), rfl, s'.nil, ?_⟩)
      rw [if_neg (by simp [hk])]
      exact ⟨p1, p2, p3⟩
    · repeat' (refine ycf ?_;(first|(first|(apply ybm;(·(first|(first|(apply yad;(·rfl);(·exact yaz 2 rfl);(·exact ycj hu))|(apply yad (vs := up u);(·rfl);(·exact ycm (yaz 2 rfl));(·simp [up, hu])))|(apply yae;(·rfl);(·exact yck (yaz 2 rfl) hu rfl))|exact tq_));(·rfl);(·rfl);(·(first|exact fun _ s => s|exact fun _ s => s.tl|exact fun _ s => s.tl.tl|exact fun _ s => Hd.sub s (Le.trans hle3 hle) (fun r hr => List.mem_cons_of_mem _ hr))))|refine ybl rfl rfl ?_|((fail_if_success (refine ybi rfl ?_));refine ybj rfl ?_ ?_<;>(intro ht;rw [ht];first|replace ht := of_decide_eq_true ht|replace ht := of_decide_eq_false ht|skip))|(refine tb_ ?_ ?_ ?_;(·(first|exact ybf|(refine .inl ?_;(first|exact fun _ s => s|exact fun _ s => s.tl|exact fun _ s => s.tl.tl|exact fun _ s => Hd.sub s (Le.trans hle3 hle) (fun r hr => List.mem_cons_of_mem _ hr)))|exact to_));(·intro _;(first|exact ybf|(refine .inl ?_;(first|exact fun _ s => s|exact fun _ s => s.tl|exact fun _ s => s.tl.tl|exact fun _ s => Hd.sub s (Le.trans hle3 hle) (fun r hr => List.mem_cons_of_mem _ hr)))|exact to_));intro _)|(first|(refine ybg 1 rfl rfl rfl (cxc_sz hu') (cxc_fit hu') (cxc_one rfl) (ybh (cxc_all hu')) rfl rfl ?_ ?_ ?_;(·(first|exact ybf|(refine .inl ?_;(first|exact fun _ s => s|exact fun _ s => s.tl|exact fun _ s => s.tl.tl|exact fun _ s => Hd.sub s (Le.trans hle3 hle) (fun r hr => List.mem_cons_of_mem _ hr)))|exact to_));(·(first|exact ybf|(refine .inl ?_;(first|exact fun _ s => s|exact fun _ s => s.tl|exact fun _ s => s.tl.tl|exact fun _ s => Hd.sub s (Le.trans hle3 hle) (fun r hr => List.mem_cons_of_mem _ hr)))|exact to_)))|(refine tqs_ ?_ ?_ ?_;(·(first|exact ybf|(refine .inl ?_;(first|exact fun _ s => s|exact fun _ s => s.tl|exact fun _ s => s.tl.tl|exact fun _ s => Hd.sub s (Le.trans hle3 hle) (fun r hr => List.mem_cons_of_mem _ hr)))|exact to_));(·(first|exact ybf|(refine .inl ?_;(first|exact fun _ s => s|exact fun _ s => s.tl|exact fun _ s => s.tl.tl|exact fun _ s => Hd.sub s (Le.trans hle3 hle) (fun r hr => List.mem_cons_of_mem _ hr)))|exact to_))))|(apply ybn;(·(first|(first|(apply yad;(·rfl);(·exact yaz 2 rfl);(·exact ycj hu))|(apply yad (vs := up u);(·rfl);(·exact ycm (yaz 2 rfl));(·simp [up, hu])))|(apply yae;(·rfl);(·exact yck (yaz 2 rfl) hu rfl))|exact tq_));(·rfl);(·rfl);(·rfl);(·(first|exact ybf|(refine .inl ?_;(first|exact fun _ s => s|exact fun _ s => s.tl|exact fun _ s => s.tl.tl|exact fun _ s => Hd.sub s (Le.trans hle3 hle) (fun r hr => List.mem_cons_of_mem _ hr)))|exact to_))))|refine ycg ?_))
      (refine yco (ycp Try.func63 rfl (by kernel_rfl) rfl) (clone_sp mv l h hs (by omega)) rfl rfl rfl ?_ ?_ ?_; (· (first | exact ybf | (refine .inl ?_; (first | exact fun _ s => s | exact fun _ s => s.tl | exact fun _ s => s.tl.tl | exact fun _ s => Hd.sub s (Le.trans hle3 hle) (fun r hr => List.mem_cons_of_mem _ hr))) | exact to_)); (· intro _ _ hle; (first | exact ybf | (refine .inl ?_; (first | exact fun _ s => s | exact fun _ s => s.tl | exact fun _ s => s.tl.tl | exact fun _ s => Hd.sub s (Le.trans hle3 hle) (fun r hr => List.mem_cons_of_mem _ hr))) | exact to_)); intro x px hle)
      repeat' (refine ycf ?_;(first|(first|(apply ybm;(·(first|(first|(apply yad;(·rfl);(·exact yaz 2 rfl);(·exact ycj hu))|(apply yad (vs := up u);(·rfl);(·exact ycm (yaz 2 rfl));(·simp [up, hu])))|(apply yae;(·rfl);(·exact yck (yaz 2 rfl) hu rfl))|exact tq_));(·rfl);(·rfl);(·(first|exact fun _ s => s|exact fun _ s => s.tl|exact fun _ s => s.tl.tl|exact fun _ s => Hd.sub s (Le.trans hle3 hle) (fun r hr => List.mem_cons_of_mem _ hr))))|refine ybl rfl rfl ?_|((fail_if_success (refine ybi rfl ?_));refine ybj rfl ?_ ?_<;>(intro ht;rw [ht];first|replace ht := of_decide_eq_true ht|replace ht := of_decide_eq_false ht|skip))|(refine tb_ ?_ ?_ ?_;(·(first|exact ybf|(refine .inl ?_;(first|exact fun _ s => s|exact fun _ s => s.tl|exact fun _ s => s.tl.tl|exact fun _ s => Hd.sub s (Le.trans hle3 hle) (fun r hr => List.mem_cons_of_mem _ hr)))|exact to_));(·intro _;(first|exact ybf|(refine .inl ?_;(first|exact fun _ s => s|exact fun _ s => s.tl|exact fun _ s => s.tl.tl|exact fun _ s => Hd.sub s (Le.trans hle3 hle) (fun r hr => List.mem_cons_of_mem _ hr)))|exact to_));intro _)|(first|(refine ybg 1 rfl rfl rfl (cxc_sz hu') (cxc_fit hu') (cxc_one rfl) (ybh (cxc_all hu')) rfl rfl ?_ ?_ ?_;(·(first|exact ybf|(refine .inl ?_;(first|exact fun _ s => s|exact fun _ s => s.tl|exact fun _ s => s.tl.tl|exact fun _ s => Hd.sub s (Le.trans hle3 hle) (fun r hr => List.mem_cons_of_mem _ hr)))|exact to_));(·(first|exact ybf|(refine .inl ?_;(first|exact fun _ s => s|exact fun _ s => s.tl|exact fun _ s => s.tl.tl|exact fun _ s => Hd.sub s (Le.trans hle3 hle) (fun r hr => List.mem_cons_of_mem _ hr)))|exact to_)))|(refine tqs_ ?_ ?_ ?_;(·(first|exact ybf|(refine .inl ?_;(first|exact fun _ s => s|exact fun _ s => s.tl|exact fun _ s => s.tl.tl|exact fun _ s => Hd.sub s (Le.trans hle3 hle) (fun r hr => List.mem_cons_of_mem _ hr)))|exact to_));(·(first|exact ybf|(refine .inl ?_;(first|exact fun _ s => s|exact fun _ s => s.tl|exact fun _ s => s.tl.tl|exact fun _ s => Hd.sub s (Le.trans hle3 hle) (fun r hr => List.mem_cons_of_mem _ hr)))|exact to_))))|(apply ybn;(·(first|(first|(apply yad;(·rfl);(·exact yaz 2 rfl);(·exact ycj hu))|(apply yad (vs := up u);(·rfl);(·exact ycm (yaz 2 rfl));(·simp [up, hu])))|(apply yae;(·rfl);(·exact yck (yaz 2 rfl) hu rfl))|exact tq_));(·rfl);(·rfl);(·rfl);(·(first|exact ybf|(refine .inl ?_;(first|exact fun _ s => s|exact fun _ s => s.tl|exact fun _ s => s.tl.tl|exact fun _ s => Hd.sub s (Le.trans hle3 hle) (fun r hr => List.mem_cons_of_mem _ hr)))|exact to_))))|refine ycg ?_))
      refine rx_append (sz := 2) 0 rfl rfl rfl (yaz 1 rfl) rfl (one_dcs [d]) rfl (by omega) (by unfold maxLen; omega) (by omega) rfl rfl rfl ?_ ?_ ?_
      · (first | exact ybf | (refine .inl ?_; (first | exact fun _ s => s | exact fun _ s => s.tl | exact fun _ s => s.tl.tl | exact fun _ s => Hd.sub s (Le.trans hle3 hle) (fun r hr => List.mem_cons_of_mem _ hr))) | exact to_)
      · intro v'; (first | exact ybf | (refine .inl ?_; (first | exact fun _ s => s | exact fun _ s => s.tl | exact fun _ s => s.tl.tl | exact fun _ s => Hd.sub s (Le.trans hle3 hle) (fun r hr => List.mem_cons_of_mem _ hr))) | exact to_)
      intro v2 _
      refine rx_persist rfl fun h3 hle3 hs3 => ?_
      have hs3' : Ds h3 v2 (l ++ [d]) := by
        unfold Ds
        rw [List.length_append, List.flatMap_append]
        exact hs3
      (refine yco (ycp Try.func62 rfl (by kernel_rfl) rfl) (tidy_sp u v2 (l ++ [d]) h3 hu hub hs3' hrr (by simp; omega)) rfl rfl rfl ?_ ?_ ?_; (· (first | exact ybf | (refine .inl ?_; (first | exact fun _ s => s | exact fun _ s => s.tl | exact fun _ s => s.tl.tl | exact fun _ s => Hd.sub s (Le.trans hle3 hle) (fun r hr => List.mem_cons_of_mem _ hr))) | exact to_)); (· intro _ _ hle; (first | exact ybf | (refine .inl ?_; (first | exact fun _ s => s | exact fun _ s => s.tl | exact fun _ s => s.tl.tl | exact fun _ s => Hd.sub s (Le.trans hle3 hle) (fun r hr => List.mem_cons_of_mem _ hr))) | exact to_)); intro x px hle)
      obtain ⟨h4, v4, srt, er⟩ := x
      replace hle : Le h3 h4 := hle
      obtain ⟨p1, p2, p3⟩ := px
      have hcx : ∃ u' m', Cx h4 v4 u' m' := by
        split at p3
        · exact ⟨_, _, p3.2⟩
        · exact ⟨_, _, p3.2⟩
      obtain ⟨u', m', hu', mv', rfl, hs'⟩ := hcx
      obtain ⟨_, ad', cap', rfl, _, _⟩ := id hs'
      repeat' (refine ycf ?_;(first|(first|(apply ybm;(·(first|(first|(apply yad;(·rfl);(·exact yaz 2 rfl);(·exact ycj hu))|(apply yad (vs := up u);(·rfl);(·exact ycm (yaz 2 rfl));(·simp [up, hu])))|(apply yae;(·rfl);(·exact yck (yaz 2 rfl) hu rfl))|exact tq_));(·rfl);(·rfl);(·(first|exact fun _ s => s|exact fun _ s => s.tl|exact fun _ s => s.tl.tl|exact fun _ s => Hd.sub s (Le.trans hle3 hle) (fun r hr => List.mem_cons_of_mem _ hr))))|refine ybl rfl rfl ?_|((fail_if_success (refine ybi rfl ?_));refine ybj rfl ?_ ?_<;>(intro ht;rw [ht];first|replace ht := of_decide_eq_true ht|replace ht := of_decide_eq_false ht|skip))|(refine tb_ ?_ ?_ ?_;(·(first|exact ybf|(refine .inl ?_;(first|exact fun _ s => s|exact fun _ s => s.tl|exact fun _ s => s.tl.tl|exact fun _ s => Hd.sub s (Le.trans hle3 hle) (fun r hr => List.mem_cons_of_mem _ hr)))|exact to_));(·intro _;(first|exact ybf|(refine .inl ?_;(first|exact fun _ s => s|exact fun _ s => s.tl|exact fun _ s => s.tl.tl|exact fun _ s => Hd.sub s (Le.trans hle3 hle) (fun r hr => List.mem_cons_of_mem _ hr)))|exact to_));intro _)|(first|(refine ybg 1 rfl rfl rfl (cxc_sz hu') (cxc_fit hu') (cxc_one rfl) (ybh (cxc_all hu')) rfl rfl ?_ ?_ ?_;(·(first|exact ybf|(refine .inl ?_;(first|exact fun _ s => s|exact fun _ s => s.tl|exact fun _ s => s.tl.tl|exact fun _ s => Hd.sub s (Le.trans hle3 hle) (fun r hr => List.mem_cons_of_mem _ hr)))|exact to_));(·(first|exact ybf|(refine .inl ?_;(first|exact fun _ s => s|exact fun _ s => s.tl|exact fun _ s => s.tl.tl|exact fun _ s => Hd.sub s (Le.trans hle3 hle) (fun r hr => List.mem_cons_of_mem _ hr)))|exact to_)))|(refine tqs_ ?_ ?_ ?_;(·(first|exact ybf|(refine .inl ?_;(first|exact fun _ s => s|exact fun _ s => s.tl|exact fun _ s => s.tl.tl|exact fun _ s => Hd.sub s (Le.trans hle3 hle) (fun r hr => List.mem_cons_of_mem _ hr)))|exact to_));(·(first|exact ybf|(refine .inl ?_;(first|exact fun _ s => s|exact fun _ s => s.tl|exact fun _ s => s.tl.tl|exact fun _ s => Hd.sub s (Le.trans hle3 hle) (fun r hr => List.mem_cons_of_mem _ hr)))|exact to_))))|(apply ybn;(·(first|(first|(apply yad;(·rfl);(·exact yaz 2 rfl);(·exact ycj hu))|(apply yad (vs := up u);(·rfl);(·exact ycm (yaz 2 rfl));(·simp [up, hu])))|(apply yae;(·rfl);(·exact yck (yaz 2 rfl) hu rfl))|exact tq_));(·rfl);(·rfl);(·rfl);(·(first|exact ybf|(refine .inl ?_;(first|exact fun _ s => s|exact fun _ s => s.tl|exact fun _ s => s.tl.tl|exact fun _ s => Hd.sub s (Le.trans hle3 hle) (fun r hr => List.mem_cons_of_mem _ hr)))|exact to_))))|refine ycg ?_))
      repeat' (first|(refine ycf ?_;apply ybk;(·first|(first|(apply yad;(·rfl);(·exact yaz 2 rfl);(·exact ycj hu))|(apply yad (vs := up u);(·rfl);(·exact ycm (yaz 2 rfl));(·simp [up, hu])))|(apply yae;(·rfl);(·exact yck (yaz 2 rfl) hu rfl)));(·rfl);(·rfl))|(refine ybg 1 rfl rfl rfl (cxc_sz hu') (cxc_fit hu') (cxc_one rfl) (ybh (cxc_all hu')) rfl rfl ?_ ?_ ?_;(·(first|exact ybf|(refine .inl ?_;(first|exact fun _ s => s|exact fun _ s => s.tl|exact fun _ s => s.tl.tl|exact fun _ s => Hd.sub s (Le.trans hle3 hle) (fun r hr => List.mem_cons_of_mem _ hr)))|exact to_));(·(first|exact ybf|(refine .inl ?_;(first|exact fun _ s => s|exact fun _ s => s.tl|exact fun _ s => s.tl.tl|exact fun _ s => Hd.sub s (Le.trans hle3 hle) (fun r hr => List.mem_cons_of_mem _ hr)))|exact to_)))|refine t1_ ?_|(refine ta_ ?_;intro _)|((fail_if_success (refine ybi rfl ?_));refine ybj rfl ?_ ?_<;>(intro ht;rw [ht];first|replace ht := of_decide_eq_true ht|replace ht := of_decide_eq_false ht|skip))|(refine ych ?_;first|(refine ybw rfl ?_ ?_<;>intro ht)|(refine ybx rfl ?_ ?_<;>intro ht)))
      refine nx_ret2 rfl (rv_cells rfl (yaz 1 rfl) (cxc_all hu')) (rv_tmp rfl) (fun w' s' => ⟨(h4, cxv u' (.slice ad' m'.length cap'), srt, er), rfl, s'.nil, ?_⟩)
      rw [if_neg (by simp [hk])]
      exact ⟨p1, p2, p3⟩
end Go.Proofs.Ytkkjppeaaicgaaa
end

section
namespace Go.Proofs.Ytkkjppeaaicgaaa
open Go Go.Ck
set_option maxRecDepth 100000
set_option maxHeartbeats 1000000
set_option linter.unusedVariables false

theorem qv_min {P : Program} {n : Nat} {F : List (Nat × Value)} {h : View} {L : List Res} {dst : Option Nat} {ty : Nat} {pos : String} {af : Array Edge} {gd : Option (Nat × Bool)} {ts : Array TypeId} {x y : Operand} {k : IntKind} {i j : Int} (hx : ev F x = some (.int k i)) (hy : ev F y = some (.int k j)) :
    QV P n F h L ⟨dst, .call ⟨.builtin .min, #[x, y], ts⟩, ty, pos, af, gd⟩ (.int k (if j < i then j else i)) := .mk fun a w f s => by
  simp [execOp, resolve, invoke, builtin, Builtin.min_, f.ev hx, f.ev hy, Builtin.min2]

theorem qv_min' {P : Program} {n : Nat} {F : List (Nat × Value)} {h : View} {L : List Res} {dst : Option Nat} {ty : Nat} {pos : String} {af : Array Edge} {gd : Option (Nat × Bool)} {ts : Array TypeId} {x y : Operand} {k : IntKind} {i j r : Int} (hx : ev F x = some (.int k i)) (hy : ev F y = some (.int k j)) (hr : (if j < i then j else i) = r) :
    QV P n F h L ⟨dst, .call ⟨.builtin .min, #[x, y], ts⟩, ty, pos, af, gd⟩ (.int k r) := by subst hr; exact qv_min hx hy
theorem sc_take {h : View} {k m cap j : Nat} {ad : Option Addr} {xs : List Value} (s : Sc h k (.slice ad m cap) m xs) (hj : j ≤ m) : Sc h k (.slice ad j cap) j (xs.take (j * k)) := by
  obtain ⟨h1, ad', cap', h2, h3, h4⟩ := s
  cases h2
  refine ⟨?_, ad, cap, rfl, by omega, ?_⟩
  · rw [List.length_take, h1]
    exact Nat.min_eq_left (Nat.mul_le_mul_right k hj)
  · rcases h4 with rfl | ⟨b, o, cs, e, fz, q1, q2, q3⟩
    · exact .inl (by simp)
    · refine .inr ⟨b, o, cs, e, fz, q1, q2, fun i u hi => q3 i u ?_⟩
      rw [List.getElem?_take] at hi
      split at hi
      · exact hi
      · cases hi
theorem flat_take {l : List Dt} : ∀ {j : Nat}, (l.flatMap dcs).take (j * 2) = (l.take j).flatMap dcs := by
  induction l with
  | nil => intro j; simp
  | cons d l ih =>
    intro j
    cases j with
    | zero => simp
    | succ j =>
      have : (j + 1) * 2 = (dcs d).length + j * 2 := by rw [dcs_len]; omega
      rw [this]
      simp only [List.flatMap_cons, List.take_succ_cons, List.take_length_add_append, ih]

theorem fill2 {u : List Int} {ad : Option Addr} {m c : Nat} (hu : u.length = 16) : fillL (fun i : Nat => ([(0, 16), (16, 1)] : List (Nat × Nat))[i]?) (up zeroU ++ [.slice none 0 0]) [(0, .agg (up u).toArray), (1, .slice ad m c)] = some (cxc u (.slice ad m c)) := by
  obtain ⟨a0, a1, a2, a3, a4, a5, a6, a7, a8, a9, a10, a11, a12, a13, a14, a15, rfl⟩ := list16 u hu
  rfl

end Go.Proofs.Ytkkjppeaaicgaaa
end

section
namespace Go.Proofs.Ytkkjppeaaicgaaa
open Go Go.Ck Go.Shelf
set_option maxRecDepth 100000
set_option maxHeartbeats 1000000
set_option linter.unusedVariables false

theorem sorted_uniq {l m k : List Dt} (h1 : l.Perm k) (h2 : SortedD l) (h3 : m.Perm k) (h4 : SortedD m) : l = m := by
  refine List.Perm.eq_of_pairwise (le := fun x y => ¬ ordD y x < 0) (fun a b _ _ h5 h6 => ?_) h2 h4 (h1.trans h3.symm)
  have e1 := ord_lt b a
  have e2 := ord_lt a b
  unfold ltOf at e1 e2
  rw [decide_eq_decide] at e1 e2
  obtain ⟨a1, a2⟩ := a
  obtain ⟨b1, b2⟩ := b
  simp only at e1 e2 h5 h6
  have : a1 = b1 ∧ a2 = b2 := by omega
  rw [this.1, this.2]

end Go.Proofs.Ytkkjppeaaicgaaa
end

section
namespace Go.Proofs.Ytkkjppeaaicgaaa
open Go Go.Ck Go.Shelf
set_option maxRecDepth 100000
set_option maxHeartbeats 1000000
set_option linter.unusedVariables false

theorem cxc_fit' {u v : List Int} {x y : Value} (hu : u.length = 16) (hv : v.length = 16) : 0 + (Value.agg (cxc u x).toArray).cells.size ≤ (cxv v y).cells.size := by
  have h1 := cxc_sz (x := x) hu
  have h2 : (cxv v y).cells.size = 17 := cxc_sz hv
  omega
theorem cxc_all' {u v : List Int} {x y : Value} (hu : u.length = 16) (hv : v.length = 16) : (Value.agg (cxc u x).toArray).cells.toList.length = (cxv v y).cells.toList.length := by
  have h1 := cxc_all (x := x) hu
  have h2 : (cxv v y).cells.toList.length = 17 := cxc_all hv
  omega

theorem rem_fact (m : Int) : ∃ r, IntKind.i64.wrap ((IntKind.u64.wrap m).tmod 1000) = r ∧ 0 ≤ r ∧ r < 1000 := by
  refine ⟨_, rfl, ?_⟩
  have h1 : 0 ≤ IntKind.u64.wrap m := by
    simp only [IntKind.wrap, IntKind.bits, IntKind.signed]
    simp
    omega
  rw [Int.tmod_eq_emod_of_nonneg h1]
  generalize IntKind.u64.wrap m = x at h1
  simp only [IntKind.wrap, IntKind.bits, IntKind.signed]
  simp
  omega

theorem more_at {u : List Int} {l : List Dt} (hk : checkC u l = 0) {i : Nat} (hi : i < l.length) : uD u l[i] + 1 < l[i].2 ∧ (∀ (hj : i ≠ 0), ordD l[i - 1] l[i] < 0) := by
  unfold checkC at hk
  split at hk
  · cases hk
  split at hk
  · cases hk
  split at hk
  · cases hk
  · rename_i _ _ h3
    have h3 : moresOk u l = true := by simpa using h3
    have := List.all_eq_true.1 h3 i (List.mem_range.2 hi)
    simp only [moreB, Bool.and_eq_true, Bool.or_eq_true, decide_eq_true_iff] at this
    have e1 : l.getD i (0, 0) = l[i] := by simp [hi]
    have e2 : l.getD (i - 1) (0, 0) = l[i - 1] := by simp [show i - 1 < l.length by omega]
    rw [e1, e2] at this
    exact ⟨this.1.2, fun hj => this.2.resolve_left hj⟩
theorem ord_iff {x y : Dt} : ordD x y < 0 ↔ (x.1 < y.1 ∨ x.1 = y.1 ∧ x.2 < y.2) := by
  have := ord_lt x y
  unfold ltOf at this
  rwa [decide_eq_decide] at this
theorem more_sorted {u : List Int} {l : List Dt} (hk : checkC u l = 0) : ∀ (j i : Nat) (hj : j < l.length) (hij : i < j), ordD l[i] l[j] < 0 := by
  intro j
  induction j with
  | zero => intro i _ h; omega
  | succ j ih =>
    intro i hj hij
    have h1 := (more_at hk hj).2 (by omega)
    simp only [Nat.add_sub_cancel] at h1
    by_cases e : i = j
    · subst e; exact h1
    · have h2 := ih i (by omega) (by omega)
      rw [ord_iff] at h1 h2 ⊢
      omega
theorem lastN_max {u : List Int} {l : List Dt} (hk : checkC u l = 0) (c : Int) : u.getD (c - 1).toNat 0 ≤ lastN u l c ∧ (∀ d ∈ l, d.1 = c → d.2 ≤ lastN u l c) ∧ (lastN u l c ≤ u.getD (c - 1).toNat 0 ∨ (c, lastN u l c) ∈ l) := by
  have key : ∀ k, k ≤ l.length → u.getD (c - 1).toNat 0 ≤ lastN u (l.take k) c ∧ (∀ i (hi : i < l.length), i < k → l[i].1 = c → l[i].2 ≤ lastN u (l.take k) c) ∧ (lastN u (l.take k) c ≤ u.getD (c - 1).toNat 0 ∨ ∃ (i : Nat) (hi : i < l.length), i < k ∧ l[i] = (c, lastN u (l.take k) c)) := by
    intro k
    induction k with
    | zero => intro _; exact ⟨by simp [lastN], fun i hi h => by omega, .inl (by simp [lastN])⟩
    | succ k ih =>
      intro hkl
      obtain ⟨a1, a2, a3⟩ := ih (by omega)
      have hk1 : k < l.length := by omega
      rw [lastN_take hk1]
      by_cases hc : l[k].1 = c
      · rw [if_pos hc]
        have hu := (more_at hk hk1).1
        unfold uD at hu
        rw [hc] at hu
        refine ⟨by omega, fun i hi hik hic => ?_, .inr ⟨k, hk1, by omega, by rw [← hc]⟩⟩
        by_cases e : i = k
        · subst e; exact Int.le_refl _
        · have := ord_iff.1 (more_sorted hk k i hk1 (by omega))
          rw [hic, hc] at this
          omega
      · rw [if_neg hc]
        refine ⟨a1, fun i hi hik hic => ?_, ?_⟩
        · by_cases e : i = k
          · subst e; exact absurd hic hc
          · exact a2 i hi (by omega) hic
        · rcases a3 with h | ⟨i, hi, h1, h2⟩
          · exact .inl h
          · exact .inr ⟨i, hi, by omega, h2⟩
  have := key l.length (Nat.le_refl _)
  rw [List.take_length] at this
  obtain ⟨a1, a2, a3⟩ := this
  refine ⟨a1, fun d hd hdc => ?_, ?_⟩
  · obtain ⟨i, hi, rfl⟩ := List.getElem_of_mem hd
    exact a2 i hi hi hdc
  · rcases a3 with h | ⟨i, hi, _, h⟩
    · exact .inl h
    · exact .inr (by rw [← h]; exact List.getElem_mem hi)

theorem next_facts (u : List Int) (l : List Dt) (c : Int) : (nextC u l c).2 = 0 → 1 ≤ (nextC u l c).1 ∧ (nextC u l c).1 ≤ 1099511627776 ∧
    (∀ k, (nextC u l c).1 ≤ k → (decide (checkC u l = 0) && rightB (c, k) && hasC u l (c, k)) = false) ∧ ((nextC u l c).1 ≠ 1 → (decide (checkC u l = 0) && rightB (c, (nextC u l c).1 - 1) && hasC u l (c, (nextC u l c).1 - 1)) = true) := by
  intro h0
  have hN : checkC u l = 0 ∧ 1 ≤ c ∧ c ≤ 16 ∧ lastN u l c ≠ 1099511627776 ∧ nextC u l c = (lastN u l c + 1, 0) := by
    unfold nextC at h0 ⊢
    by_cases g1 : checkC u l ≠ 0 ∨ c < 1 ∨ 16 < c
    · rw [if_pos g1] at h0; cases h0
    · rw [if_neg g1] at h0 ⊢
      by_cases g2 : lastN u l c = 1099511627776
      · rw [if_pos g2] at h0; cases h0
      · rw [if_neg g2]
        exact ⟨by omega, by omega, by omega, g2, rfl⟩
  obtain ⟨hk, hc1, hc2, hf, he⟩ := hN
  rw [he]
  dsimp only
  obtain ⟨q1, q2, q3⟩ := check_right hk
  have hb := lastN_bd (c := c) q1 l q3
  have hmax := lastN_max hk c
  refine ⟨by omega, by omega, fun k hk2 => ?_, fun hn => ?_⟩
  · have : hasC u l (c, k) = false := by
      unfold hasC uD
      simp only [Bool.or_eq_false_iff, decide_eq_false_iff_not]
      refine ⟨by have := hmax.1; omega, fun hm => ?_⟩
      have := hmax.2.1 (c, k) hm rfl
      simp only at this
      omega
    rw [this, Bool.and_false]
  · have e1 : lastN u l c + 1 - 1 = lastN u l c := by omega
    rw [e1]
    have h1 : rightB (c, lastN u l c) = true := by simp [rightB]; omega
    have h2 : hasC u l (c, lastN u l c) = true := by
      unfold hasC uD
      simp only [Bool.or_eq_true, decide_eq_true_iff]
      rcases hmax.2.2 with h | h
      · exact .inl (by omega)
      · exact .inr h
    simp [hk, h1, h2]

end Go.Proofs.Ytkkjppeaaicgaaa
end

section
namespace Go.Proofs.Ytkkjppeaaicgaaa
open Go Go.Ck Go.Shelf
set_option maxRecDepth 100000
set_option maxHeartbeats 1000000
set_option linter.unusedVariables false

theorem uD_set {u : List Int} {d e : Dt} {x : Int} (hu : u.length = 16) (hd : rightB d = true) (he : rightB e = true) : uD (u.set (d.1 - 1).toNat x) e = if e.1 = d.1 then x else uD u e := by
  have h1 := right_of hd
  have h2 := right_of he
  unfold uD
  by_cases h : e.1 = d.1
  · rw [if_pos h, h, List.getD_eq_getElem?_getD, List.getElem?_set_self (by omega)]
    rfl
  · rw [if_neg h, List.getD_eq_getElem?_getD, List.getElem?_set_ne (by omega), ← List.getD_eq_getElem?_getD]

theorem tstep_eq (u : List Int) (out : List Dt) (d : Dt) : tstep (u, out) d = if d.2 = uD u d + 1 then (u.set (d.1 - 1).toNat d.2, out) else if uD u d < d.2 ∧ d ∉ out then (u, out ++ [d]) else (u, out) := rfl
structure Inv (u : List Int) (out : List Dt) : Prop where
  len : u.length = 16
  bd : ∀ x ∈ u, 0 ≤ x ∧ x ≤ 1099511627776
  mor : ∀ e ∈ out, rightB e = true ∧ uD u e + 1 < e.2
  srt : out.Pairwise fun x y => ordD x y < 0

theorem ord_none {x y : Dt} (h1 : ¬ ordD x y < 0) (h2 : ¬ ordD y x < 0) : x = y := by
  rw [ord_iff] at h1 h2
  obtain ⟨a, b⟩ := x
  obtain ⟨c, d⟩ := y
  simp only at h1 h2
  have : a = c ∧ b = d := by omega
  rw [this.1, this.2]

theorem fold_inv : ∀ (rest : List Dt) (u : List Int) (out : List Dt), Inv u out → (∀ e ∈ out, ∀ x ∈ rest, ¬ ordD x e < 0) → SortedD rest → (∀ d ∈ rest, rightB d = true) →
    Inv (rest.foldl tstep (u, out)).1 (rest.foldl tstep (u, out)).2 ∧ ∀ x, rightB x = true → hasC (rest.foldl tstep (u, out)).1 (rest.foldl tstep (u, out)).2 x = (hasC u out x || decide (x ∈ rest)) := by
  intro rest
  induction rest with
  | nil => intro u out hi _ _ _; exact ⟨hi, fun x _ => by simp⟩
  | cons d rest ih =>
    intro u out hi hbef hsrt hr
    have hdr := hr d (by simp)
    have hd4 := right_of hdr
    have hs2 : SortedD rest := (List.pairwise_cons.1 hsrt).2
    have hs1 := (List.pairwise_cons.1 hsrt).1
    have hr2 : ∀ x ∈ rest, rightB x = true := fun x hx => hr x (List.mem_cons_of_mem _ hx)
    rw [List.foldl_cons]
    by_cases c1 : d.2 = uD u d + 1
    · have e1 : tstep (u, out) d = (u.set (d.1 - 1).toNat d.2, out) := by
        rw [tstep_eq, if_pos c1]
      rw [e1]
      have hnot : ∀ e ∈ out, e.1 ≠ d.1 := fun e he hc => by
        have h1 := hbef e he d (by simp)
        have h2 := (hi.mor e he).2
        rw [ord_iff] at h1
        have : uD u e = uD u d := by unfold uD; rw [hc]
        omega
      obtain ⟨g1, g2⟩ := ih (u.set (d.1 - 1).toNat d.2) out ⟨by simpa using hi.len, fun x hx => by
          rcases List.mem_or_eq_of_mem_set hx with hx | rfl
          · exact hi.bd x hx
          · omega, fun e he => ⟨(hi.mor e he).1, by
          rw [uD_set hi.len hdr (hi.mor e he).1, if_neg (hnot e he)]
          exact (hi.mor e he).2⟩, hi.srt⟩ (fun e he x hx => hbef e he x (List.mem_cons_of_mem _ hx)) hs2 hr2
      refine ⟨g1, fun x hx => ?_⟩
      rw [g2 x hx]
      have e2 : hasC (u.set (d.1 - 1).toNat d.2) out x = (hasC u out x || decide (x = d)) := by
        unfold hasC
        rw [uD_set hi.len hdr hx]
        by_cases hc : x.1 = d.1
        · rw [if_pos hc]
          have : uD u x = uD u d := by unfold uD; rw [hc]
          rw [this]
          have e3 : (x = d) ↔ x.2 = d.2 := ⟨fun h => by rw [h], fun h => Prod.ext hc h⟩
          have e4 : decide (x = d) = decide (x.2 = d.2) := by simp only [e3]
          rw [e4]
          have e5 : decide (x.2 ≤ d.2) = (decide (x.2 ≤ uD u d) || decide (x.2 = d.2)) := by
            rw [← Bool.decide_or, decide_eq_decide]; omega
          rw [e5]
          cases decide (x.2 ≤ uD u d) <;> cases decide (x.2 = d.2) <;> cases decide (x ∈ out) <;> rfl
        · rw [if_neg hc]
          have : decide (x = d) = false := decide_eq_false fun h => hc (by rw [h])
          rw [this, Bool.or_false]
      rw [e2]
      have e6 : decide (x ∈ d :: rest) = (decide (x = d) || decide (x ∈ rest)) := by
        rw [← Bool.decide_or, decide_eq_decide, List.mem_cons]
      rw [e6, Bool.or_assoc]
    · have e6 : ∀ x, decide (x ∈ d :: rest) = (decide (x = d) || decide (x ∈ rest)) := fun x => by
        rw [← Bool.decide_or, decide_eq_decide, List.mem_cons]
      by_cases c2 : uD u d < d.2 ∧ d ∉ out
      · have e1 : tstep (u, out) d = (u, out ++ [d]) := by
          rw [tstep_eq, if_neg c1, if_pos c2]
        rw [e1]
        obtain ⟨g1, g2⟩ := ih u (out ++ [d]) ⟨hi.len, hi.bd, fun e he => by
            rcases List.mem_append.1 he with he | he
            · exact hi.mor e he
            · rw [List.mem_singleton.1 he]
              exact ⟨hdr, by omega⟩, by
            refine List.pairwise_append.2 ⟨hi.srt, by simp, fun e he x hx => ?_⟩
            rw [List.mem_singleton.1 hx]
            have h1 := hbef e he d (by simp)
            refine Decidable.byContradiction fun h2 => c2.2 ?_
            rw [ord_none h1 h2]; exact he⟩ (fun e he x hx => by
            rcases List.mem_append.1 he with he | he
            · exact hbef e he x (List.mem_cons_of_mem _ hx)
            · rw [List.mem_singleton.1 he]
              exact hs1 x hx) hs2 hr2
        refine ⟨g1, fun x hx => ?_⟩
        rw [g2 x hx, e6]
        have e2 : hasC u (out ++ [d]) x = (hasC u out x || decide (x = d)) := by
          unfold hasC
          have : decide (x ∈ out ++ [d]) = (decide (x ∈ out) || decide (x = d)) := by
            rw [← Bool.decide_or, decide_eq_decide, List.mem_append, List.mem_singleton]
          rw [this, Bool.or_assoc]
        rw [e2, Bool.or_assoc]
      · have e1 : tstep (u, out) d = (u, out) := by
          rw [tstep_eq, if_neg c1, if_neg c2]
        rw [e1]
        obtain ⟨g1, g2⟩ := ih u out hi (fun e he x hx => hbef e he x (List.mem_cons_of_mem _ hx)) hs2 hr2
        refine ⟨g1, fun x hx => ?_⟩
        rw [g2 x hx, e6]
        have hd2 : hasC u out d = true := by
          unfold hasC
          rw [Bool.or_eq_true, decide_eq_true_iff, decide_eq_true_iff]
          by_cases h : d ∈ out
          · exact .inr h
          · refine .inl ?_
            have : ¬ uD u d < d.2 := fun h1 => c2 ⟨h1, h⟩
            omega
        by_cases hxd : x = d
        · rw [hxd, hd2]; rfl
        · rw [decide_eq_false hxd, Bool.false_or]

theorem check_inv {u : List Int} {l : List Dt} (hi : Inv u l) (hl : l.length ≤ 32) : checkC u l = 0 := by
  have h1 : upOk u = true := upOk_iff.2 hi.bd
  have h2 : moresOk u l = true := List.all_eq_true.2 fun i hi' => by
    have hil : i < l.length := List.mem_range.1 hi'
    have e1 : l.getD i (0, 0) = l[i] := by simp [hil]
    have e2 : i ≠ 0 → l.getD (i - 1) (0, 0) = l[i - 1] := fun h => by simp [show i - 1 < l.length by omega]
    unfold moreB
    simp only [Bool.and_eq_true, Bool.or_eq_true, decide_eq_true_iff]
    rw [e1]
    refine ⟨⟨(hi.mor _ (List.getElem_mem hil)).1, (hi.mor _ (List.getElem_mem hil)).2⟩, ?_⟩
    by_cases h0 : i = 0
    · exact .inl h0
    · right
      rw [e2 h0]
      exact List.pairwise_iff_getElem.1 hi.srt (i - 1) i (by omega) hil (by omega)
  unfold checkC
  rw [if_neg (by simp [h1]), if_neg (by omega), if_neg (by simp [h2])]

theorem inv_check {u : List Int} {l : List Dt} (hu : u.length = 16) (hk : checkC u l = 0) : Inv u l := by
  obtain ⟨h1, _, h3⟩ := check_right hk
  refine ⟨hu, h1, fun e he => ⟨h3 e he, ?_⟩, ?_⟩
  · obtain ⟨i, hi, rfl⟩ := List.getElem_of_mem he
    exact (more_at hk hi).1
  · refine List.pairwise_iff_getElem.2 fun i j hi hj hij => more_sorted hk j i hj hij

theorem up_le {u v : List Int} {l m : List Dt} (h1 : Inv u l) (h2 : Inv v m) (hs : ∀ x, rightB x = true → hasC v m x = true → hasC u l x = true) (i : Nat) (hi : i < 16) : v.getD i 0 ≤ u.getD i 0 := by
  refine Decidable.byContradiction fun hlt => ?_
  have b1 := h1.bd (u.getD i 0) (getD_mem (by have := h1.len; omega))
  have b2 := h2.bd (v.getD i 0) (getD_mem (by have := h2.len; omega))
  have hr : rightB ((i : Int) + 1, u.getD i 0 + 1) = true := by
    generalize u.getD i 0 = x at b1 hlt
    simp [rightB]; omega
  have eu : ∀ w : List Int, uD w ((i : Int) + 1, u.getD i 0 + 1) = w.getD i 0 := fun w => by
    unfold uD
    show w.getD ((i : Int) + 1 - 1).toNat 0 = _
    rw [show ((i : Int) + 1 - 1).toNat = i by omega]
  have e2 : hasC v m ((i : Int) + 1, u.getD i 0 + 1) = true := by
    unfold hasC
    rw [eu, decide_eq_true (by show u.getD i 0 + 1 ≤ _; omega)]; rfl
  have e1 := hs _ hr e2
  unfold hasC at e1
  rw [eu, decide_eq_false (by show ¬ u.getD i 0 + 1 ≤ _; omega), Bool.false_or, decide_eq_true_iff] at e1
  have := (h1.mor _ e1).2
  rw [eu] at this
  exact absurd this (by show ¬ u.getD i 0 + 1 < u.getD i 0 + 1; omega)

theorem ctx_uniq {u v : List Int} {l m : List Dt} (h1 : Inv u l) (h2 : Inv v m) (hs : ∀ x, rightB x = true → hasC u l x = hasC v m x) : u = v ∧ l = m := by
  have hu := h1.len
  have hv := h2.len
  have e : u = v := by
    refine List.ext_getElem (by omega) fun i hi hj => ?_
    have a1 := up_le h1 h2 (fun x hx hy => (hs x hx).trans hy) i (by omega)
    have a2 := up_le h2 h1 (fun x hx hy => (hs x hx).symm.trans hy) i (by omega)
    rw [List.getD_eq_getElem?_getD, List.getD_eq_getElem?_getD, List.getElem?_eq_getElem hi, List.getElem?_eq_getElem hj] at a1 a2
    simp only [Option.getD_some] at a1 a2
    omega
  subst e
  refine ⟨rfl, ?_⟩
  have hmem : ∀ {l m : List Dt}, Inv u l → Inv u m → (∀ x, rightB x = true → hasC u l x = hasC u m x) → ∀ x ∈ l, x ∈ m := fun {l m} k1 k2 k3 x hx => by
    have hm := k1.mor x hx
    have := k3 x hm.1
    unfold hasC at this
    rw [decide_eq_false (by omega : ¬ x.2 ≤ uD u x), Bool.false_or, Bool.false_or, decide_eq_true hx] at this
    exact of_decide_eq_true this.symm
  have hnd : ∀ {l : List Dt}, Inv u l → l.Nodup := fun k => k.srt.imp fun {x y} h hxy => by
    rw [hxy, ord_iff] at h; omega
  have hsd : ∀ {l : List Dt}, Inv u l → SortedD l := fun k => k.srt.imp fun {x y} h => by
    rw [ord_iff] at h ⊢; omega
  have hp : l.Perm m := (List.perm_ext_iff_of_nodup (hnd h1) (hnd h2)).2 fun x => ⟨hmem h1 h2 hs x, hmem h2 h1 (fun x hx => (hs x hx).symm) x⟩
  exact sorted_uniq hp (hsd h1) (List.Perm.refl _) (hsd h2)

theorem fold_len : ∀ (l : List Dt) (u : List Int) (o : List Dt), (l.foldl tstep (u, o)).2.length ≤ o.length + l.length := by
  intro l
  induction l with
  | nil => intro u o; simp
  | cons d l ih =>
    intro u o
    rw [List.foldl_cons]
    have h := ih (tstep (u, o) d).1 (tstep (u, o) d).2
    have : (tstep (u, o) d).2.length ≤ o.length + 1 := by
      rw [tstep_eq]
      split
      · simp
      · split
        · simp
        · simp
    have e : ((tstep (u, o) d).1, (tstep (u, o) d).2) = tstep (u, o) d := rfl
    rw [e] at h
    simp only [List.length_cons]
    omega

/-- A dot more: behind tidy the context is one, and has just that one more. -/
theorem add_inv {u : List Int} {l srt : List Dt} {d : Dt} (hu : u.length = 16) (hk : checkC u l = 0) (hd : rightB d = true) (hp : srt.Perm (l ++ [d])) (hs : SortedD srt) :
    Inv (tfold u srt).1 (tfold u srt).2 ∧ (tfold u srt).2.length ≤ l.length + 1 ∧ ∀ x, rightB x = true → hasC (tfold u srt).1 (tfold u srt).2 x = (hasC u l x || decide (x = d)) := by
  have hi := inv_check hu hk
  obtain ⟨_, _, h3⟩ := check_right hk
  have hr : ∀ x ∈ srt, rightB x = true := fun x hx => by
    rcases List.mem_append.1 (hp.mem_iff.1 hx) with hx | hx
    · exact h3 x hx
    · rw [List.mem_singleton.1 hx]; exact hd
  obtain ⟨g1, g2⟩ := fold_inv srt u [] ⟨hu, hi.bd, by simp, by simp⟩ (by simp) hs hr
  refine ⟨g1, ?_, fun x hx => ?_⟩
  · have := fold_len srt u []
    have e := hp.length_eq
    simp at this e
    unfold tfold
    omega
  · show hasC (srt.foldl tstep (u, [])).1 (srt.foldl tstep (u, [])).2 x = _
    rw [g2 x hx]
    unfold hasC
    have : decide (x ∈ srt) = (decide (x ∈ l) || decide (x = d)) := by
      rw [← Bool.decide_or, decide_eq_decide, hp.mem_iff, List.mem_append, List.mem_singleton]
    rw [this, decide_eq_false (List.not_mem_nil (a := x)), Bool.or_false, Bool.or_assoc]
end Go.Proofs.Ytkkjppeaaicgaaa
end

section
namespace Go.Ck
open Go
set_option linter.unusedVariables false
set_option linter.unusedSimpArgs false
section
variable {P : Program} {n : Nat} {K : Bs} {F : List (Nat × Value)} {h : View} {L : List Res} {Q : Exit → Act → World → Prop}
variable {dst : Option Nat} {ty : Nat} {pos : String} {af : Array Edge} {gd : Option (Nat × Bool)}

theorem own_cut {w : World} {e : TypeId} {sz m cap g j : Nat} {xs : List Value} (ho : w.ownsRow 0 e sz (.slice (some ⟨g, 0, none⟩) m cap) m xs) (hj : j ≤ m) : w.ownsRow 0 e sz (.slice (some ⟨g, 0, none⟩) j cap) j (xs.take (j * sz)) := by
  have hjm : j * sz ≤ m * sz := Nat.mul_le_mul_right _ hj
  refine ⟨by rw [List.length_take, ho.1]; omega, ?_⟩
  rcases ho.2 with ⟨q1, q2⟩ | ⟨g', cap', cur, q1, q2, q3, q4, q5, q6, q7⟩
  · cases q1
  · cases q1
    refine .inr ⟨g, cap, cur, rfl, q2, q3, by omega, q5, q6, ?_⟩
    rw [← q7, List.take_take]
    congr 1
    omega
theorem St.cut {w : World} {e : TypeId} {sz m cap g j k : Nat} {xs : List Value} (s : St K h L w) (hk : L[k]? = some (Res.row e sz (.slice (some ⟨g, 0, none⟩) m cap) m xs)) (hj : j ≤ m) : St K h (L.set k (Res.row e sz (.slice (some ⟨g, 0, none⟩) j cap) j (xs.take (j * sz)))) w := by
  have ho : w.ownsRow 0 e sz (.slice (some ⟨g, 0, none⟩) m cap) m xs := s.hd.own _ (List.mem_of_getElem? hk)
  refine s.swap hk rfl rfl rfl (Nat.le_refl _) (Nat.le_refl _) (fun _ _ _ => rfl) (own_cut ho hj) ?_ (fun b hb => .inl ?_)
  · simp [Res.row, Value.ownBlock]
  · have hb : b = g := by simpa [Res.row, Value.ownBlock] using hb
    subst hb
    simp [Res.row, Value.ownBlock]
theorem rx_cut {g' : Rg} {prs : List (Nat × Oper)} {e : TypeId} {sz m cap g : Nat} {xs : List Value} (k j : Nat) (hk : L[k]? = some (Res.row e sz (.slice (some ⟨g, 0, none⟩) m cap) m xs)) (hj : j ≤ m)
    (hx : RX P n K g' prs F h (L.set k (Res.row e sz (.slice (some ⟨g, 0, none⟩) j cap) j (xs.take (j * sz)))) Q) : RX P n K g' prs F h L Q := by
  unfold RX at *
  exact fun a w f s => hx a w f (s.cut hk hj)

theorem rx_row {g' : Rg} {prs : List (Nat × Oper)} (e : TypeId) (k : Nat) (hx : RX P n K g' prs F h (Res.row e k (.slice none 0 0) 0 [] :: L) Q) : RX P n K g' prs F h L Q := by
  unfold RX at *
  exact fun a w f s => hx a w f (s.rowNil e k)
theorem rx_grow_nil {g : Rg} {i : Nat} {r : List (Nat × Oper)} {T Ti e : Nat} {x y : Operand} {z : Value} {sz by' m : Nat} {kn : IntKind} (k : Nat) [tu : TyU P T (.slice e)] [ti : TyU P Ti (.int kn)] [tb : TyB P e z sz by'] (hx : ev F x = some (.slice none 0 0)) (hy : ev F y = some (.int .i64 m))
    (hk : L[k]? = some (Res.row e sz (.slice none 0 0) 0 [])) (hm : 0 < m) (hzs : z.cells.size = sz) (hsz : 0 < sz) (h63 : m ≤ maxLen) (hbytes : m * by' ≤ 140737488355328)
    (hw : wantedF g.ops F ⟨dst, .call ⟨.builtin .append, #[x, y], #[T, Ti]⟩, ty, pos, af, gd⟩ = some true) (hd : okd n dst = true) (hlo : g.lo i = true) (o1 : Owe g i h L)
    (o2 : ∀ b cap, Owe g i h (L.set k (Res.row e sz (.slice (some ⟨b, 0, none⟩) m cap) m (Builtin.zeroCells z.cells m).toList)))
    (hn : ∀ b cap, m ≤ cap → cap ≤ maxLen → RX P n K g r (putF dst (.slice (some ⟨b, 0, none⟩) m cap) F) h (L.set k (Res.row e sz (.slice (some ⟨b, 0, none⟩) m cap) m (Builtin.zeroCells z.cells m).toList)) Q) :
    RX P n K g ((i, ⟨dst, .call ⟨.builtin .append, #[x, y], #[T, Ti]⟩, ty, pos, af, gd⟩) :: r) F h L Q := by
  unfold RX at *
  intro a w f s
  obtain ⟨ii, hi, hz, hsize, hby⟩ := tb.ex
  subst hsize
  subst hby
  have h63i : (m : Int) ≤ 9223372036854775807 := by simp only [maxLen] at h63; omega
  have hr := Lib.run_append_nil_zeros (P := P) w T Ti ty e ii z .i64 kn tu.u ti.u hi hz m hm hsz h63i (by omega)
  have hge := grownCap_ge w m 0 e
  have hcm : grownCap w m 0 e ≤ maxLen := grownCap_le_maxLen w m 0 e h63
  generalize grownCap w m 0 e = cap at hr hge hcm
  have s' : St K h (L.set k (Res.row e ii.size (.slice (some ⟨w.heap.size, 0, none⟩) m cap) m (Builtin.zeroCells z.cells m).toList)) (w.drew.alloc (.cells (Builtin.zeroCells z.cells m ++ Builtin.zeroCells z.cells (cap - m)) e)) := by
    refine s.swap hk rfl rfl rfl (Nat.le_succ _) (by simp) (fun j hj _ => Go.RowKit.Below.heap_alloc w.drew _ j hj) ⟨?_, .inr ⟨w.heap.size, cap, _, rfl, Nat.zero_le _, heap_alloc_new w.drew _, hge, hcm, ?_, ?_⟩⟩ ?_ (fun b hb => .inr ?_)
    · simp [size_zeroCells, hzs]
    · simp only [Array.size_append, size_zeroCells, hzs, ← Nat.add_mul]
      congr 1
      omega
    · simp only [Array.toList_append]
      have : (Builtin.zeroCells z.cells m).toList.length = m * ii.size := by simp [size_zeroCells, hzs]
      rw [← this]
      exact List.take_left
    · simp [Res.row, Value.ownBlock]
    · have hb : b = w.heap.size := by simpa [Res.row, Value.ownBlock] using hb
      omega
  refine .inr (.inr ⟨wantedF_ok f hw, hlo, o1.out s, ?_⟩)
  unfold Oper.wp
  have : (execOp a.eval ⟨dst, .call ⟨.builtin .append, #[x, y], #[T, Ti]⟩, ty, pos, af, gd⟩).run P w = .ok (.value (.slice (some ⟨w.heap.size, 0, none⟩) m cap)) (w.drew.alloc (.cells (Builtin.zeroCells z.cells m ++ Builtin.zeroCells z.cells (cap - m)) e)) := by
    simp [execOp, resolve, invoke, builtin, f.ev hx, f.ev hy, hr]
  rw [this]
  exact ⟨(o2 _ cap).out s', hn _ cap hge hcm _ _ (f.put hd _) s'⟩
end
end Go.Ck
end

section
namespace Go.Proofs.Ytkkjppeaaicgaaa
open Go Go.Ck
set_option maxRecDepth 100000
set_option maxHeartbeats 1000000
set_option linter.unusedVariables false

def flatP (parts : List (Value × List Dt)) (k : Nat) : List Dt := (parts.take k).flatMap (·.2)
theorem flatP_succ {parts : List (Value × List Dt)} {k : Nat} (hk : k < parts.length) : flatP parts (k + 1) = flatP parts k ++ parts[k].2 := by
  unfold flatP
  rw [List.take_succ_eq_append_getElem hk, List.flatMap_append]
  simp
theorem flatP_le {parts : List (Value × List Dt)} {k : Nat} (hk : k ≤ parts.length) : (flatP parts k).length ≤ (flatP parts parts.length).length := by
  unfold flatP
  rw [List.take_length]
  conv => rhs; rw [← List.take_append_drop k parts]
  rw [List.flatMap_append, List.length_append]
  omega

end Go.Proofs.Ytkkjppeaaicgaaa
end
