/-
  Part 15 of a proof: RbC PlF RbD RdC RdD RdE.
  Conditions: each theorem states its own.
-/
import Derived.Test.YtgeepceieckooaaGreatDoorSeEPM14
set_option maxRecDepth 100000
set_option linter.unusedVariables false
set_option linter.unusedSimpArgs false
section
namespace Go.Proofs.YtgeepceieckooaaGreatDoor
open Go Go.Ck
set_option maxHeartbeats 1000000
def rdI (N : Int) : Nat → Int
  | 0 => N
  | k + 1 => rdF (rdI N k)
theorem rdI_bd {N : Int} (h0 : 0 ≤ N) (hN : N < 256 ^ 34) : ∀ k, 0 ≤ rdI N k ∧ rdI N k < 256 ^ 34
  | 0 => ⟨h0, hN⟩
  | k + 1 => ⟨rdF_nn (rdI_bd h0 hN k).1, rdF_lt (rdI_bd h0 hN k).1 (rdI_bd h0 hN k).2⟩
theorem pl255 {n : Nat} {x : Int} : ∀ y ∈ putLow n x, 0 ≤ y ∧ y ≤ 255 := fun y hy => by have := dig_put y hy; omega
theorem rfold_sp (N : Int) (h0 : 0 ≤ N) (hN : N < 256 ^ 34) (h : View) (w : World) (s : St ⟨w, h, []⟩ h [] w) :
    Calls Tryz.prog 130 [.agg (upI (putLow 34 N)).toArray].toArray w fun e w' => e = .returned (.agg (upI (putLow 34 (N % 1361129467683753853853498429727072845819))).toArray) ∧ St ⟨w, h, []⟩ h [] w' := by
  have ha : (putLow 34 N).length = 34 := putLow_len _ _
  refine calls_enter Tryz.func130 rfl Tryz.ntmps130 rfl s ?_
  repeat' (first|refine zw328 ?_|(refine ta_ ?_;intro _)|(refine zk0 ?_ ?_<;>intro ht)|fail)
  rename_i ba br
  refine cx_perm (L' := [Res.blk br (.cells (upI zer34).toArray 184 (0, 0)), Res.blk ba (.cells (upI (putLow 34 (rdI N 0))).toArray 184 (0, 0))]) (.refl _) ?_
  refine cx_loop (X := Nat) (fun k => [(1, .pointer (some ⟨ba, 0, none⟩)), (2, .pointer (some ⟨br, 0, none⟩)), (3, .int .i64 (k : Nat))]) (fun _ => h)
    (fun k => [Res.blk br (.cells (upI zer34).toArray 184 (0, 0)), Res.blk ba (.cells (upI (putLow 34 (rdI N k))).toArray 184 (0, 0))]) (fun k => k ≤ 4) (fun k => 4 - k) 0 (Nat.zero_le _) ts_ (fun _ s => s) ?_
  intro k hk
  have hbd := rdI_bd h0 hN k
  by_cases hk4 : k < 4
  · have en : rdI N (k + 1) = rdF (rdI N k) := rfl
    generalize rdI N k = M at hbd en ⊢
    have hfr := fold_round hbd.1 hbd.2
    have hda : ∀ x ∈ putLow 34 M, 0 ≤ x ∧ x ≤ 255 := pl255
    have hal : (putLow 34 M).length = 34 := putLow_len _ _
    generalize putLow 34 M = a at hfr hda hal ⊢
    repeat' (first|refine zw3 ?_|(refine ta_ ?_;intro _)|(refine zk0 ?_ ?_<;>intro ht)|fail)
    rename_i bl bh
    refine cx_perm (L' := [Res.blk bh (.cells (upI zer34).toArray 184 (0, 0)), Res.blk bl (.cells (upI (lowK a 0)).toArray 184 (0, 0)), Res.blk br (.cells (upI zer34).toArray 184 (0, 0)), Res.blk ba (.cells (upI a).toArray 184 (0, 0))]) (.refl _) ?_
    refine cx_loop (X := Nat) (fun i => [(1, .pointer (some ⟨ba, 0, none⟩)), (2, .pointer (some ⟨br, 0, none⟩)), (3, .int .i64 (k : Nat)), (4, .pointer (some ⟨bl, 0, none⟩)), (5, .pointer (some ⟨bh, 0, none⟩)), (6, .int .i64 (i : Nat))]) (fun _ => h)
      (fun i => [Res.blk bh (.cells (upI zer34).toArray 184 (0, 0)), Res.blk bl (.cells (upI (lowK a i)).toArray 184 (0, 0)), Res.blk br (.cells (upI zer34).toArray 184 (0, 0)), Res.blk ba (.cells (upI a).toArray 184 (0, 0))]) (fun i => i ≤ 16) (fun i => 16 - i) 0 (Nat.zero_le _) ts_ (fun _ s => s) ?_
    intro i hi
    have hll := lowK_len a i
    by_cases hi16 : i < 16
    · have e1 : lowK a (i + 1) = (lowK a i).set i (a.getD i 0) := rfl
      generalize lowK a i = p at hll e1 ⊢
      have ca := getD_ati (l := a) (i := i) (by omega)
      repeat' (first|refine zw329 ?_|(refine ta_ ?_;intro _)|(refine zk0 ?_ ?_<;>intro ht)|fail)
      refine nx_round (i + 1) (by show i + 1 ≤ 16; omega) (by show 16 - (i + 1) < 16 - i; omega) ts_ (fun _ s => s)
    have ei : i = 16 := by omega
    subst ei
    have e1 : lowF a = (lowK a 16).set 16 (a.getD 16 0 % 4) := rfl
    generalize lowK a 16 = p at hll e1 ⊢
    have hdl := lowF_dig hda
    have hlf := lowF_len a
    generalize lowF a = lo at e1 hdl hlf hfr
    have ca := getD_ati (l := a) (i := 16) (by omega)
    have g16 := dig_get hda (by omega) 16
    have hr : (a.getD 16 0).tmod 4 = a.getD 16 0 % 4 := Int.tmod_eq_emod_of_nonneg (by omega)
    repeat' (first|refine zw330 ?_|(refine ta_ ?_;intro _)|(refine zk0 ?_ ?_<;>intro ht)|fail)
    refine cx_perm (L' := [Res.blk bh (.cells (upI (highK a 0)).toArray 184 (0, 0)), Res.blk bl (.cells (upI lo).toArray 184 (0, 0)), Res.blk br (.cells (upI zer34).toArray 184 (0, 0)), Res.blk ba (.cells (upI a).toArray 184 (0, 0))]) (.refl _) ?_
    refine cx_loop (X := Nat) (fun i => [(1, .pointer (some ⟨ba, 0, none⟩)), (2, .pointer (some ⟨br, 0, none⟩)), (3, .int .i64 (k : Nat)), (4, .pointer (some ⟨bl, 0, none⟩)), (5, .pointer (some ⟨bh, 0, none⟩)), (7, .int .i64 (i : Nat))]) (fun _ => h)
      (fun i => [Res.blk bh (.cells (upI (highK a i)).toArray 184 (0, 0)), Res.blk bl (.cells (upI lo).toArray 184 (0, 0)), Res.blk br (.cells (upI zer34).toArray 184 (0, 0)), Res.blk ba (.cells (upI a).toArray 184 (0, 0))]) (fun i => i ≤ 18) (fun i => 18 - i) 0 (Nat.zero_le _) ts_ (fun _ s => s) ?_
    intro i hi
    have hhl := highK_len a i
    by_cases hi18 : i < 18
    · have e1 : highK a (i + 1) = (highK a i).set i (a.getD (16 + i) 0 / 4 + a.getD (17 + i) 0 % 4 * 64) := rfl
      generalize highK a i = p at hhl e1 ⊢
      have ca := getD_ati (l := a) (i := 16 + i) (by omega)
      have g16 := dig_get hda (by omega) (16 + i)
      have g17 := dig_get hda (by omega) (17 + i)
      have hq : IntKind.i64.wrap ((a.getD (16 + i) 0).tdiv 4) = a.getD (16 + i) 0 / 4 := by
        rw [Int.tdiv_eq_ediv_of_nonneg (by omega)]
        exact wrap_i64 (by unfold I64; omega)
      obtain ⟨p1, ep⟩ : ∃ p1, p1 = p.set i (a.getD (16 + i) 0 / 4) := ⟨_, rfl⟩
      have hp1 : p1.length = 34 := by rw [ep, List.length_set, hhl]
      have cp : p1[i]? = some (a.getD (16 + i) 0 / 4) := by rw [ep, List.getElem?_set_self (by omega)]
      by_cases h17 : 17 + i < 34
      · have e2 : p1.set i (a.getD (16 + i) 0 / 4 + a.getD (17 + i) 0 % 4 * 64) = highK a (i + 1) := by rw [ep, List.set_set, e1]
        have cb := getD_ati (l := a) (i := 17 + i) (by omega)
        have hr : (a.getD (17 + i) 0).tmod 4 = a.getD (17 + i) 0 % 4 := Int.tmod_eq_emod_of_nonneg (by omega)
        repeat' (first|refine zw331 ?_|(refine ta_ ?_;intro _)|(refine zk0 ?_ ?_<;>intro ht)|fail)
        refine cx_region_draw' rfl (by kernel_rfl) ?_
        repeat' (first|refine zw332 ?_|(refine ycf ?_;(first|(refine zg0 ?_ ?_<;>intro ht)|(refine tb_ ?_ ?_ ?_;(·(exact to_));(·intro _;(exact to_));intro _)))|fail)
        repeat' (first|refine zw333 ?_|(refine ta_ ?_;intro _)|(refine zk0 ?_ ?_<;>intro ht)|fail)
        refine nx_round (i + 1) (by show i + 1 ≤ 18; omega) (by show 18 - (i + 1) < 18 - i; omega) ts_ (fun _ s => s)
      · have z : a.getD (17 + i) 0 = 0 := by rw [List.getD_eq_getElem?_getD, List.getElem?_eq_none (by omega)]; rfl
        have e2 : p.set i (a.getD (16 + i) 0 / 4) = highK a (i + 1) := by rw [e1, z]; simp
        repeat' (first|refine zw334 ?_|(refine ta_ ?_;intro _)|(refine zk0 ?_ ?_<;>intro ht)|fail)
        refine nx_round (i + 1) (by show i + 1 ≤ 18; omega) (by show 18 - (i + 1) < 18 - i; omega) ts_ (fun _ s => s)
    have ei : i = 18 := by omega
    subst ei
    have hdh := highK_dig hda 18
    generalize highK a 18 = hg at hhl hdh hfr ⊢
    repeat' (first|refine zw3 ?_|(refine ta_ ?_;intro _)|(refine zk0 ?_ ?_<;>intro ht)|fail)
    refine cx_perm (L' := [Res.blk bh (.cells (upI hg).toArray 184 (0, 0)), Res.blk bl (.cells (upI (addK lo hg 0)).toArray 184 (0, 0)), Res.blk br (.cells (upI zer34).toArray 184 (0, 0)), Res.blk ba (.cells (upI a).toArray 184 (0, 0))]) (.refl _) ?_
    refine cx_loop (X := Nat) (fun i => [(1, .pointer (some ⟨ba, 0, none⟩)), (2, .pointer (some ⟨br, 0, none⟩)), (3, .int .i64 (k : Nat)), (4, .pointer (some ⟨bl, 0, none⟩)), (5, .pointer (some ⟨bh, 0, none⟩)), (8, .int .i64 (i : Nat))]) (fun _ => h)
      (fun i => [Res.blk bh (.cells (upI hg).toArray 184 (0, 0)), Res.blk bl (.cells (upI (addK lo hg i)).toArray 184 (0, 0)), Res.blk br (.cells (upI zer34).toArray 184 (0, 0)), Res.blk ba (.cells (upI a).toArray 184 (0, 0))]) (fun i => i ≤ 34) (fun i => 34 - i) 0 (Nat.zero_le _) ts_ (fun _ s => s) ?_
    intro i hi
    have hal := addK_len lo hg i
    have hadd := addK_dig hdl hdh i
    by_cases hi34 : i < 34
    · have e1 : (addK lo hg i).set i ((addK lo hg i).getD i 0 + 5 * hg.getD i 0) = addK lo hg (i + 1) := rfl
      have g1 := dig_get hadd (by omega) i
      have g2 := dig_get hdh (by omega) i
      generalize addK lo hg i = p at hal e1 g1 ⊢
      have ca := getD_ati (l := p) (i := i) (by omega)
      have cb := getD_ati (l := hg) (i := i) (by omega)
      repeat' (first|refine zw3 ?_|(refine ta_ ?_;intro _)|(refine zk0 ?_ ?_<;>intro ht)|fail)
      refine cx_region_draw' rfl (by kernel_rfl) ?_
      repeat' (first|refine zw335 ?_|(refine ycf ?_;(first|(refine zg0 ?_ ?_<;>intro ht)|(refine tb_ ?_ ?_ ?_;(·(exact to_));(·intro _;(exact to_));intro _)))|fail)
      repeat' (first|refine zw336 ?_|(refine ta_ ?_;intro _)|(refine zk0 ?_ ?_<;>intro ht)|fail)
      refine nx_round (i + 1) (by show i + 1 ≤ 34; omega) (by show 34 - (i + 1) < 34 - i; omega) ts_ (fun _ s => s)
    have ei : i = 34 := by omega
    subst ei
    have C := rcarry_sp (addK lo hg 34) (rdF M) 1530 (by omega) hadd (by omega) hfr (rdF_lt hbd.1 hbd.2) h
    rw [← en] at C
    have hpl : (putLow 34 (rdI N (k + 1))).length = 34 := putLow_len _ _
    generalize addK lo hg 34 = p at hal C ⊢
    repeat' (first|refine zw337 ?_|(refine ta_ ?_;intro _)|(refine zk0 ?_ ?_<;>intro ht)|fail)
    (refine ycn (ycp Tryz.func129 rfl (by kernel_rfl) rfl) (C) rfl rfl rfl ?_ ?_; (· (exact to_)))
    repeat' (first|refine zw338 ?_|(refine ta_ ?_;intro _)|(refine zk0 ?_ ?_<;>intro ht)|fail)
    refine nx_round (k + 1) (by show k + 1 ≤ 4; omega) (by show 4 - (k + 1) < 4 - k; omega) ts_ (fun _ s => s.tl.tl)
  have ek : k = 4 := by omega
  subst ek
  have hlt := rdF4 h0 hN
  have hmod : rdI N 4 % 1361129467683753853853498429727072845819 = N % 1361129467683753853853498429727072845819 := (rdF_mod.trans (rdF_mod.trans (rdF_mod.trans rdF_mod)))
  have hlt : rdI N 4 < 1361129467683753853853498429727072845824 := hlt
  rw [← hmod]
  generalize rdI N 4 = M at hbd hlt ⊢
  have hda : ∀ x ∈ putLow 34 M, 0 ≤ x ∧ x ≤ 255 := pl255
  have hal : (putLow 34 M).length = 34 := putLow_len _ _
  have hval := vI_putLow 34 hbd.1 hbd.2
  have hls := lsK_val (a := putLow 34 M) (b := prD) (fun x hx => dig_put x hx) (fun x hx => by have := prD_dig x hx; omega) 34 (by omega) (by rw [prD_len]; omega)
  rw [List.take_of_length_le (by omega), List.take_of_length_le (by rw [prD_len]; omega), hval, prD_val] at hls
  have L1 := rless_sp (putLow 34 M) prD hal prD_len h
  rw [hls] at L1
  repeat' (first|refine zw3 ?_|(refine ta_ ?_;intro _)|(refine zk0 ?_ ?_<;>intro ht)|fail)
  (refine ycn (ycp Tryz.func141 rfl (by kernel_rfl) rfl) (rprime_sp h) rfl rfl rfl ?_ ?_; (· (exact to_)))
  repeat' (first|refine zw339 ?_|(refine ta_ ?_;intro _)|(refine zk0 ?_ ?_<;>intro ht)|fail)
  rename_i bp
  by_cases hM : M < 1361129467683753853853498429727072845819
  · rw [decide_eq_true hM] at L1
    rw [Int.emod_eq_of_lt hbd.1 hM]
    (refine ycn (ycp Tryz.func142 rfl (by kernel_rfl) rfl) (L1) rfl rfl rfl ?_ ?_; (· (exact to_)))
    repeat' (first|refine zw340 ?_|(refine ta_ ?_;intro _)|(refine zk0 ?_ ?_<;>intro ht)|fail)
    exact nx_ret1 rfl (rv_cells rfl (yaz 1 rfl) (by show (upI (putLow 34 M)).length = 34; rw [upI_len]; exact putLow_len _ _)) (fun w' s' => ⟨rfl, s'.nil⟩)
  · rw [decide_eq_false hM] at L1
    (refine ycn (ycp Tryz.func142 rfl (by kernel_rfl) rfl) (L1) rfl rfl rfl ?_ ?_; (· (exact to_)))
    repeat' (first|refine zw3 ?_|(refine ta_ ?_;intro _)|(refine zk0 ?_ ?_<;>intro ht)|fail)
    have ho := sbK_out (a := putLow 34 M) (p := prD) hal prD_len hda prD_dig (by rw [hval, prD_val]; omega)
    have hla := sbK_last (a := putLow 34 M) (p := prD) hal prD_len hda prD_dig (by rw [hval, prD_val]; omega)
    rw [hval, prD_val] at ho
    have hmm : M % 1361129467683753853853498429727072845819 = M - 1361129467683753853853498429727072845819 := by omega
    rw [hmm]
    generalize M - 1361129467683753853853498429727072845819 = X at ho ⊢
    generalize putLow 34 M = a at hda hal ho hla ⊢
    refine cx_perm (L' := [Res.blk bp (.cells (upI prD).toArray 184 (0, 0)), Res.blk br (.cells (upI zer34).toArray 184 (0, 0)), Res.blk ba (.cells (upI (sbK a prD 0)).toArray 184 (0, 0))]) (.refl _) ?_
    refine cx_loop (X := Nat) (fun i => [(1, .pointer (some ⟨ba, 0, none⟩)), (2, .pointer (some ⟨br, 0, none⟩)), (9, .pointer (some ⟨bp, 0, none⟩)), (10, .int .i64 (i : Nat))]) (fun _ => h)
      (fun i => [Res.blk bp (.cells (upI prD).toArray 184 (0, 0)), Res.blk br (.cells (upI zer34).toArray 184 (0, 0)), Res.blk ba (.cells (upI (sbK a prD i)).toArray 184 (0, 0))]) (fun i => i ≤ 34) (fun i => 34 - i) 0 (Nat.zero_le _) ts_ (fun _ s => s) ?_
    intro i hi
    by_cases hi34 : i < 34
    · have el := sbK_len a prD i
      have g1 := sbK_at (p := prD) hda i
      have g2 := dig_get prD_dig (by omega) i
      have g3 : sbK a prD (i + 1) = if (sbK a prD i).getD i 0 - prD.getD i 0 < 0 then ((sbK a prD i).set i ((sbK a prD i).getD i 0 - prD.getD i 0 + 256)).set (i + 1) ((sbK a prD i).getD (i + 1) 0 - 1) else (sbK a prD i).set i ((sbK a prD i).getD i 0 - prD.getD i 0) := rfl
      have hlast : i = 33 → 0 ≤ (sbK a prD i).getD i 0 - prD.getD i 0 := fun e => by rw [e]; exact hla
      have g4 : i < 33 → 0 ≤ (sbK a prD i).getD (i + 1) 0 ∧ (sbK a prD i).getD (i + 1) 0 ≤ 255 := fun _ => by rw [sbK_get a prD i (i + 1) (by omega)]; exact dig_get hda (by omega) _
      generalize sbK a prD i = p at el g1 g3 g4 hlast ⊢
      have ca := getD_ati (l := p) (i := i) (by omega)
      have cb := getD_ati (l := prD) (i := i) (by rw [prD_len]; omega)
      generalize hy : prD.getD i 0 = y at g2 g3 hlast cb
      obtain ⟨p1, ep⟩ : ∃ p1, p1 = p.set i (p.getD i 0 - y) := ⟨_, rfl⟩
      have hp1 : p1.length = 34 := by rw [ep, List.length_set]; omega
      have cp : p1[i]? = some (p.getD i 0 - y) := by rw [ep, List.getElem?_set_self (by omega)]
      repeat' (first|refine zw3 ?_|(refine ta_ ?_;intro _)|(refine zk0 ?_ ?_<;>intro ht)|fail)
      refine cx_region_draw' rfl (by kernel_rfl) ?_
      repeat' (first|refine zw341 ?_|(refine ycf ?_;(first|(refine zg0 ?_ ?_<;>intro ht)|(refine tb_ ?_ ?_ ?_;(·(exact to_));(·intro _;(exact to_));intro _)))|fail)
      by_cases hneg : p.getD i 0 - y < 0
      · rw [if_pos hneg] at g3
        have hi33 : i < 33 := by rcases (by omega : i < 33 ∨ i = 33) with h1 | h1; (· exact h1); (· exact absurd (hlast h1) (by omega))
        obtain ⟨p2, ep2⟩ : ∃ p2, p2 = p1.set i (p.getD i 0 - y + 256) := ⟨_, rfl⟩
        have hp2 : p2.length = 34 := by rw [ep2, List.length_set]; omega
        have cp2 : p2[i + 1]? = some (p.getD (i + 1) 0) := by
          rw [ep2, List.getElem?_set_ne (by omega), ep, List.getElem?_set_ne (by omega)]
          exact getD_ati (by omega)
        have e3 : p2.set (i + 1) (p.getD (i + 1) 0 - 1) = sbK a prD (i + 1) := by rw [g3, ep2, ep, List.set_set]
        have g5 := g4 hi33
        repeat' (first|refine zw342 ?_|(refine ta_ ?_;intro _)|(refine zk0 ?_ ?_<;>intro ht)|fail)
        repeat' (first|refine zw343 ?_|(refine ta_ ?_;intro _)|(refine zk0 ?_ ?_<;>intro ht)|fail)
        refine nx_round (i + 1) (by show i + 1 ≤ 34; omega) (by show 34 - (i + 1) < 34 - i; omega) ts_ (fun _ s => s)
      · rw [if_neg hneg] at g3
        repeat' (first|refine zw344 ?_|(refine ta_ ?_;intro _)|(refine zk0 ?_ ?_<;>intro ht)|fail)
        refine nx_round (i + 1) (by show i + 1 ≤ 34; omega) (by show 34 - (i + 1) < 34 - i; omega) ts_ (fun _ s => ?_)
        rw [g3, ← ep]
        exact s
    have ei : i = 34 := by omega
    subst ei
    rw [ho]
    repeat' (first|refine zw345 ?_|(refine ta_ ?_;intro _)|(refine zk0 ?_ ?_<;>intro ht)|fail)
    exact nx_ret1 rfl (rv_cells rfl (yaz 1 rfl) (by show (upI (putLow 34 X)).length = 34; rw [upI_len]; exact putLow_len _ _)) (fun w' s' => ⟨rfl, s'.nil⟩)
end Go.Proofs.YtgeepceieckooaaGreatDoor
end

section
namespace Go.Proofs.YtgeepceieckooaaGreatDoor
open Go Go.Ck
set_option maxHeartbeats 1000000
def padI (l : List Int) : List Int := l ++ List.replicate (34 - l.length) 0
theorem padI_len {l : List Int} (h : l.length ≤ 34) : (padI l).length = 34 := by simp [padI]; omega
theorem padI_set {l : List Int} {y : Int} {k : Nat} (hk : l.length = k) (h : k < 34) : (padI l).set k y = padI (l ++ [y]) := by
  subst hk
  unfold padI
  have e : 34 - l.length = (34 - (l.length + 1)) + 1 := by omega
  rw [e, List.replicate_succ, List.set_append_right _ _ (Nat.le_refl _), Nat.sub_self, List.set_cons_zero, List.length_append, List.length_singleton, List.append_assoc]
  rfl
def adS (h c : List Int) : Nat → List Int
  | 0 => h
  | k + 1 => (adS h c k).set k ((adS h c k).getD k 0 + c.getD k 0)
theorem adS_len (h c : List Int) : ∀ k, (adS h c k).length = h.length
  | 0 => rfl
  | k + 1 => by rw [adS, List.length_set, adS_len h c k]
theorem adS_get (h c : List Int) : ∀ (k j : Nat), k ≤ j → (adS h c k).getD j 0 = h.getD j 0
  | 0, j, _ => rfl
  | k + 1, j, hj => by rw [adS, getD_set_ne (by omega), adS_get h c k j (by omega)]
theorem adS_dig {h c : List Int} (hh : ∀ x ∈ h, 0 ≤ x ∧ x ≤ 255) (hc : ∀ x ∈ c, 0 ≤ x ∧ x ≤ 255) : ∀ k, ∀ x ∈ adS h c k, 0 ≤ x ∧ x ≤ 510
  | 0 => fun x hx => by have := hh x hx; omega
  | k + 1 => dig_set (adS_dig hh hc k) (by rw [adS_get h c k k (Nat.le_refl _)]; have h1 := dig_get hh (by omega) k; have h2 := dig_get hc (by omega) k; omega)
theorem adS_val (h c : List Int) : ∀ k, k ≤ h.length → k ≤ c.length → vI (adS h c k) = vI h + vI (c.take k)
  | 0, _, _ => by simp [adS, vI]
  | k + 1, h1, h2 => by
    rw [adS, vI_set _ (by rw [adS_len]; omega), adS_val h c k (by omega) (by omega), vI_take c k (by omega)]
    grind
def cvin (x : List Int) (hi : Int) (r : List Int) (i : Nat) : Nat → List Int
  | 0 => x
  | k + 1 => (cvin x hi r i k).set (i + k) ((cvin x hi r i k).getD (i + k) 0 + hi * r.getD k 0)
def cvout (h r : List Int) : Nat → List Int
  | 0 => zer34
  | i + 1 => cvin (cvout h r i) (h.getD i 0) r i 17
theorem cvin_len (x : List Int) (hi : Int) (r : List Int) (i : Nat) : ∀ k, (cvin x hi r i k).length = x.length
  | 0 => rfl
  | k + 1 => by rw [cvin, List.length_set, cvin_len x hi r i k]
theorem cvout_len (h r : List Int) : ∀ i, (cvout h r i).length = 34
  | 0 => rfl
  | i + 1 => by rw [cvout, cvin_len, cvout_len h r i]
theorem cvin_dig {x r : List Int} {hi B : Int} {i : Nat} (hx : ∀ y ∈ x, 0 ≤ y ∧ y ≤ B) (hr : ∀ y ∈ r, 0 ≤ y ∧ y ≤ 255) (hh : 0 ≤ hi ∧ hi ≤ 255) (hB : 0 ≤ B) : ∀ k : Nat, ∀ y ∈ cvin x hi r i k, 0 ≤ y ∧ y ≤ B + 65025 * k
  | 0 => fun y hy => by have := hx y hy; omega
  | k + 1 => fun y hy => by
    have ih := cvin_dig (i := i) hx hr hh hB k
    have h1 := dig_get ih (by omega) (i + k)
    have h2 := dig_get hr (by omega) k
    have h3 : 0 ≤ hi * r.getD k 0 := Int.mul_nonneg hh.1 h2.1
    have h4 : hi * r.getD k 0 ≤ 255 * 255 := Int.mul_le_mul hh.2 h2.2 h2.1 (by omega)
    refine dig_set (fun z hz => ?_) ?_ y hy
    · have := ih z hz; omega
    · omega
theorem cvout_dig {h r : List Int} (hh : ∀ y ∈ h, 0 ≤ y ∧ y ≤ 255) (hr : ∀ y ∈ r, 0 ≤ y ∧ y ≤ 255) : ∀ i : Nat, ∀ y ∈ cvout h r i, 0 ≤ y ∧ y ≤ 65025 * 17 * i
  | 0 => fun y hy => by have := List.eq_of_mem_replicate hy; omega
  | i + 1 => fun y hy => by
    have := cvin_dig (i := i) (cvout_dig hh hr i) hr (dig_get hh (by omega) i) (by omega) 17 y hy
    omega
theorem cvin_val {x r : List Int} {hi : Int} {i : Nat} (hx : x.length = 34) (hr : r.length = 34) (hi17 : i ≤ 17) : ∀ k, k ≤ 17 → vI (cvin x hi r i k) = vI x + 256 ^ i * (hi * vI (r.take k))
  | 0, _ => by simp [cvin, vI]
  | k + 1, hk => by
    rw [cvin, vI_set _ (by rw [cvin_len]; omega), cvin_val hx hr hi17 k (by omega), vI_take r k (by omega), Int.pow_add]
    grind
theorem cvout_val {h r : List Int} (hh : h.length = 34) (hr : r.length = 34) : ∀ i, i ≤ 17 → vI (cvout h r i) = vI (h.take i) * vI (r.take 17)
  | 0, _ => by show vI zer34 = _; rw [zer34, vI_zeros]; simp [vI]
  | i + 1, hi => by
    rw [cvout, cvin_val (cvout_len h r i) hr (by omega) 17 (Nat.le_refl _), cvout_val hh hr i (by omega), vI_take h i (by omega)]
    grind
theorem vI_app (a b : List Int) : vI (a ++ b) = vI a + 256 ^ a.length * vI b := by
  induction a with
  | nil => simp [vI]
  | cons x a ih =>
    simp only [List.cons_append, vI, ih, List.length_cons, Int.pow_succ]
    grind
theorem padI_take (l : List Int) (h : l.length = 16) : vI ((padI l).take 17) = vI l := by
  have e : (padI l).take 17 = l ++ [0] := by
    unfold padI
    rw [List.take_append, List.take_of_length_le (by omega), h]
    rfl
  rw [e, vI_app]
  simp [vI]
theorem putLow_take : ∀ (m n : Nat) (x : Int), m ≤ n → (putLow n x).take m = putLow m x
  | 0, n, x, _ => by simp [putLow]
  | m + 1, n + 1, x, h => by
    rw [putLow, List.take_succ_cons, putLow_take m n _ (by omega), putLow]
theorem vI_put_take {x : Int} (h0 : 0 ≤ x) (h1 : x < 256 ^ 17) : vI ((putLow 34 x).take 17) = x := by
  rw [putLow_take 17 34 x (by omega), vI_putLow 17 h0 h1]
theorem clampB_bd {i : Nat} {c : Int} (h : 0 ≤ c ∧ c < 256) : 0 ≤ clampB i c ∧ clampB i c ≤ 255 := by
  unfold clampB
  dsimp only
  split <;> split <;> omega
theorem clampL_by {key : List Int} (hk : Bytes key) : ∀ k, Bytes (clampL key k)
  | 0 => fun x hx => by cases hx
  | k + 1 => fun x hx => by
    rcases List.mem_append.1 hx with hx | hx
    · exact clampL_by hk k x hx
    · rw [List.mem_singleton.1 hx]
      have := clampB_bd (i := k) (getD_mem' (P := fun x => 0 ≤ x ∧ x < 256) hk (by decide) k)
      omega
theorem padI_dig {l : List Int} (hb : Bytes l) : ∀ x ∈ padI l, 0 ≤ x ∧ x ≤ 255 := fun x hx => by
  rcases List.mem_append.1 hx with hx | hx
  · have := hb x hx; omega
  · have := List.eq_of_mem_replicate hx; omega
theorem tagV_step (r : Nat) (b : List Int) (k : Nat) : ((tagV r b (k + 1) : Nat) : Int) = (((tagV r b k : Nat) : Int) + ((vN ((b.drop (16 * k)).take 16) : Nat) : Int) + 256 ^ ((b.drop (16 * k)).take 16).length) * (r : Int) % 1361129467683753853853498429727072845819 := by
  rw [tagV]
  have e : ((pP : Nat) : Int) = 1361129467683753853853498429727072845819 := rfl
  rw [Int.natCast_emod, e, Int.natCast_mul, Int.natCast_add, Int.natCast_add, Int.natCast_pow, Int.add_assoc]
  rfl
end Go.Proofs.YtgeepceieckooaaGreatDoor
end

section
namespace Go.Proofs.YtgeepceieckooaaGreatDoor
open Go Go.Ck
set_option maxHeartbeats 1000000
theorem rTag_sp (key b : List Int) (hk : Bytes key) (hl : key.length = 32) (hb : Bytes b) (hbl : b.length ≤ 900000) (h : View) (w : World) (s : St ⟨w, h, []⟩ h [] w) :
    Calls Tryz.prog 112 [.string (bstr key), .string (bstr b)].toArray w fun e w' => e = .returned (.string (bstr (tagF key b))) ∧ St ⟨w, h, []⟩ h [] w' := by
  rw [tagF_val hk hl hb]
  refine calls_enter Tryz.func112 rfl Tryz.ntmps112 rfl s ?_
  repeat' (first|refine tw_ ?_|(refine ta_ ?_;intro _)|(refine zk0 ?_ ?_<;>intro ht)|fail)
  rename_i br bh
  refine cx_perm (L' := [Res.blk bh (.cells (upI zer34).toArray 184 (0, 0)), Res.blk br (.cells (upI (padI (clampL key 0))).toArray 184 (0, 0))]) (.refl _) ?_
  refine cx_loop (X := Nat) (fun i => [(0, .string (bstr key)), (1, .string (bstr b)), (5, .pointer (some ⟨br, 0, none⟩)), (6, .pointer (some ⟨bh, 0, none⟩)), (7, .int .i64 (i : Nat))]) (fun _ => h)
    (fun i => [Res.blk bh (.cells (upI zer34).toArray 184 (0, 0)), Res.blk br (.cells (upI (padI (clampL key i))).toArray 184 (0, 0))]) (fun i => i ≤ 16) (fun i => 16 - i) 0 (Nat.zero_le _) ts_ (fun _ s => s) ?_
  intro i hi
  by_cases hi16 : i < 16
  · have hcl := clampL_len key i
    have hset := padI_set (l := clampL key i) (y := clampB i (key.getD i 0)) hcl (by omega)
    have enx : clampL key (i + 1) = clampL key i ++ [clampB i (key.getD i 0)] := rfl
    rw [← enx] at hset
    have hpl : (padI (clampL key i)).length = 34 := padI_len (by omega)
    generalize padI (clampL key i) = p at hset hpl ⊢
    have ck := getD_ati (l := key) (i := i) (by omega)
    have hkd := getD_mem' (P := fun x => 0 ≤ x ∧ x < 256) hk (by decide) i
    have gk : key[i]'(by omega) = key.getD i 0 := by rw [List.getD_eq_getElem?_getD, List.getElem?_eq_getElem (by omega)]; rfl
    have hat : ∀ {n : Nat} {F : List (Nat × Value)} {h : View} {L : List Res} {dst : Option Nat} {ty : Nat} {pos : String} {af : Array Edge} {gd : Option (Nat × Bool)} {x y : Operand}, ev F x = some (.string (bstr key)) → ev F y = some (.int .i64 (i : Nat)) → QV Tryz.prog n F h L ⟨dst, .index 9 x y, ty, pos, af, gd⟩ (.int .u8 (key.getD i 0)) := fun hx hy => by
      rw [← gk]
      exact qv_at_bstr (k := i) hk hx hy rfl (by omega)
    have w64 : IntKind.i64.wrap (key.getD i 0) = key.getD i 0 := wrap_i64 (by unfold I64; omega)
    have r4 : ((i : Nat) : Int).tmod 4 = ((i % 4 : Nat) : Int) := rfl
    have hB : clampB i (key.getD i 0) = if i % 4 = 3 then (if 0 < i ∧ i % 4 = 0 then key.getD i 0 % 16 - key.getD i 0 % 16 % 4 else key.getD i 0 % 16) else (if 0 < i ∧ i % 4 = 0 then key.getD i 0 - key.getD i 0 % 4 else key.getD i 0) := by
      unfold clampB
      dsimp only
      split <;> split <;> rfl
    generalize clampB i (key.getD i 0) = cb at hset hB
    generalize key.getD i 0 = x at hat w64 hkd hB
    have rx16 : x.tmod 16 = x % 16 := Int.tmod_eq_emod_of_nonneg hkd.1
    have rx4 : x.tmod 4 = x % 4 := Int.tmod_eq_emod_of_nonneg hkd.1
    have hi4 : i % 4 < 4 := Nat.mod_lt _ (by omega)
    have i4i : i % 4 ≤ i := Nat.mod_le _ _
    have i0 : i = 0 → i % 4 = 0 := fun e => by rw [e]
    generalize i % 4 = i4 at r4 hB hi4 i4i i0
    by_cases h3 : i4 = 3
    · rw [if_pos h3, if_neg (by omega)] at hB
      rw [hB] at hset
      repeat' (first|refine zw346 ?_|(refine ta_ ?_;intro _)|(refine zk0 ?_ ?_<;>intro ht)|fail)
      refine nx_round (i + 1) (by show i + 1 ≤ 16; omega) (by show 16 - (i + 1) < 16 - i; omega) ts_ (fun _ s => s)
    · rw [if_neg h3] at hB
      by_cases h4 : i4 = 0
      · by_cases h0 : i = 0
        · rw [if_neg (by omega)] at hB
          rw [hB] at hset
          repeat' (first|refine zw346 ?_|(refine ta_ ?_;intro _)|(refine zk0 ?_ ?_<;>intro ht)|fail)
          refine nx_round (i + 1) (by show i + 1 ≤ 16; omega) (by show 16 - (i + 1) < 16 - i; omega) ts_ (fun _ s => s)
        · rw [if_pos (by omega)] at hB
          rw [hB] at hset
          repeat' (first|refine zw346 ?_|(refine ta_ ?_;intro _)|(refine zk0 ?_ ?_<;>intro ht)|fail)
          refine nx_round (i + 1) (by show i + 1 ≤ 16; omega) (by show 16 - (i + 1) < 16 - i; omega) ts_ (fun _ s => s)
      · rw [if_neg (by omega)] at hB
        rw [hB] at hset
        repeat' (first|refine zw346 ?_|(refine ta_ ?_;intro _)|(refine zk0 ?_ ?_<;>intro ht)|fail)
        refine nx_round (i + 1) (by show i + 1 ≤ 16; omega) (by show 16 - (i + 1) < 16 - i; omega) ts_ (fun _ s => s)
  have ei : i = 16 := by omega
  subst ei
  repeat' (first|refine zw3 ?_|(refine ta_ ?_;intro _)|(refine zk0 ?_ ?_<;>intro ht)|fail)
  have hrl : (padI (clampL key 16)).length = 34 := padI_len (by rw [clampL_len]; omega)
  have hrd := padI_dig (clampL_by hk 16)
  have hrv := padI_take (clampL key 16) (clampL_len key 16)
  have hrn := vI_vN (clampL_by hk 16)
  have hrlt := vN_lt (clampL_by hk 16)
  rw [clampL_len] at hrlt
  generalize vN (clampL key 16) = R at hrn hrlt ⊢
  rw [hrn] at hrv
  clear hrn
  generalize padI (clampL key 16) = r at hrl hrd hrv ⊢
  obtain ⟨m, hm⟩ : ∃ m, m = (b.length + 15) / 16 := ⟨_, rfl⟩
  rw [← hm]
  refine cx_loop (X := Nat) (fun k => [(0, .string (bstr key)), (1, .string (bstr (b.drop (16 * k)))), (5, .pointer (some ⟨br, 0, none⟩)), (6, .pointer (some ⟨bh, 0, none⟩))]) (fun _ => h)
    (fun k => [Res.blk bh (.cells (upI (putLow 34 ((tagV R b k : Nat) : Int))).toArray 184 (0, 0)), Res.blk br (.cells (upI r).toArray 184 (0, 0))]) (fun k => k ≤ m) (fun k => m - k) 0 (Nat.zero_le _) ts_ (fun _ s => by rw [show ((tagV R b 0 : Nat) : Int) = 0 from rfl, show putLow 34 0 = zer34 from by decide]; exact s) ?_
  intro k hkm
  have hdl : (b.drop (16 * k)).length = b.length - 16 * k := by simp
  have hH := tagV_lt R b k
  by_cases hklt : k < m
  · have hstep := tagV_step R b k
    have ed : b.drop (16 * (k + 1)) = (b.drop (16 * k)).drop (min (b.drop (16 * k)).length 16) := by
      rw [List.drop_drop]
      by_cases h16 : 16 ≤ (b.drop (16 * k)).length
      · rw [Nat.min_eq_right h16]; rfl
      · rw [List.drop_of_length_le (by omega), List.drop_of_length_le (by omega)]
    have hdb : Bytes (b.drop (16 * k)) := bytes_drop hb _
    generalize b.drop (16 * k) = c at hdl hdb hstep ed ⊢
    have hH' : ((tagV R b k : Nat) : Int) < 1361129467683753853853498429727072845819 := by have : pP = 1361129467683753853853498429727072845819 := rfl; omega
    have hH0 : (0 : Int) ≤ ((tagV R b k : Nat) : Int) := by omega
    generalize ((tagV R b k : Nat) : Int) = H at hH' hH0 hstep ⊢
    obtain ⟨q, hq⟩ : ∃ q, q = min c.length 16 := ⟨_, rfl⟩
    have hmin : (if (16 : Int) < (c.length : Int) then (16 : Int) else (c.length : Int)) = (q : Int) := by split<;>omega
    rw [← hq] at ed
    have ht : c.take 16 = c.take q := by
      by_cases h16 : 16 ≤ c.length
      · rw [show q = 16 by omega]
      · rw [List.take_of_length_le (by omega), List.take_of_length_le (by omega)]
    have ql : (c.take q).length = q := by simp; omega
    rw [ht, ql] at hstep
    have htb : Bytes (c.take q) := bytes_take hdb q
    have hvt := vI_vN htb
    have hvlt := vN_lt htb
    rw [ql] at hvlt
    have h256 : (256 : Nat) ^ q ≤ 256 ^ 16 := Nat.pow_le_pow_right (by decide) (by omega)
    have hp16 : (256 : Nat) ^ 16 = 340282366920938463463374607431768211456 := by decide
    have hpi : ((256 ^ q : Nat) : Int) = 256 ^ q := by rw [Int.natCast_pow]; rfl
    have hgk : ∀ i (hi : i < q), c[i]'(by omega) = (c.take q).getD i 0 := fun i hi => by rw [List.getD_eq_getElem?_getD, List.getElem?_take_of_lt hi, List.getElem?_eq_getElem (by omega)]; rfl
    have hat : ∀ i, i < q → ∀ {n : Nat} {F : List (Nat × Value)} {h : View} {L : List Res} {dst : Option Nat} {ty : Nat} {pos : String} {af : Array Edge} {gd : Option (Nat × Bool)} {x y : Operand}, ev F x = some (.string (bstr c)) → ev F y = some (.int .i64 (i : Nat)) → QV Tryz.prog n F h L ⟨dst, .index 9 x y, ty, pos, af, gd⟩ (.int .u8 ((c.take q).getD i 0)) := by
      intro i hi n F h L dst ty pos af gd x y hx hy
      rw [← hgk i hi]
      exact qv_at_bstr (k := i) hdb hx hy rfl (by omega)
    have htd : ∀ x ∈ c.take q, 0 ≤ x ∧ x ≤ 255 := fun x hx => by have := htb x hx; omega
    clear hgk ht
    generalize c.take q = t at hstep ql hvt hvlt hat htd
    repeat' (first|refine zw347 ?_|(refine ta_ ?_;intro _)|(refine zk0 ?_ ?_<;>intro ht)|fail)
    refine cx_perm (L' := [Res.blk bh (.cells (upI (adS (putLow 34 H) t 0)).toArray 184 (0, 0)), Res.blk br (.cells (upI r).toArray 184 (0, 0))]) (.refl _) ?_
    refine cx_loop (X := Nat) (fun i => [(0, .string (bstr key)), (1, .string (bstr c)), (5, .pointer (some ⟨br, 0, none⟩)), (6, .pointer (some ⟨bh, 0, none⟩)), (9, .int .i64 (q : Nat)), (10, .int .i64 (i : Nat))]) (fun _ => h)
      (fun i => [Res.blk bh (.cells (upI (adS (putLow 34 H) t i)).toArray 184 (0, 0)), Res.blk br (.cells (upI r).toArray 184 (0, 0))]) (fun i => i ≤ q) (fun i => q - i) 0 (Nat.zero_le _) ts_ (fun _ s => s) ?_
    intro i hi
    have hal : (adS (putLow 34 H) t i).length = 34 := (adS_len _ _ i).trans (putLow_len _ _)
    have had := adS_dig (h := putLow 34 H) (c := t) pl255 htd i
    by_cases hiq : i < q
    · have e1 : (adS (putLow 34 H) t i).set i ((adS (putLow 34 H) t i).getD i 0 + t.getD i 0) = adS (putLow 34 H) t (i + 1) := rfl
      have g1 := dig_get had (by omega) i
      have g2 := dig_get htd (by omega) i
      have hat := @hat i hiq
      generalize adS (putLow 34 H) t i = p at hal e1 g1 ⊢
      have ca := getD_ati (l := p) (i := i) (by omega)
      generalize t.getD i 0 = y at hat e1 g2
      have w64 : IntKind.i64.wrap y = y := wrap_i64 (by unfold I64; omega)
      repeat' (first|refine zw3 ?_|(refine ta_ ?_;intro _)|(refine zk0 ?_ ?_<;>intro ht)|fail)
      refine cx_region_draw' rfl (by kernel_rfl) ?_
      repeat' (first|refine zw348 ?_|(refine ycf ?_;(first|(refine zg0 ?_ ?_<;>intro ht)|(refine tb_ ?_ ?_ ?_;(·(exact to_));(·intro _;(exact to_));intro _)))|fail)
      repeat' (first|refine zw349 ?_|(refine ta_ ?_;intro _)|(refine zk0 ?_ ?_<;>intro ht)|fail)
      refine nx_round (i + 1) (by show i + 1 ≤ q; omega) (by show q - (i + 1) < q - i; omega) ts_ (fun _ s => s)
    have ei : i = q := by omega
    subst ei
    have hav := adS_val (putLow 34 H) t i (by rw [putLow_len]; omega) (by omega)
    rw [List.take_of_length_le (by omega), vI_putLow 34 hH0 (by have : (1361129467683753853853498429727072845819 : Int) < 256 ^ 34 := by decide
                                                                omega), hvt] at hav
    generalize adS (putLow 34 H) t i = p at hal had hav ⊢
    have ca := getD_ati (l := p) (i := i) (by omega)
    have g1 := dig_get had (by omega) i
    obtain ⟨p1, ep⟩ : ∃ p1, p1 = p.set i (p.getD i 0 + 1) := ⟨_, rfl⟩
    have hp1 : p1.length = 34 := by rw [ep, List.length_set]; exact hal
    have hd1 : ∀ x ∈ p1, 0 ≤ x ∧ x ≤ 511 := by
      rw [ep]
      exact dig_set (fun x hx => by have := had x hx; omega) (by omega)
    have hv1 : vI p1 = H + (vN t : Int) + 256 ^ i := by
      rw [ep, vI_set _ (by omega), hav]
      grind
    have hV0 : 0 ≤ H + (vN t : Int) + 256 ^ i := by omega
    have hV1 : H + (vN t : Int) + 256 ^ i < 256 ^ 17 := by
      have : (256 : Int) ^ 17 = 87112285931760246646623899502532662132736 := by decide
      omega
    generalize H + (vN t : Int) + 256 ^ i = V at hv1 hV0 hV1 hstep
    have hV34 : V < 256 ^ 34 := Int.lt_of_lt_of_le hV1 (by decide)
    have C1 := rcarry_sp p1 V 511 hp1 hd1 (by omega) hv1 hV34 h
    repeat' (first|refine zw350 ?_|(refine ta_ ?_;intro _)|(refine zk0 ?_ ?_<;>intro ht)|fail)
    (refine ycn (ycp Tryz.func129 rfl (by kernel_rfl) rfl) (C1) rfl rfl rfl ?_ ?_; (· (exact to_)))
    have hVl : (putLow 34 V).length = 34 := putLow_len _ _
    have hVd : ∀ x ∈ putLow 34 V, 0 ≤ x ∧ x ≤ 255 := pl255
    have hVt := vI_put_take hV0 hV1
    generalize putLow 34 V = hv at hVl hVd hVt ⊢
    repeat' (first|refine zw351 ?_|(refine ta_ ?_;intro _)|(refine zk0 ?_ ?_<;>intro ht)|fail)
    rename_i bx
    refine cx_perm (L' := [Res.blk bx (.cells (upI (cvout hv r 0)).toArray 184 (0, 0)), Res.blk bh (.cells (upI hv).toArray 184 (0, 0)), Res.blk br (.cells (upI r).toArray 184 (0, 0))]) (.refl _) ?_
    refine cx_loop (X := Nat) (fun j => [(0, .string (bstr key)), (1, .string (bstr (c.drop i))), (5, .pointer (some ⟨br, 0, none⟩)), (6, .pointer (some ⟨bh, 0, none⟩)), (11, .pointer (some ⟨bx, 0, none⟩)), (12, .int .i64 (j : Nat))]) (fun _ => h)
      (fun j => [Res.blk bx (.cells (upI (cvout hv r j)).toArray 184 (0, 0)), Res.blk bh (.cells (upI hv).toArray 184 (0, 0)), Res.blk br (.cells (upI r).toArray 184 (0, 0))]) (fun j => j ≤ 17) (fun j => 17 - j) 0 (Nat.zero_le _) ts_ (fun _ s => s) ?_
    intro j hj
    have hcl := cvout_len hv r j
    have hcd := cvout_dig hVd hrd j
    by_cases hj17 : j < 17
    · have ej : cvout hv r (j + 1) = cvin (cvout hv r j) (hv.getD j 0) r j 17 := rfl
      have gh := dig_get hVd (by omega) j
      have ch := getD_ati (l := hv) (i := j) (by omega)
      generalize cvout hv r j = x0 at hcl hcd ej ⊢
      generalize hv.getD j 0 = y at ej gh ch
      repeat' (first|refine zw3 ?_|(refine ta_ ?_;intro _)|(refine zk0 ?_ ?_<;>intro ht)|fail)
      refine cx_perm (L' := [Res.blk bx (.cells (upI (cvin x0 y r j 0)).toArray 184 (0, 0)), Res.blk bh (.cells (upI hv).toArray 184 (0, 0)), Res.blk br (.cells (upI r).toArray 184 (0, 0))]) (.refl _) ?_
      refine cx_loop (X := Nat) (fun e => [(0, .string (bstr key)), (1, .string (bstr (c.drop i))), (5, .pointer (some ⟨br, 0, none⟩)), (6, .pointer (some ⟨bh, 0, none⟩)), (11, .pointer (some ⟨bx, 0, none⟩)), (12, .int .i64 (j : Nat)), (13, .int .i64 (e : Nat))]) (fun _ => h)
        (fun e => [Res.blk bx (.cells (upI (cvin x0 y r j e)).toArray 184 (0, 0)), Res.blk bh (.cells (upI hv).toArray 184 (0, 0)), Res.blk br (.cells (upI r).toArray 184 (0, 0))]) (fun e => e ≤ 17) (fun e => 17 - e) 0 (Nat.zero_le _) ts_ (fun _ s => s) ?_
      intro e he
      have hel : (cvin x0 y r j e).length = 34 := (cvin_len _ _ _ _ e).trans hcl
      have hed := cvin_dig (i := j) hcd hrd gh (by omega) e
      by_cases he17 : e < 17
      · have ee : (cvin x0 y r j e).set (j + e) ((cvin x0 y r j e).getD (j + e) 0 + y * r.getD e 0) = cvin x0 y r j (e + 1) := rfl
        have g1 := dig_get hed (by omega) (j + e)
        have g2 := dig_get hrd (by omega) e
        have g3 : 0 ≤ y * r.getD e 0 := Int.mul_nonneg gh.1 g2.1
        have g4 : y * r.getD e 0 ≤ 255 * 255 := Int.mul_le_mul gh.2 g2.2 g2.1 (by omega)
        have cr := getD_ati (l := r) (i := e) (by omega)
        generalize cvin x0 y r j e = p at hel ee g1 ⊢
        have ca := getD_ati (l := p) (i := j + e) (by omega)
        repeat' (first|refine zw3 ?_|(refine ta_ ?_;intro _)|(refine zk0 ?_ ?_<;>intro ht)|fail)
        refine cx_region_draw' rfl (by kernel_rfl) ?_
        repeat' (first|refine zw352 ?_|(refine ycf ?_;(first|(refine zg0 ?_ ?_<;>intro ht)|(refine tb_ ?_ ?_ ?_;(·(exact to_));(·intro _;(exact to_));intro _)))|fail)
        repeat' (first|refine zw336 ?_|(refine ta_ ?_;intro _)|(refine zk0 ?_ ?_<;>intro ht)|fail)
        refine nx_round (e + 1) (by show e + 1 ≤ 17; omega) (by show 17 - (e + 1) < 17 - e; omega) ts_ (fun _ s => s)
      have ee : e = 17 := by omega
      subst ee
      rw [← ej]
      repeat' (first|refine zw3 ?_|(refine ta_ ?_;intro _)|(refine zk0 ?_ ?_<;>intro ht)|fail)
      refine nx_round (j + 1) (by show j + 1 ≤ 17; omega) (by show 17 - (j + 1) < 17 - j; omega) ts_ (fun _ s => s)
    have ej : j = 17 := by omega
    subst ej
    have hcv := cvout_val hVl hrl 17 (Nat.le_refl _)
    rw [hVt, hrv] at hcv
    have hP0 : 0 ≤ V * (R : Int) := Int.mul_nonneg hV0 (by omega)
    have hP1 : V * (R : Int) < 256 ^ 34 := by
      have h1 : V * (R : Int) ≤ 256 ^ 17 * (R : Int) := Int.mul_le_mul_of_nonneg_right (Int.le_of_lt hV1) (by omega)
      have h2 : (256 : Int) ^ 17 = 87112285931760246646623899502532662132736 := by decide
      have h3 : (256 : Int) ^ 34 = 7588550360256754183279148073529370729071901715047420004889892225542594864082845696 := by decide
      omega
    have C2 := rcarry_sp (cvout hv r 17) (V * (R : Int)) 18792225 (cvout_len _ _ _) (fun x hx => by have := hcd x hx; omega) (by omega) hcv hP1 h
    have F2 := rfold_sp (V * (R : Int)) hP0 hP1 h
    rw [← hstep] at F2
    have hcl := cvout_len hv r 17
    generalize cvout hv r 17 = x0 at C2 hcl ⊢
    generalize putLow 34 (V * (R : Int)) = x1 at C2 F2
    have hnl : (putLow 34 ((tagV R b (k + 1) : Nat) : Int)).length = 34 := putLow_len _ _
    repeat' (first|refine zw353 ?_|(refine ta_ ?_;intro _)|(refine zk0 ?_ ?_<;>intro ht)|fail)
    (refine ycn (ycp Tryz.func129 rfl (by kernel_rfl) rfl) (C2) rfl rfl rfl ?_ ?_; (· (exact to_)))
    (refine ycn (ycp Tryz.func130 rfl (by kernel_rfl) rfl) (F2) rfl rfl rfl ?_ ?_; (· (exact to_)))
    repeat' (first|refine zw354 ?_|(refine ta_ ?_;intro _)|(refine zk0 ?_ ?_<;>intro ht)|fail)
    refine nx_round (k + 1) (by show k + 1 ≤ m; omega) (by show m - (k + 1) < m - k; omega) ?_ (fun _ s => s.tl)
    rw [ed]
    exact ts_
  have ek : k = m := by omega
  subst ek
  repeat' (first|refine zw281 ?_|(refine ta_ ?_;intro _)|(refine zk0 ?_ ?_<;>intro ht)|fail)
  have hH' : ((tagV R b k : Nat) : Int) < 1361129467683753853853498429727072845819 := by have : pP = 1361129467683753853853498429727072845819 := rfl; omega
  have hH0 : (0 : Int) ≤ ((tagV R b k : Nat) : Int) := by omega
  have hgoal : ((tagV R b k + vN ((key.drop 16).take 16) : Nat) : Int) = ((tagV R b k : Nat) : Int) + ((vN ((key.drop 16).take 16) : Nat) : Int) := Int.natCast_add ..
  rw [hgoal]
  generalize ((tagV R b k : Nat) : Int) = H at hH' hH0 ⊢
  have ql : ((key.drop 16).take 16).length = 16 := by simp; omega
  have htb : Bytes ((key.drop 16).take 16) := bytes_take (bytes_drop hk 16) 16
  have hvt := vI_vN htb
  have hvlt := vN_lt htb
  rw [ql] at hvlt
  have hp16 : (256 : Nat) ^ 16 = 340282366920938463463374607431768211456 := by decide
  have hgk : ∀ i (hi : i < 16), key[16 + i]'(by omega) = ((key.drop 16).take 16).getD i 0 := fun i hi => by rw [List.getD_eq_getElem?_getD, List.getElem?_take_of_lt hi, List.getElem?_drop, List.getElem?_eq_getElem (by omega)]; rfl
  have hat : ∀ i, i < 16 → ∀ {n : Nat} {F : List (Nat × Value)} {h : View} {L : List Res} {dst : Option Nat} {ty : Nat} {pos : String} {af : Array Edge} {gd : Option (Nat × Bool)} {x y : Operand}, ev F x = some (.string (bstr key)) → ev F y = some (.int .i64 (16 + (i : Nat) : Int)) → QV Tryz.prog n F h L ⟨dst, .index 9 x y, ty, pos, af, gd⟩ (.int .u8 (((key.drop 16).take 16).getD i 0)) := by
    intro i hi n F h L dst ty pos af gd x y hx hy
    rw [← hgk i hi]
    exact qv_at_bstr (k := 16 + i) hk hx hy (by omega) (by omega)
  have htd : ∀ x ∈ (key.drop 16).take 16, 0 ≤ x ∧ x ≤ 255 := fun x hx => by have := htb x hx; omega
  clear hgk
  generalize (key.drop 16).take 16 = t at ql hvt hvlt hat htd ⊢
  refine cx_perm (L' := [Res.blk bh (.cells (upI (adS (putLow 34 H) t 0)).toArray 184 (0, 0)), Res.blk br (.cells (upI r).toArray 184 (0, 0))]) (.refl _) ?_
  refine cx_loop (X := Nat) (fun i => [(0, .string (bstr key)), (5, .pointer (some ⟨br, 0, none⟩)), (6, .pointer (some ⟨bh, 0, none⟩)), (14, .int .i64 (i : Nat))]) (fun _ => h)
    (fun i => [Res.blk bh (.cells (upI (adS (putLow 34 H) t i)).toArray 184 (0, 0)), Res.blk br (.cells (upI r).toArray 184 (0, 0))]) (fun i => i ≤ 16) (fun i => 16 - i) 0 (Nat.zero_le _) ts_ (fun _ s => s) ?_
  intro i hi
  have hal : (adS (putLow 34 H) t i).length = 34 := (adS_len _ _ i).trans (putLow_len _ _)
  have had := adS_dig (h := putLow 34 H) (c := t) pl255 htd i
  by_cases hiq : i < 16
  · have e1 : (adS (putLow 34 H) t i).set i ((adS (putLow 34 H) t i).getD i 0 + t.getD i 0) = adS (putLow 34 H) t (i + 1) := rfl
    have g1 := dig_get had (by omega) i
    have g2 := dig_get htd (by omega) i
    have hat := @hat i hiq
    generalize adS (putLow 34 H) t i = p at hal e1 g1 ⊢
    have ca := getD_ati (l := p) (i := i) (by omega)
    generalize t.getD i 0 = y at hat e1 g2
    have w64 : IntKind.i64.wrap y = y := wrap_i64 (by unfold I64; omega)
    repeat' (first|refine zw3 ?_|(refine ta_ ?_;intro _)|(refine zk0 ?_ ?_<;>intro ht)|fail)
    refine cx_region_draw' rfl (by kernel_rfl) ?_
    repeat' (first|refine zw348 ?_|(refine ycf ?_;(first|(refine zg0 ?_ ?_<;>intro ht)|(refine tb_ ?_ ?_ ?_;(·(exact to_));(·intro _;(exact to_));intro _)))|fail)
    repeat' (first|refine zw349 ?_|(refine ta_ ?_;intro _)|(refine zk0 ?_ ?_<;>intro ht)|fail)
    refine nx_round (i + 1) (by show i + 1 ≤ 16; omega) (by show 16 - (i + 1) < 16 - i; omega) ts_ (fun _ s => s)
  have ei : i = 16 := by omega
  subst ei
  have hav := adS_val (putLow 34 H) t 16 (by rw [putLow_len]; omega) (by omega)
  rw [List.take_of_length_le (by omega), vI_putLow 34 hH0 (by have : (1361129467683753853853498429727072845819 : Int) < 256 ^ 34 := by decide
                                                              omega), hvt] at hav
  have hV34 : H + ((vN t : Nat) : Int) < 256 ^ 34 := by
    have : (256 : Int) ^ 34 = 7588550360256754183279148073529370729071901715047420004889892225542594864082845696 := by decide
    omega
  have C1 := rcarry_sp (adS (putLow 34 H) t 16) (H + ((vN t : Nat) : Int)) 510 hal had (by omega) hav hV34 h
  generalize adS (putLow 34 H) t 16 = p at hal C1 ⊢
  generalize H + ((vN t : Nat) : Int) = V at C1 ⊢
  have hVl : (putLow 34 V).length = 34 := putLow_len _ _
  repeat' (first|refine zw355 ?_|(refine ta_ ?_;intro _)|(refine zk0 ?_ ?_<;>intro ht)|fail)
  (refine ycn (ycp Tryz.func129 rfl (by kernel_rfl) rfl) (C1) rfl rfl rfl ?_ ?_; (· (exact to_)))
  repeat' (first|refine zw356 ?_|(refine ta_ ?_;intro _)|(refine zk0 ?_ ?_<;>intro ht)|fail)
  rw [← putLow_take 16 34 V (by omega)]
  have hVd : ∀ x ∈ putLow 34 V, 0 ≤ x ∧ x < 256 := fun x hx => dig_put x hx
  generalize putLow 34 V = z at hVl hVd ⊢
  refine cx_row 5 1 ?_
  refine cx_loop (X := Nat × Value) (fun y => [(6, .pointer (some ⟨bh, 0, none⟩)), (15, y.2), (16, .int .i64 (y.1 : Nat))]) (fun _ => h) (fun y => [rowB y.2 (z.take y.1), Res.blk bh (.cells (upI z).toArray 184 (0, 0)), Res.blk br (.cells (upI r).toArray 184 (0, 0))]) (fun y => y.1 ≤ 16) (fun y => 16 - y.1) (0, .slice none 0 0) (Nat.zero_le _) ts_ (fun _ s => s) ?_
  rintro ⟨j, v⟩ hj
  replace hj : j ≤ 16 := hj
  dsimp only
  have htl : (z.take j).length = j := by rw [List.length_take]; omega
  by_cases hj16 : j < 16
  · have hnx : z.take (j + 1) = z.take j ++ [z.getD j 0] := by
      rw [List.take_succ_eq_append_getElem (by omega), List.getD_eq_getElem?_getD, List.getElem?_eq_getElem (by omega)]
      rfl
    have hyd := getD_mem' (P := fun x => 0 ≤ x ∧ x < 256) hVd (by decide) j
    have cz := getD_ati (l := z) (i := j) (by omega)
    generalize z.getD j 0 = y at hnx hyd cz
    have w8 : IntKind.u8.wrap y = y := by rw [wrap_u8]; omega
    repeat' (first|refine zw357 ?_|(refine ta_ ?_;intro _)|(refine zk0 ?_ ?_<;>intro ht)|fail)
    refine rx_append (sz := 1) 1 rfl rfl rfl (yaz 0 rfl) rfl (bcs_one [y]) rfl (by omega) (by unfold maxLen; omega) (by omega) rfl rfl rfl ybf (fun _ => ybf) ?_
    intro v2 _
    repeat' (first|refine zw3 ?_|(refine ta_ ?_;intro _)|(refine zk0 ?_ ?_<;>intro ht)|fail)
    refine nx_round (j + 1, v2) (by show j + 1 ≤ 16; omega) (by show 16 - (j + 1) < 16 - j; omega) ts_ (fun _ s => ?_)
    dsimp only
    rw [hnx]
    unfold rowB
    rw [List.length_append, bcs_app]
    exact s.tl
  have ej : j = 16 := by omega
  subst ej
  refine cx_rowsl 0 rfl ?_
  rintro ad cap rfl
  repeat' (first|refine zw3 ?_|(refine ta_ ?_;intro _)|(refine zk0 ?_ ?_<;>intro ht)|fail)
  refine rx_persist rfl fun h2 hle2 hv => ?_
  have hv : Bs8 h2 (.slice ad (z.take 16).length cap) (z.take 16) := hv
  repeat' (first|refine zw282 ?_|(refine ta_ ?_;intro _)|(refine zk0 ?_ ?_<;>intro ht)|fail)
  exact nx_ret1 rfl (rv_tmp rfl) (fun w' s' => ⟨rfl, s'.base⟩)
end Go.Proofs.YtgeepceieckooaaGreatDoor
end

section
namespace Go.Proofs.YtgeepceieckooaaGreatDoor
open Go Go.Ck
set_option maxHeartbeats 4000000
theorem hpad_at {key : List Int} {c : Int} (hl : key.length ≤ 64) {k : Nat} (hk : k < 64) : (hpadF key c).take (k + 1) = (hpadF key c).take k ++ [bx (if k < key.length then key.getD k 0 else 0) c] := by
  have h1 : (hpadF key c).length = 64 := hpadF_len hl
  rw [List.take_succ_eq_append_getElem (by omega)]
  congr 2
  unfold hpadF mixB
  rw [List.getElem_zipWith, List.getElem_replicate]
  congr 1
  by_cases h2 : k < key.length
  · rw [if_pos h2, List.getElem_append_left h2, List.getD_eq_getElem?_getD, List.getElem?_eq_getElem h2]
    rfl
  · rw [if_neg h2, List.getElem_append_right (by omega), List.getElem_replicate]
theorem rHmac_sp (key m : List Int) (hk : Bytes key) (hl : key.length ≤ 64) (hm : Bytes m) (hml : m.length ≤ 800000) (h : View) (w : World) (s : St ⟨w, h, []⟩ h [] w) :
    Calls Tryz.prog 93 [.string (bstr key), .string (bstr m)].toArray w fun e w' => e = .returned (.string (bstr (hmacF key m))) ∧ St ⟨w, h, []⟩ h [] w' := by
  have l1 : (hpadF key 54).length = 64 := hpadF_len hl
  have l2 : (hpadF key 92).length = 64 := hpadF_len hl
  refine calls_enter Tryz.func93 rfl Tryz.ntmps93 rfl s ?_
  repeat' (first|refine zw281 ?_|(refine ta_ ?_;intro _)|(refine zk0 ?_ ?_<;>intro ht)|fail)
  refine cx_row 5 1 ?_
  refine cx_row 5 1 ?_
  refine cx_loop (X := Nat × Value × Value) (fun y => [(0, .string (bstr key)), (1, .string (bstr m)), (5, y.2.1), (6, y.2.2), (7, .int .i64 (y.1 : Nat))]) (fun _ => h) (fun y => [rowB y.2.1 ((hpadF key 54).take y.1), rowB y.2.2 ((hpadF key 92).take y.1)]) (fun y => y.1 ≤ 64) (fun y => 64 - y.1) (0, .slice none 0 0, .slice none 0 0) (Nat.zero_le _) ts_ (fun _ s => s) ?_
  rintro ⟨k, vi, vo⟩ hk64
  replace hk64 : k ≤ 64 := hk64
  dsimp only
  have t1 : ((hpadF key 54).take k).length = k := by rw [List.length_take]; omega
  have t2 : ((hpadF key 92).take k).length = k := by rw [List.length_take]; omega
  by_cases hkl : k < 64
  · have n1 := hpad_at (c := 54) hl hkl
    have n2 := hpad_at (c := 92) hl hkl
    obtain ⟨c, hc⟩ : ∃ c, c = (if k < key.length then key.getD k 0 else 0) := ⟨_, rfl⟩
    rw [← hc] at n1 n2
    have hcb : 0 ≤ c ∧ c < 256 := by
      rw [hc]
      split
      · rename_i h2
        rw [List.getD_eq_getElem?_getD, List.getElem?_eq_getElem h2]
        exact hk _ (List.getElem_mem _)
      · omega
    generalize (hpadF key 54).take k = A at n1 t1 ⊢
    generalize (hpadF key 92).take k = B at n2 t2 ⊢
    have fin : ∀ (w' : World) (vi2 vo2 : Value) (b1 b2 : Nat) (o1 o2 : Obj), St ⟨w, h, []⟩ h [Res.blk b2 o2, Res.blk b1 o1, Res.row 5 1 vi2 (A.length + 1) (bcs A ++ [.int .u8 (bx c 54)]), Res.row 5 1 vo2 (B.length + 1) (bcs B ++ [.int .u8 (bx c 92)])] w' →
        St ⟨w, h, []⟩ h [rowB vi2 ((hpadF key 54).take (k + 1)), rowB vo2 ((hpadF key 92).take (k + 1))] w' := fun w' vi2 vo2 b1 b2 o1 o2 s => by
      rw [n1, n2]
      unfold rowB
      rw [List.length_append, List.length_append, bcs_app, bcs_app]
      exact s.tl.tl
    by_cases hkk : k < key.length
    · have hck : c = key[k] := by
        rw [hc, if_pos hkk, List.getD_eq_getElem?_getD, List.getElem?_eq_getElem hkk]
        rfl
      repeat' (first|refine zw358 ?_|(refine ta_ ?_;intro _)|(refine zk0 ?_ ?_<;>intro ht)|fail)
      refine rx_append (sz := 1) 1 rfl rfl rfl (yaz 0 rfl) rfl (bcs_one [bx key[k] 54]) rfl (by omega) (by unfold maxLen; omega) (by omega) rfl rfl rfl ybf (fun _ => ybf) ?_
      intro vi2 _
      repeat' (first|refine zw358 ?_|(refine ta_ ?_;intro _)|(refine zk0 ?_ ?_<;>intro ht)|fail)
      refine rx_append (sz := 1) 3 rfl rfl rfl (yaz 0 rfl) rfl (bcs_one [bx key[k] 92]) rfl (by omega) (by unfold maxLen; omega) (by omega) rfl rfl rfl ybf (fun _ => ybf) ?_
      intro vo2 _
      repeat' (first|refine zw3 ?_|(refine ta_ ?_;intro _)|(refine zk0 ?_ ?_<;>intro ht)|fail)
      rw [hck] at fin
      exact nx_round (k + 1, vi2, vo2) (by show k + 1 ≤ 64; omega) (by show 64 - (k + 1) < 64 - k; omega) ts_ (fun w' s => fin w' vi2 vo2 _ _ _ _ s)
    · have hck : c = 0 := by rw [hc, if_neg hkk]
      repeat' (first|refine zw359 ?_|(refine ta_ ?_;intro _)|(refine zk0 ?_ ?_<;>intro ht)|fail)
      refine rx_append (sz := 1) 1 rfl rfl rfl (yaz 0 rfl) rfl (bcs_one [bx 0 54]) rfl (by omega) (by unfold maxLen; omega) (by omega) rfl rfl rfl ybf (fun _ => ybf) ?_
      intro vi2 _
      repeat' (first|refine zw359 ?_|(refine ta_ ?_;intro _)|(refine zk0 ?_ ?_<;>intro ht)|fail)
      refine rx_append (sz := 1) 3 rfl rfl rfl (yaz 0 rfl) rfl (bcs_one [bx 0 92]) rfl (by omega) (by unfold maxLen; omega) (by omega) rfl rfl rfl ybf (fun _ => ybf) ?_
      intro vo2 _
      repeat' (first|refine zw3 ?_|(refine ta_ ?_;intro _)|(refine zk0 ?_ ?_<;>intro ht)|fail)
      rw [hck] at fin
      exact nx_round (k + 1, vi2, vo2) (by show k + 1 ≤ 64; omega) (by show 64 - (k + 1) < 64 - k; omega) ts_ (fun w' s => fin w' vi2 vo2 _ _ _ _ s)
  · have ek : k = 64 := by omega
    subst ek
    rw [List.take_of_length_le (by omega), List.take_of_length_le (by omega)]
    refine cx_persist rfl fun h1 hl1 p1 => ?_
    refine cx_persist rfl fun h2 hl2 p2 => ?_
    have q1 : Bs8 h2 vi (hpadF key 54) := Sc.mono (by simpa using p1) hl2
    have q2 : Bs8 h2 vo (hpadF key 92) := by simpa using p2
    have y1 := hpadF_by key 54
    have y2 := hpadF_by key 92
    have c1 : bstr (hpadF key 54) ++ bstr m = bstr (hpadF key 54 ++ m) := bstr_app _ _
    have z1 : (bstr (hpadF key 54)).size + (bstr m).size < 1000000 := by rw [bstr_size, bstr_size]; omega
    have S1 := rSum_sp (hpadF key 54 ++ m) (cbytes_app y1 hm) (by rw [List.length_append]; omega) h2
    have c2 : bstr (hpadF key 92) ++ bstr (shaF (hpadF key 54 ++ m)) = bstr (hpadF key 92 ++ shaF (hpadF key 54 ++ m)) := bstr_app _ _
    have z2 : (bstr (hpadF key 92)).size + (bstr (shaF (hpadF key 54 ++ m))).size < 1000000 := by rw [bstr_size, bstr_size, shaF_len]; omega
    have S2 := rSum_sp (hpadF key 92 ++ shaF (hpadF key 54 ++ m)) (cbytes_app y2 (shaF_by _)) (by rw [List.length_append, shaF_len]; omega) h2
    repeat' (first|refine zw360 ?_|(refine ta_ ?_;intro _)|(refine zk0 ?_ ?_<;>intro ht)|fail)
    refine cx_region_draw' rfl (by kernel_rfl) ?_
    repeat' (first|refine zw361 ?_|(refine ycf ?_;(first|(refine zg0 ?_ ?_<;>intro ht)|(refine tb_ ?_ ?_ ?_;(·(exact to_));(·intro _;(exact to_));intro _)))|fail)
    (refine ycn (ycp Tryz.func108 rfl (by kernel_rfl) rfl) (S1) rfl rfl rfl ?_ ?_; (· (exact to_)))
    repeat' (first|refine zw361 ?_|(refine ycf ?_;(first|(refine zg0 ?_ ?_<;>intro ht)|(refine tb_ ?_ ?_ ?_;(·(exact to_));(·intro _;(exact to_));intro _)))|fail)
    (refine ycn (ycp Tryz.func108 rfl (by kernel_rfl) rfl) (S2) rfl rfl rfl ?_ ?_; (· (exact to_)))
    repeat' (first|refine zw361 ?_|(refine ycf ?_;(first|(refine zg0 ?_ ?_<;>intro ht)|(refine tb_ ?_ ?_ ?_;(·(exact to_));(·intro _;(exact to_));intro _)))|fail)
    repeat' (first|refine zw3 ?_|(refine ta_ ?_;intro _)|(refine zk0 ?_ ?_<;>intro ht)|fail)
    exact nx_ret1 rfl (rv_tmp rfl) (fun w' s' => ⟨rfl, s'.base⟩)
end Go.Proofs.YtgeepceieckooaaGreatDoor
end

section
namespace Go.Proofs.YtgeepceieckooaaGreatDoor
open Go Go.Ck
set_option maxHeartbeats 4000000
theorem rExpand_sp (key use : List Int) (hk : Bytes key) (hl : key.length ≤ 64) (hu : Bytes use) (hul : use.length ≤ 1000) (h : View) (w : World) (s : St ⟨w, h, []⟩ h [] w) :
    Calls Tryz.prog 94 [.string (bstr key), .string (bstr use), .int .i64 32].toArray w fun e w' => e = .returned (.string (bstr (expandF key use))) ∧ St ⟨w, h, []⟩ h [] w' := by
  have lx := expandF_len key use
  have bx' := expandF_by key use
  have hn1 : num1 1 = [1] := rfl
  have c1 : bstr [] ++ bstr use = bstr use := by rw [bstr_app]; rfl
  have z1 : (bstr []).size + (bstr use).size < 1000000 := by rw [bstr_size, bstr_size, List.length_nil]; omega
  have c2 : bstr use ++ bstr (num1 1) = bstr (use ++ [1]) := bstr_app _ _
  have z2 : (bstr use).size + (bstr (num1 1)).size < 1000000 := by rw [bstr_size, bstr_size, hn1, List.length_singleton]; omega
  have O1 := One_sp 1 (by omega) (by omega) h
  have H1 := rHmac_sp key (use ++ [1]) hk hl (cbytes_app hu (fun b hb => by rw [List.mem_singleton.1 hb]; omega)) (by rw [List.length_append, List.length_singleton]; omega) h
  have e1 : hmacF key (use ++ [1]) = expandF key use := rfl
  rw [e1] at H1
  generalize expandF key use = X at lx bx' H1 ⊢
  refine calls_enter Tryz.func94 rfl Tryz.ntmps94 rfl s ?_
  repeat' (first|refine tw_ ?_|(refine ta_ ?_;intro _)|(refine zk0 ?_ ?_<;>intro ht)|fail)
  refine cx_srow 5 ?_
  refine cx_loop (X := Bool × Value) (fun y => [(0, .string (bstr key)), (1, .string (bstr use)), (2, .int .i64 32), (7, y.2), (8, .string (bstr (if y.1 then X else []))), (9, .int .i64 (if y.1 then 2 else 1))]) (fun _ => h) (fun y => [srB y.2 (if y.1 then X else [])]) (fun y => True) (fun y => if y.1 then 0 else 1) (false, .slice none 0 0) trivial ts_ (fun _ s => s) ?_
  rintro ⟨t, v⟩ _
  dsimp only
  cases t with
  | false =>
    simp only [Bool.false_eq_true, if_false]
    refine cx_srowsl 0 rfl ?_
    rintro ad cap rfl
    repeat' (first|refine zw362 ?_|(refine ta_ ?_;intro _)|(refine zk0 ?_ ?_<;>intro ht)|fail)
    (refine ycn (ycp Tryz.func109 rfl (by kernel_rfl) rfl) (O1) rfl rfl rfl ?_ ?_; (· (exact to_)))
    repeat' (first|refine zw362 ?_|(refine ta_ ?_;intro _)|(refine zk0 ?_ ?_<;>intro ht)|fail)
    (refine ycn (ycp Tryz.func93 rfl (by kernel_rfl) rfl) (H1) rfl rfl rfl ?_ ?_; (· (exact to_)))
    repeat' (first|refine zw362 ?_|(refine ta_ ?_;intro _)|(refine zk0 ?_ ?_<;>intro ht)|fail)
    refine rx_append_b (news := bcs X) 0 rfl rfl rfl (src_str (m := X.length) (bstr_size _) (bstr_bcs bx')) (.inr rfl) (bcs_one _) rfl (by simp only [List.length_nil]; unfold maxLen; omega) (by simp only [List.length_nil]; omega) rfl rfl rfl ybf (fun _ => ybf) ?_
    intro v2
    repeat' (first|refine zw3 ?_|(refine ta_ ?_;intro _)|(refine zk0 ?_ ?_<;>intro ht)|fail)
    refine nx_round (true, v2) trivial (by show 0 < 1; omega) ts_ (fun _ s => ?_)
    dsimp only
    simp only [if_true]
    unfold srB
    simpa [bcs] using s
  | true =>
    simp only [if_true]
    refine cx_persist_s rfl fun h1 hl1 p1 => ?_
    have p1 : Bs8 h1 v X := p1
    obtain ⟨_, ad, cap, rfl, hcap, _⟩ := id p1
    have p2 : Bs8 h1 (.slice ad 32 cap) X := by rw [lx] at p1; unfold Bs8; rw [lx]; unfold Bs8 at p1; rw [lx] at p1; exact p1
    rw [lx] at hcap ⊢
    repeat' (first|refine zw363 ?_|(refine ta_ ?_;intro _)|(refine zk0 ?_ ?_<;>intro ht)|fail)
    exact nx_ret1 rfl (rv_tmp rfl) (fun w' s' => ⟨rfl, s'.base⟩)
end Go.Proofs.YtgeepceieckooaaGreatDoor
end

section
namespace Go.Proofs.YtgeepceieckooaaGreatDoor
open Go Go.Ck
set_option maxHeartbeats 4000000
theorem rpad_sp (b : List Int) (hl : b.length ≤ 400000) (h : View) (w : World) (s : St ⟨w, h, []⟩ h [] w) :
    Calls Tryz.prog 113 [.string (bstr b)].toArray w fun e w' => e = .returned (.string (bstr (padP b))) ∧ St ⟨w, h, []⟩ h [] w' := by
  have hq := padQ_lt b.length
  have hz0 : bstr [0] = ⟨#[0]⟩ := rfl
  refine calls_enter Tryz.func113 rfl Tryz.ntmps113 rfl s ?_
  repeat' (first|refine tw_ ?_|(refine ta_ ?_;intro _)|(refine zk0 ?_ ?_<;>intro ht)|fail)
  refine cx_loop (X := Nat) (fun k => [(0, .string (bstr (b ++ List.replicate k 0)))]) (fun _ => h) (fun k => []) (fun k => k ≤ padQ b.length) (fun k => padQ b.length - k) 0 (Nat.zero_le _) ?_ (fun _ s => s) ?_
  · show Ck.Sub [(0, .string (bstr (b ++ List.replicate 0 0)))] _
    rw [List.replicate_zero, List.append_nil]
    exact ts_
  intro k hk
  have hln : (b ++ List.replicate k (0 : Int)).length = b.length + k := by simp
  have hrem : (((b ++ List.replicate k (0 : Int)).length : Nat) : Int).tmod 16 = (((b.length + k) % 16 : Nat) : Int) := by rw [hln]; rfl
  by_cases hkl : k < padQ b.length
  · have hne : (b.length + k) % 16 ≠ 0 := by unfold padQ at hkl; omega
    have c1 : bstr (b ++ List.replicate k 0) ++ ⟨#[0]⟩ = bstr (b ++ List.replicate (k + 1) 0) := by
      rw [← hz0, bstr_app, List.replicate_succ', List.append_assoc]
    have z1 : (bstr (b ++ List.replicate k 0)).size + (⟨#[0]⟩ : ByteArray).size < 1000000 := by
      rw [bstr_size, hln]
      show b.length + k + 1 < 1000000
      omega
    repeat' (first|refine zw364 ?_|(refine ta_ ?_;intro _)|(refine zk0 ?_ ?_<;>intro ht)|fail)
    exact nx_round (k + 1) (by show k + 1 ≤ _; omega) (by show padQ b.length - (k + 1) < padQ b.length - k; omega) ts_ (fun _ s => s)
  · have ek : k = padQ b.length := by omega
    subst ek
    have h0 : (b.length + padQ b.length) % 16 = 0 := by unfold padQ; omega
    repeat' (first|refine zw365 ?_|(refine ta_ ?_;intro _)|(refine zk0 ?_ ?_<;>intro ht)|fail)
    exact nx_ret1 rfl (rv_tmp rfl) (fun w' s' => ⟨rfl, s'⟩)
theorem rATag_sp (key nonce a b : List Int) (hk : Bytes key) (hn : Bytes nonce) (hk32 : key.length = 32) (hn12 : nonce.length = 12) (ya : Bytes a) (yb : Bytes b) (la : a.length ≤ 200000) (lb : b.length ≤ 200000) (h : View) (w : World) (s : St ⟨w, h, []⟩ h [] w) :
    Calls Tryz.prog 96 [.string (bstr key), .string (bstr nonce), .string (bstr a), .string (bstr b)].toArray w fun e w' => e = .returned (.string (bstr (aeadT key nonce a b))) ∧ St ⟨w, h, []⟩ h [] w' := by
  have B1 := rBlock_sp key 0 nonce hk hn hk32 hn12 h
  have hbl : (blockF key 0 nonce).length = 64 := blockF_len key 0 nonce
  have hbb : Bytes (blockF key 0 nonce) := outF_by _ 16
  have P1 := rpad_sp a (by omega) h
  have P2 := rpad_sp b (by omega) h
  have qa := padQ_lt a.length
  have qb := padQ_lt b.length
  have pa := padP_len a
  have pb := padP_len b
  have w1 : IntKind.u64.wrap (a.length : Int) = (a.length : Int) := wrap_u64 (by omega) (by omega)
  have w2 : IntKind.u64.wrap (b.length : Int) = (b.length : Int) := wrap_u64 (by omega) (by omega)
  have L1 := PutL_sp (a.length : Int) 8 ⟨by omega, by omega⟩ (by omega) h
  have L2 := PutL_sp (b.length : Int) 8 ⟨by omega, by omega⟩ (by omega) h
  have c1 : bstr (padP a) ++ bstr (padP b) = bstr (padP a ++ padP b) := bstr_app _ _
  have z1 : (bstr (padP a)).size + (bstr (padP b)).size < 1000000 := by rw [bstr_size, bstr_size]; omega
  have c2 : bstr (padP a ++ padP b) ++ bstr (putLow 8 (a.length : Int)) = bstr (padP a ++ padP b ++ putLow 8 (a.length : Int)) := bstr_app _ _
  have z2 : (bstr (padP a ++ padP b)).size + (bstr (putLow 8 (a.length : Int))).size < 1000000 := by rw [bstr_size, bstr_size, List.length_append, putLow_len]; omega
  have c3 : bstr (padP a ++ padP b ++ putLow 8 (a.length : Int)) ++ bstr (putLow 8 (b.length : Int)) = bstr (aeadM a b) := bstr_app _ _
  have z3 : (bstr (padP a ++ padP b ++ putLow 8 (a.length : Int))).size + (bstr (putLow 8 (b.length : Int))).size < 1000000 := by rw [bstr_size, bstr_size, List.length_append, List.length_append, putLow_len, putLow_len]; omega
  have ml := aeadM_len a b
  have T1 := rTag_sp ((blockF key 0 nonce).take 32) (aeadM a b) (bytes_take hbb 32) (by rw [List.length_take]; omega) (aeadM_by ya yb) (by omega) h
  have et : tagF ((blockF key 0 nonce).take 32) (aeadM a b) = aeadT key nonce a b := rfl
  rw [et] at T1
  generalize aeadT key nonce a b = X at T1 ⊢
  generalize aeadM a b = M at T1 c3
  generalize blockF key 0 nonce = bk at B1 hbl T1
  have v0 : v32 0 = Value.int .u32 0 := rfl
  rw [v0] at B1
  refine calls_enter Tryz.func96 rfl Tryz.ntmps96 rfl s ?_
  repeat' (first|refine zw366 ?_|(refine ta_ ?_;intro _)|(refine zk0 ?_ ?_<;>intro ht)|fail)
  (refine ycn (ycp Tryz.func110 rfl (by kernel_rfl) rfl) (B1) rfl rfl rfl ?_ ?_; (· (exact to_)))
  repeat' (first|refine zw366 ?_|(refine ta_ ?_;intro _)|(refine zk0 ?_ ?_<;>intro ht)|fail)
  (refine ycn (ycp Tryz.func113 rfl (by kernel_rfl) rfl) (P1) rfl rfl rfl ?_ ?_; (· (exact to_)))
  repeat' (first|refine zw366 ?_|(refine ta_ ?_;intro _)|(refine zk0 ?_ ?_<;>intro ht)|fail)
  (refine ycn (ycp Tryz.func113 rfl (by kernel_rfl) rfl) (P2) rfl rfl rfl ?_ ?_; (· (exact to_)))
  repeat' (first|refine zw366 ?_|(refine ta_ ?_;intro _)|(refine zk0 ?_ ?_<;>intro ht)|fail)
  (refine ycn (ycp Tryz.func85 rfl (by kernel_rfl) rfl) (L1) rfl rfl rfl ?_ ?_; (· (exact to_)))
  repeat' (first|refine zw366 ?_|(refine ta_ ?_;intro _)|(refine zk0 ?_ ?_<;>intro ht)|fail)
  (refine ycn (ycp Tryz.func85 rfl (by kernel_rfl) rfl) (L2) rfl rfl rfl ?_ ?_; (· (exact to_)))
  repeat' (first|refine zw366 ?_|(refine ta_ ?_;intro _)|(refine zk0 ?_ ?_<;>intro ht)|fail)
  (refine ycn (ycp Tryz.func112 rfl (by kernel_rfl) rfl) (T1) rfl rfl rfl ?_ ?_; (· (exact to_)))
  repeat' (first|refine zw366 ?_|(refine ta_ ?_;intro _)|(refine zk0 ?_ ?_<;>intro ht)|fail)
  exact nx_ret1 rfl (rv_tmp rfl) (fun w' s' => ⟨rfl, s'⟩)
theorem rASeal_sp (key nonce a b : List Int) (hk : Bytes key) (hn : Bytes nonce) (hk32 : key.length = 32) (hn12 : nonce.length = 12) (ya : Bytes a) (yb : Bytes b) (la : a.length ≤ 200000) (lb : b.length ≤ 200000) (h : View) (w : World) (s : St ⟨w, h, []⟩ h [] w) :
    Calls Tryz.prog 70 [.string (bstr key), .string (bstr nonce), .string (bstr a), .string (bstr b)].toArray w fun e w' => e = .returned (.string (bstr (aeadS key nonce a b))) ∧ St ⟨w, h, []⟩ h [] w' := by
  have S1 := rStream_sp key 1 nonce b hk hn hk32 hn12 (by omega) yb h
  have hsl : (streamF key 1 nonce b).length = b.length := streamF_len _ _ _ _
  have hsb : Bytes (streamF key 1 nonce b) := strmF_by _ _ _ _ _
  have T1 := rATag_sp key nonce a (streamF key 1 nonce b) hk hn hk32 hn12 ya hsb la (by omega) h
  have htl := aeadT_len key nonce a (streamF key 1 nonce b)
  have c1 : bstr (streamF key 1 nonce b) ++ bstr (aeadT key nonce a (streamF key 1 nonce b)) = bstr (aeadS key nonce a b) := bstr_app _ _
  have z1 : (bstr (streamF key 1 nonce b)).size + (bstr (aeadT key nonce a (streamF key 1 nonce b))).size < 1000000 := by rw [bstr_size, bstr_size]; omega
  generalize aeadS key nonce a b = X at c1 ⊢
  generalize aeadT key nonce a (streamF key 1 nonce b) = t at T1 c1 z1
  generalize streamF key 1 nonce b = c at S1 T1 c1 z1
  have v1 : v32 1 = Value.int .u32 1 := rfl
  rw [v1] at S1
  refine calls_enter Tryz.func70 rfl Tryz.ntmps70 rfl s ?_
  repeat' (first|refine zw367 ?_|(refine ta_ ?_;intro _)|(refine zk0 ?_ ?_<;>intro ht)|fail)
  (refine ycn (ycp Tryz.func95 rfl (by kernel_rfl) rfl) (S1) rfl rfl rfl ?_ ?_; (· (exact to_)))
  repeat' (first|refine zw367 ?_|(refine ta_ ?_;intro _)|(refine zk0 ?_ ?_<;>intro ht)|fail)
  (refine ycn (ycp Tryz.func96 rfl (by kernel_rfl) rfl) (T1) rfl rfl rfl ?_ ?_; (· (exact to_)))
  repeat' (first|refine zw367 ?_|(refine ta_ ?_;intro _)|(refine zk0 ?_ ?_<;>intro ht)|fail)
  exact nx_ret1 rfl (rv_tmp rfl) (fun w' s' => ⟨rfl, s'⟩)
end Go.Proofs.YtgeepceieckooaaGreatDoor
end
