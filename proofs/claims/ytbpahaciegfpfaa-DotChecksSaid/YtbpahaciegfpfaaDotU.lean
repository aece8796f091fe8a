/-
  DotU: dot.Join.
  Conditions: at most 400000 dots in each.
-/
import Derived.Test.YtbpahaciegfpfaaDotT
import Derived.Test.YtbpahaciegfpfaaDotM
namespace Go.Proofs.Ytbpahaciegfpfaa
open Go Go.Ck
set_option maxRecDepth 100000
set_option maxHeartbeats 1000000
set_option linter.unusedVariables false

theorem qv_max' {P : Program} {n : Nat} {F : List (Nat × Value)} {h : View} {L : List Res} {dst : Option Nat} {ty : Nat} {pos : String} {af : Array Edge} {gd : Option (Nat × Bool)} {ts : Array TypeId} {x y : Operand} {k : IntKind} {i j r : Int} (hx : ev F x = some (.int k i)) (hy : ev F y = some (.int k j)) (hr : (if j > i then j else i) = r) :
    QV P n F h L ⟨dst, .call ⟨.builtin .max, #[x, y], ts⟩, ty, pos, af, gd⟩ (.int k r) := by
  subst hr
  exact .mk fun a w f s => by simp [execOp, resolve, invoke, builtin, Builtin.max_, f.ev hx, f.ev hy, Builtin.max2]

def maxI (i j : Int) : Int := if j > i then j else i
def maxU (u v : List Int) : List Int := List.zipWith maxI u v
def maxK (u v : List Int) (k : Nat) : List Int := (maxU u v).take k ++ u.drop k
theorem maxU_len {u v : List Int} (hu : u.length = 16) (hv : v.length = 16) : (maxU u v).length = 16 := by simp [maxU, hu, hv]
theorem maxU_at {u v : List Int} (hu : u.length = 16) (hv : v.length = 16) (i : Nat) : (maxU u v).getD i 0 = maxI (u.getD i 0) (v.getD i 0) := by
  by_cases hi : i < 16
  · have h1 : i < u.length := by omega
    have h2 : i < v.length := by omega
    simp [maxU, List.getElem?_zipWith, h1, h2]
  · have h1 : u[i]? = none := List.getElem?_eq_none (by omega)
    have h2 : v[i]? = none := List.getElem?_eq_none (by omega)
    have h3 : (maxU u v)[i]? = none := List.getElem?_eq_none (by rw [maxU_len hu hv]; omega)
    simp [List.getD_eq_getElem?_getD, h1, h2, h3, maxI]
theorem maxK_len {u v : List Int} {k : Nat} (hu : u.length = 16) (hv : v.length = 16) (hk : k ≤ 16) : (maxK u v k).length = 16 := by
  simp [maxK, maxU_len hu hv, hu]; omega
theorem maxK_at {u v : List Int} {k : Nat} (hu : u.length = 16) (hv : v.length = 16) (hk : k < 16) : (maxK u v k).getD k 0 = u.getD k 0 := by
  unfold maxK
  have h1 : ((maxU u v).take k).length = k := by simp [maxU_len hu hv]; omega
  rw [List.getD_eq_getElem?_getD, List.getElem?_append_right (by omega), h1, Nat.sub_self, List.getElem?_drop, Nat.add_zero, ← List.getD_eq_getElem?_getD]
theorem maxK_set {u v : List Int} {k : Nat} (hu : u.length = 16) (hv : v.length = 16) (hk : k < 16) : (maxK u v k).set k (maxI (u.getD k 0) (v.getD k 0)) = maxK u v (k + 1) := by
  unfold maxK
  have h1 : ((maxU u v).take k).length = k := by simp [maxU_len hu hv]; omega
  have hkm : k < (maxU u v).length := by rw [maxU_len hu hv]; omega
  rw [List.set_append_right _ _ (by omega), h1, Nat.sub_self, List.drop_eq_getElem_cons (by omega : k < u.length), List.set_cons_zero, List.take_succ_eq_append_getElem hkm, ← maxU_at hu hv k]
  rw [List.getD_eq_getElem?_getD, List.getElem?_eq_getElem hkm, Option.getD_some, List.append_assoc]
  rfl
theorem spl_up {u : List Int} {x : Int} {i o : Nat} (ho : o = i) (hi : i < u.length) : spl (up u).toArray.toList o (Value.int .i64 x).cells.toList = up (u.set i x) := by
  subst ho
  show (up u).take o ++ [Value.int .i64 x] ++ (up u).drop (o + 1) = up (u.set o x)
  have hl : (up u).length = u.length := by simp [up]
  unfold up
  rw [List.map_set, List.set_eq_take_append_cons_drop, if_pos (by simpa using hi)]
  simp
theorem up_sz {u : List Int} (hu : u.length = 16) : (Value.agg (up u).toArray).cells.size = 16 := by
  show (up u).toArray.size = 16
  simp [up, hu]
theorem up_fit {u : List Int} (hu : u.length = 16) : 0 + (Value.agg (up u).toArray).cells.size ≤ 16 := by rw [up_sz hu]; omega
theorem up_all {u : List Int} (hu : u.length = 16) : (Value.agg (up u).toArray).cells.toList.length = 16 := by
  show (up u).toArray.toList.length = 16
  simp [up, hu]
theorem up_one {u : List Int} : (Value.agg (up u).toArray).cells.toList.all Value.oneCell' = true := by
  show (up u).toArray.toList.all Value.oneCell' = true
  simp [up, Value.oneCell']
theorem cell_upx {h : View} {L : List Res} {b o : Nat} {u : List Int} (c : Cells h L ⟨b, 0, none⟩ (up u)) (i : Nat) (ho : o = 0 + i) (hi : i < u.length) : CellAt h L b o (.int .i64 (u.getD i 0)) := by
  rw [ho]
  exact c.cell (by simp [up, hi])
theorem cell_upy {h : View} {L : List Res} {b o i : Nat} {u : List Int} {x : Int} (hx : u.getD i 0 = x) (c : Cells h L ⟨b, 0, none⟩ (up u)) (ho : o = 0 + i) (hi : i < u.length) : CellAt h L b o (.int .i64 x) := by
  rw [← hx]
  exact cell_upx c i ho hi
theorem fit_up {u : List Int} {x : Int} {i o : Nat} (ho : o = i) (hi : i < u.length) : o + (Value.int .i64 x).cells.size ≤ (up u).toArray.size := by
  show o + 1 ≤ _
  simp [up]; omega
theorem max_bd {u v : List Int} (hu : u.length = 16) (hv : v.length = 16) (h1 : ∀ x ∈ u, 0 ≤ x ∧ x ≤ 1099511627776) (h2 : ∀ x ∈ v, 0 ≤ x ∧ x ≤ 1099511627776) : ∀ x ∈ maxU u v, 0 ≤ x ∧ x ≤ 1099511627776 := fun x hx => by
  obtain ⟨i, hi, rfl⟩ := List.getElem_of_mem hx
  have h16 : i < 16 := by rw [maxU_len hu hv] at hi; exact hi
  have e := maxU_at hu hv i
  rw [List.getD_eq_getElem?_getD, List.getElem?_eq_getElem hi] at e
  simp only [Option.getD_some] at e
  rw [e]
  have a := h1 _ (getD_mem (u := u) (i := i) (by omega))
  have b := h2 _ (getD_mem (u := v) (i := i) (by omega))
  unfold maxI
  split <;> assumption

theorem maxK_all {u v : List Int} (hu : u.length = 16) (hv : v.length = 16) : maxK u v 16 = maxU u v := by
  unfold maxK
  rw [List.take_of_length_le (by rw [maxU_len hu hv]; omega), List.drop_eq_nil_of_le (by omega), List.append_nil]

theorem Join_sp (cv dvv : Value) (u v : List Int) (l m : List Dt) (h : View) (hc : Cx h cv u l) (hd : Cx h dvv v m) (hl : l.length ≤ 400000) (hm : m.length ≤ 400000) (w : World) (s : St ⟨w, h, []⟩ h [] w) :
    Calls Try.prog 17 [cv, dvv].toArray w fun e w' => ∃ x : View × Value × List Dt × Int, e = .returned (.tuple #[x.2.1, .int .i64 x.2.2.2]) ∧ St ⟨w, h, []⟩ x.1 [] w' ∧
      (if checkC u l ≠ 0 ∨ checkC v m ≠ 0 then x.2.2.2 = 1 ∧ Cx x.1 x.2.1 zeroU []
      else x.2.2.1.Perm (l ++ m) ∧ SortedD x.2.2.1 ∧
        (if 32 < (tfold (maxU u v) x.2.2.1).2.length then x.2.2.2 = 11 ∧ Cx x.1 x.2.1 zeroU [] else x.2.2.2 = 0 ∧ Cx x.1 x.2.1 (tfold (maxU u v) x.2.2.1).1 (tfold (maxU u v) x.2.2.1).2)) := by
  have hc' := hc
  have hd' := hd
  obtain ⟨hu, mv, rfl, hs⟩ := hc
  obtain ⟨hv, mw, rfl, hs2⟩ := hd
  have hchk := check_sp _ u l h hc' (by omega)
  have hchk2 := check_sp _ v m h hd' (by omega)
  refine calls_enter Try.func17 rfl Try.ntmps17 rfl s ?_
  repeat' (first | (refine ycf ?_; apply ybk; (· first | (first | (apply yad; (· rfl); (· exact yaz 1 rfl); (· exact ycj hv)) | (apply yad; (· rfl); (· exact yaz 2 rfl); (· exact ycj hu)) | (apply yad (vs := up u); (· rfl); (· exact ycm (yaz 2 rfl)); (· simp [up, hu])) | (apply yad (vs := up v); (· rfl); (· exact ycm (yaz 2 rfl)); (· simp [up, hv])))); (· rfl); (· rfl)) | refine t1_ ?_ | (refine ta_ ?_; intro _) | ((fail_if_success (refine ybi rfl ?_)); refine ybj rfl ?_ ?_ <;> (intro ht; rw [ht]; first | replace ht := of_decide_eq_true ht | replace ht := of_decide_eq_false ht | skip)) | (refine ych ?_; first | (refine ybw rfl ?_ ?_ <;> intro ht) | (refine ybx rfl ?_ ?_ <;> intro ht)))
  (refine ycn (ycp Try.func24 rfl (by kernel_rfl) rfl) (hchk) rfl rfl rfl ?_ ?_; (· (exact to_)))
  repeat' (first | (refine ycf ?_; apply ybk; (· first | (first | (apply yad; (· rfl); (· exact yaz 1 rfl); (· exact ycj hv)) | (apply yad; (· rfl); (· exact yaz 2 rfl); (· exact ycj hu)) | (apply yad (vs := up u); (· rfl); (· exact ycm (yaz 2 rfl)); (· simp [up, hu])) | (apply yad (vs := up v); (· rfl); (· exact ycm (yaz 2 rfl)); (· simp [up, hv])))); (· rfl); (· rfl)) | refine t1_ ?_ | (refine ta_ ?_; intro _) | ((fail_if_success (refine ybi rfl ?_)); refine ybj rfl ?_ ?_ <;> (intro ht; rw [ht]; first | replace ht := of_decide_eq_true ht | replace ht := of_decide_eq_false ht | skip)) | (refine ych ?_; first | (refine ybw rfl ?_ ?_ <;> intro ht) | (refine ybx rfl ?_ ?_ <;> intro ht)))
  · have hk := ht
    refine nx_ret2 rfl (rv_cells rfl (yaz 0 rfl) rfl) (rv_tmp rfl) (fun w' s' => ⟨(h, cxv zeroU (.slice none 0 0), [], 1), rfl, s'.nil, ?_⟩)
    rw [if_pos (.inl hk)]
    exact ⟨rfl, rfl, _, rfl, Sc.nil h 2 none 0⟩
  have hk1 : checkC u l = 0 := by omega
  clear ht
  (refine ycn (ycp Try.func24 rfl (by kernel_rfl) rfl) (hchk2) rfl rfl rfl ?_ ?_; (· (exact to_)))
  repeat' (first|(refine ycf ?_;apply ybk;(·first|(first|(apply yad;(·rfl);(·exact yaz 1 rfl);(·exact ycj hv))|(apply yad;(·rfl);(·exact yaz 2 rfl);(·exact ycj hu))|(apply yad (vs := up u);(·rfl);(·exact ycm (yaz 2 rfl));(·simp [up, hu]))|(apply yad (vs := up v);(·rfl);(·exact ycm (yaz 2 rfl));(·simp [up, hv]))));(·rfl);(·rfl))|(refine ybg 0 rfl rfl rfl (up_sz hu) (up_fit hu) up_one (ybh (up_all hu)) rfl rfl ?_ ?_ ?_;(·(exact to_));(·(exact to_)))|refine t1_ ?_|(refine ta_ ?_;intro _)|((fail_if_success (refine ybi rfl ?_));refine ybj rfl ?_ ?_<;>(intro ht;rw [ht];first|replace ht := of_decide_eq_true ht|replace ht := of_decide_eq_false ht|skip))|(refine ych ?_;first|(refine ybw rfl ?_ ?_<;>intro ht)|(refine ybx rfl ?_ ?_<;>intro ht)))
  · have hk := ht
    refine nx_ret2 rfl (rv_cells rfl (yaz 0 rfl) rfl) (rv_tmp rfl) (fun w' s' => ⟨(h, cxv zeroU (.slice none 0 0), [], 1), rfl, s'.nil, ?_⟩)
    rw [if_pos (.inr hk)]
    exact ⟨rfl, rfl, _, rfl, Sc.nil h 2 none 0⟩
  have hk2 : checkC v m = 0 := by omega
  clear ht
  rename_i b2 b3 b4 b6
  obtain ⟨hub, _, hlr⟩ := check_right hk1
  obtain ⟨hvb, _, hmr⟩ := check_right hk2
  refine cx_loop (X := Nat) (fun k => [(2, .pointer (some ⟨b2, 0, none⟩)), (3, .pointer (some ⟨b3, 0, none⟩)), (4, .pointer (some ⟨b4, 0, none⟩)), (5, .int .i64 0), (6, .pointer (some ⟨b6, 0, none⟩)), (21, .agg (up v).toArray), (22, .int .i64 k)]) (fun _ => h)
    (fun k => [Res.blk b6 (.cells (up (maxK u v k)).toArray 25 (0, 0)), Res.blk b4 (.cells (cxc zeroU (.slice none 0 0)).toArray 27 (0, 0)), Res.blk b3 (.cells (cxc v mw).toArray 27 (0, 0)), Res.blk b2 (.cells (cxc u mv).toArray 27 (0, 0))])
    (fun k => k ≤ 16) (fun k => 16 - k) 0 (Nat.zero_le _) ts_ (fun _ s => s) ?_
  intro k hk
  have hKl := maxK_len hu hv hk
  by_cases hk16 : k < 16
  · have hkv : k < v.length := by omega
    have hidx : (up v).toArray[((k : Int)).toNat * 1]? = some (.int .i64 (v.getD k 0)) := by simp [up, hkv]
    have hset := maxK_set hu hv hk16
    have hat := maxK_at hu hv hk16
    repeat' (first|(refine ycf ?_;apply ybk;(·first|(first|(apply qv_index;(·rfl);(·rfl);(·omega);(·omega);(·exact hidx))|(refine qv_max' rfl rfl rfl))|(apply yae;(·rfl);(·(exact cell_upy hat (yaz 0 rfl) (by omega) (by omega)))));(·rfl);(·rfl))|(refine ybg 0 rfl rfl rfl rfl (fit_up (i := k) (by omega) (by omega)) rfl (spl_up (i := k) (by omega) (by omega)) rfl rfl ?_ ?_ ?_;(·(exact to_));(·(exact to_)))|refine t1_ ?_|(refine ta_ ?_;intro _)|((fail_if_success (refine ybi rfl ?_));refine ybj rfl ?_ ?_<;>(intro ht;rw [ht];first|replace ht := of_decide_eq_true ht|replace ht := of_decide_eq_false ht|skip))|(refine ych ?_;first|(refine ybw rfl ?_ ?_<;>intro ht)|(refine ybx rfl ?_ ?_<;>intro ht)))
    · refine nx_round (k + 1) (by show k + 1 ≤ _; omega) (by show 16 - (k + 1) < 16 - k; omega) ts_ (fun _ s => ?_)
      rw [← hset]
      exact s
    · omega
  · have ek : k = 16 := by omega
    subst ek
    repeat' (first|(refine ycf ?_;apply ybk;(·first|(first|(apply qv_index;(·rfl);(·rfl);(·omega);(·omega);(·exact hidx))|(refine qv_max' rfl rfl rfl))|(apply yae;(·rfl);(·(exact cell_upy hat (yaz 0 rfl) (by omega) (by omega)))));(·rfl);(·rfl))|(refine ybg 0 rfl rfl rfl rfl (fit_up (i := k) (by omega) (by omega)) rfl (spl_up (i := k) (by omega) (by omega)) rfl rfl ?_ ?_ ?_;(·(exact to_));(·(exact to_)))|refine t1_ ?_|(refine ta_ ?_;intro _)|((fail_if_success (refine ybi rfl ?_));refine ybj rfl ?_ ?_<;>(intro ht;rw [ht];first|replace ht := of_decide_eq_true ht|replace ht := of_decide_eq_false ht|skip))|(refine ych ?_;first|(refine ybw rfl ?_ ?_<;>intro ht)|(refine ybx rfl ?_ ?_<;>intro ht)))
    rw [maxK_all hu hv]
    have hU := maxU_len hu hv
    have hUb := max_bd hu hv hub hvb
    have hrr : ∀ x ∈ l ++ m, rightB x = true := fun x hx => by
      rcases List.mem_append.1 hx with hx | hx
      · exact hlr x hx
      · exact hmr x hx
    obtain ⟨_, ad1, cap1, rfl, _, _⟩ := id hs
    obtain ⟨_, ad2, cap2, rfl, _, _⟩ := id hs2
    refine cx_region_draw' rfl (by kernel_rfl) ?_
    repeat' (refine ycf ?_;(first|(first|(apply ybm;(·(first|(apply yad (vs := up (maxU u v));(·rfl);(·exact yaz 0 rfl);(·simp [up, hU]))|(apply yae;(·rfl);(·(first|exact yck (yaz 3 rfl) hu rfl|exact yck (yaz 2 rfl) hv rfl)))|exact tq_));(·rfl);(·rfl);(·(exact th_)))|refine ybl rfl rfl ?_|((fail_if_success (refine ybi rfl ?_));refine ybj rfl ?_ ?_<;>(intro ht;rw [ht];first|replace ht := of_decide_eq_true ht|replace ht := of_decide_eq_false ht|skip))|(refine tb_ ?_ ?_ ?_;(·(exact to_));(·intro _;(exact to_));intro _)|(first|(refine ybg 0 rfl rfl rfl rfl (fit_up (i := k) (by omega) (by omega)) rfl (spl_up (i := k) (by omega) (by omega)) rfl rfl ?_ ?_ ?_;(·(exact to_));(·(exact to_)))|(refine tqs_ ?_ ?_ ?_;(·(exact to_));(·(exact to_))))|(apply ybn;(·(first|(apply yad (vs := up (maxU u v));(·rfl);(·exact yaz 0 rfl);(·simp [up, hU]))|(apply yae;(·rfl);(·(first|exact yck (yaz 3 rfl) hu rfl|exact yck (yaz 2 rfl) hv rfl)))|exact tq_));(·rfl);(·rfl);(·rfl);(·(exact to_))))|refine ycg ?_))
    rename_i b9
    refine rx_rowOf 1 2 2 (by omega) (by unfold maxLen; omega) rfl ?_
    refine rx_persist rfl fun h1 hle1 hs9 => ?_
    have hs9' : Sc h1 1 (.slice (some ⟨b9, 0, none⟩) 2 2) 2 ([((Value.slice ad1 l.length cap1), l), ((Value.slice ad2 m.length cap2), m)].map (·.1)) := hs9
    have ef : flatP [((Value.slice ad1 l.length cap1), l), ((Value.slice ad2 m.length cap2), m)] 2 = l ++ m := by simp [flatP]
    (refine yco (ycp Try.func37 rfl (by kernel_rfl) rfl) (Concat_sp _ [((Value.slice ad1 l.length cap1), l), ((Value.slice ad2 m.length cap2), m)] h1 hs9' (by simp;exact ⟨hs.mono hle1, hs2.mono hle1⟩) (by show (flatP _ 2).length ≤ _;rw [ef];simp;omega) (by simp)) rfl rfl rfl ?_ ?_ ?_;(·(first|exact ybf|(refine .inl ?_;(first|exact fun _ s => s|exact fun _ s => s.tl|exact fun _ s => s.tl.tl|exact fun _ s => Hd.sub s hle1 (fun r hr => hr)|exact fun _ s => Hd.sub s (Le.trans hle1 hle) (fun r hr => List.mem_cons_of_mem _ hr)))|exact to_));(·intro _ _ hle;(first|exact ybf|(refine .inl ?_;(first|exact fun _ s => s|exact fun _ s => s.tl|exact fun _ s => s.tl.tl|exact fun _ s => Hd.sub s hle1 (fun r hr => hr)|exact fun _ s => Hd.sub s (Le.trans hle1 hle) (fun r hr => List.mem_cons_of_mem _ hr)))|exact to_));intro x px hle)
    refine rx_persist rfl fun h2 hle2 hs4 => ?_
    have hs4' : Ds h2 x (l ++ m) := by
      unfold Ds
      rw [← ef]
      exact hs4
    have hle12 : Le h h2 := Le.trans hle1 (Le.trans hle hle2)
    clear px hle
    (refine yco (ycp Try.func33 rfl (by kernel_rfl) rfl) (tidy_sp (maxU u v) x (l ++ m) h2 hU hUb hs4' hrr (by simp; omega)) rfl rfl rfl ?_ ?_ ?_; (· (first | exact ybf | (refine .inl ?_; (first | exact fun _ s => s | exact fun _ s => Hd.sub s hle12 (fun r hr => hr) | exact fun _ s => Hd.sub s (Le.trans hle12 hle) (fun r hr => hr))) | exact to_)); (· intro _ _ hle; (first | exact ybf | (refine .inl ?_; (first | exact fun _ s => s | exact fun _ s => Hd.sub s hle12 (fun r hr => hr) | exact fun _ s => Hd.sub s (Le.trans hle12 hle) (fun r hr => hr))) | exact to_)); intro x px hle)
    obtain ⟨h4, v4, srt, er⟩ := x
    replace hle : Le h2 h4 := hle
    obtain ⟨p1, p2, p3⟩ := px
    have hcx : ∃ u' m', Cx h4 v4 u' m' := by
      split at p3
      · exact ⟨_, _, p3.2⟩
      · exact ⟨_, _, p3.2⟩
    obtain ⟨u', m', hu', mv', rfl, hs'⟩ := hcx
    obtain ⟨_, ad', cap', rfl, _, _⟩ := id hs'
    repeat' (refine ycf ?_;(first|(first|(apply ybm;(·(first|(apply yad (vs := up (maxU u v));(·rfl);(·exact yaz 0 rfl);(·simp [up, hU]))|(apply yae;(·rfl);(·(first|exact yck (yaz 3 rfl) hu rfl|exact yck (yaz 2 rfl) hv rfl)))|exact tq_));(·rfl);(·rfl);(·(first|exact fun _ s => s|exact fun _ s => Hd.sub s hle12 (fun r hr => hr)|exact fun _ s => Hd.sub s (Le.trans hle12 hle) (fun r hr => hr))))|refine ybl rfl rfl ?_|((fail_if_success (refine ybi rfl ?_));refine ybj rfl ?_ ?_<;>(intro ht;rw [ht];first|replace ht := of_decide_eq_true ht|replace ht := of_decide_eq_false ht|skip))|(refine tb_ ?_ ?_ ?_;(·(first|exact ybf|(refine .inl ?_;(first|exact fun _ s => s|exact fun _ s => Hd.sub s hle12 (fun r hr => hr)|exact fun _ s => Hd.sub s (Le.trans hle12 hle) (fun r hr => hr)))|exact to_));(·intro _;(first|exact ybf|(refine .inl ?_;(first|exact fun _ s => s|exact fun _ s => Hd.sub s hle12 (fun r hr => hr)|exact fun _ s => Hd.sub s (Le.trans hle12 hle) (fun r hr => hr)))|exact to_));intro _)|(first|(refine ybg 1 rfl rfl rfl (cxc_sz hu') (cxc_fit hu') (cxc_one rfl) (ybh (cxc_all hu')) rfl rfl ?_ ?_ ?_;(·(first|exact ybf|(refine .inl ?_;(first|exact fun _ s => s|exact fun _ s => Hd.sub s hle12 (fun r hr => hr)|exact fun _ s => Hd.sub s (Le.trans hle12 hle) (fun r hr => hr)))|exact to_));(·(first|exact ybf|(refine .inl ?_;(first|exact fun _ s => s|exact fun _ s => Hd.sub s hle12 (fun r hr => hr)|exact fun _ s => Hd.sub s (Le.trans hle12 hle) (fun r hr => hr)))|exact to_)))|(refine tqs_ ?_ ?_ ?_;(·(first|exact ybf|(refine .inl ?_;(first|exact fun _ s => s|exact fun _ s => Hd.sub s hle12 (fun r hr => hr)|exact fun _ s => Hd.sub s (Le.trans hle12 hle) (fun r hr => hr)))|exact to_));(·(first|exact ybf|(refine .inl ?_;(first|exact fun _ s => s|exact fun _ s => Hd.sub s hle12 (fun r hr => hr)|exact fun _ s => Hd.sub s (Le.trans hle12 hle) (fun r hr => hr)))|exact to_))))|(apply ybn;(·(first|(apply yad (vs := up (maxU u v));(·rfl);(·exact yaz 0 rfl);(·simp [up, hU]))|(apply yae;(·rfl);(·(first|exact yck (yaz 3 rfl) hu rfl|exact yck (yaz 2 rfl) hv rfl)))|exact tq_));(·rfl);(·rfl);(·rfl);(·(first|exact ybf|(refine .inl ?_;(first|exact fun _ s => s|exact fun _ s => Hd.sub s hle12 (fun r hr => hr)|exact fun _ s => Hd.sub s (Le.trans hle12 hle) (fun r hr => hr)))|exact to_))))|refine ycg ?_))
    repeat' (first|(refine ycf ?_;apply ybk;(·first|(apply yad (vs := up (maxU u v));(·rfl);(·exact yaz 0 rfl);(·simp [up, hU]))|(apply yae;(·rfl);(·(first|exact yck (yaz 3 rfl) hu rfl|exact yck (yaz 2 rfl) hv rfl))));(·rfl);(·rfl))|(refine ybg 1 rfl rfl rfl (cxc_sz hu') (cxc_fit hu') (cxc_one rfl) (ybh (cxc_all hu')) rfl rfl ?_ ?_ ?_;(·(first|exact ybf|(refine .inl ?_;(first|exact fun _ s => s|exact fun _ s => Hd.sub s hle12 (fun r hr => hr)|exact fun _ s => Hd.sub s (Le.trans hle12 hle) (fun r hr => hr)))|exact to_));(·(first|exact ybf|(refine .inl ?_;(first|exact fun _ s => s|exact fun _ s => Hd.sub s hle12 (fun r hr => hr)|exact fun _ s => Hd.sub s (Le.trans hle12 hle) (fun r hr => hr)))|exact to_)))|refine t1_ ?_|(refine ta_ ?_;intro _)|((fail_if_success (refine ybi rfl ?_));refine ybj rfl ?_ ?_<;>(intro ht;rw [ht];first|replace ht := of_decide_eq_true ht|replace ht := of_decide_eq_false ht|skip))|(refine ych ?_;first|(refine ybw rfl ?_ ?_<;>intro ht)|(refine ybx rfl ?_ ?_<;>intro ht)))
    refine nx_ret2 rfl (rv_cells rfl (yaz 1 rfl) (cxc_all hu')) (rv_tmp rfl) (fun w' s' => ⟨(h4, cxv u' (.slice ad' m'.length cap'), srt, er), rfl, s'.nil, ?_⟩)
    rw [if_neg (by simp [hk1, hk2])]
    exact ⟨p1, p2, p3⟩
end Go.Proofs.Ytbpahaciegfpfaa
