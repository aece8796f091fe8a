/-
  BitM: the law DotReads holds of every input: the walk.
  Conditions: none that an input can break.
-/
import Derived.Test.YtbpahaciegfpfaaBitL
import Derived.Test.YtbpahaciegfpfaaDotV1
namespace Go.Proofs.Ytbpahaciegfpfaa
open Go Go.Ck
set_option maxRecDepth 100000
set_option maxHeartbeats 2000000
set_option linter.unusedVariables false

section
variable {P : Program} {n : Nat} {F : List (Nat × Value)} {h : View} {L : List Res} {dst : Option Nat} {ty : Nat} {pos : String} {af : Array Edge} {gd : Option (Nat × Bool)}
theorem qv_str_none {S D e : Nat} {x : Operand} {len cap : Nat} [tS : TyU P S (.slice e)] [te : TyU P e (.int .u8)] [tD : TyU P D .string] (hx : ev F x = some (.slice none len cap)) :
    QV P n F h L ⟨dst, .convert S D x, ty, pos, af, gd⟩ (.string (bstr [])) := by
  refine .mk fun a w f s => ?_
  have h1 := run_convert_bytes_string (P := P) w S D e none len cap tS.u te.u tD.u
  have h2 : (Conv.bytesToString (.slice none len cap)).run P w = .ok (.string (bstr [])) w := by
    unfold Conv.bytesToString
    rfl
  rw [h2] at h1
  simp only [execOp, f.ev hx, Sem.run_bind, h1]
  rfl
theorem qv_str_bs {S D e : Nat} {x : Operand} {v : Value} {l : List Int} [tS : TyU P S (.slice e)] [te : TyU P e (.int .u8)] [tD : TyU P D .string] (hx : ev F x = some v) (hs : Bs8 h v l) :
    QV P n F h L ⟨dst, .convert S D x, ty, pos, af, gd⟩ (.string (bstr l)) := by
  obtain ⟨_, ad, cap, rfl, _, _⟩ := id hs
  rcases hs.src (L := L) with ⟨hn, _⟩ | ⟨b, o, rfl, hc⟩
  · have hl : l = [] := by simpa [bcs] using hn
    subst hl
    cases ad with
    | none => exact qv_str_none hx
    | some ad => exact qv_str_of (l := []) hx (fun w _ j u hj => by simp [bcs] at hj)
  · exact qv_str_of hx hc
end

/-- what is read of bytes: was it a context, and which -/
def rdS (l : List Int) : Bool × List Int × List Dt := if endC (rdC l).2.2 = 0 ∧ checkC (rdC l).1 (rdC l).2.1 = 0 then (true, (rdC l).1, (rdC l).2.1) else (false, zeroU, [])
theorem rdS_ok {l : List Int} (hb : Bytes l) (hl : l.length ≤ 1000000) : ((rdS l).1 = true → checkC (rdS l).2.1 (rdS l).2.2 = 0 ∧ encW (rdS l).2.1 (rdS l).2.2 = l) ∧ (rdS l).2.2.length ≤ 32 := by
  unfold rdS
  split
  · rename_i hx
    obtain ⟨h1, h2, h3⟩ := rd_took hb hl hx.1
    exact ⟨fun _ => ⟨hx.2, h1⟩, h3⟩
  · exact ⟨fun hx => (by cases hx), Nat.zero_le _⟩
theorem Read_s (sv : Value) (l : List Int) (hb : Bytes l) (hl : l.length ≤ 1000000) (h : View) (hs : Bs8 h sv l) (w : World) (s : St ⟨w, h, []⟩ h [] w) :
    Calls Try.prog 25 [sv].toArray w fun en w' => ∃ x : View × Value, en = .returned (.tuple #[x.2, .int .i64 (if (rdS l).1 = true then 0 else 2)]) ∧ St ⟨w, h, []⟩ x.1 [] w' ∧ Cx x.1 x.2 (rdS l).2.1 (rdS l).2.2 := by
  refine (Read_sp sv l hb hl h hs w s).mono ?_
  rintro en w' ⟨⟨h1, v, e⟩, he, hst, px⟩
  dsimp only at he hst px
  unfold rdS
  split at px <;> rename_i hx
  · obtain ⟨rfl, hc⟩ := px
    rw [if_pos hx]
    exact ⟨(h1, v), he, hst, hc⟩
  · obtain ⟨rfl, hc⟩ := px
    rw [if_neg hx]
    exact ⟨(h1, v), he, hst, hc⟩
theorem rRead_s (l : List Int) (hb : Bytes l) (hl : l.length ≤ 1000000) (h : View) (w : World) (s : St ⟨w, h, []⟩ h [] w) :
    Calls Try.prog 26 [.string (bstr l)].toArray w fun en w' => ∃ x : View × Value, en = .returned (.tuple #[x.2, .bool (rdS l).1]) ∧ St ⟨w, h, []⟩ x.1 [] w' ∧ Cx x.1 x.2 (rdS l).2.1 (rdS l).2.2 := by
  refine (rRead_sp l hb hl h w s).mono ?_
  rintro en w' ⟨⟨h1, v, e⟩, he, hst, px⟩
  dsimp only at he hst px
  unfold rdS
  split at px <;> rename_i hx
  · obtain ⟨rfl, hc⟩ := px
    rw [if_pos hx]
    exact ⟨(h1, v), he, hst, hc⟩
  · obtain ⟨rfl, hc⟩ := px
    rw [if_neg hx]
    exact ⟨(h1, v), he, hst, hc⟩

theorem DotReads_sp (bv : Value) (l : List Int) (h : View) (hb : Bytes l) (hs : Bs8 h bv l) (hl : l.length ≤ 9223372036854775807) (w : World) (s : St ⟨w, h, []⟩ h [] w) :
    Calls Try.prog 7 [bv].toArray w fun e w' => ∃ h', e = .returned (.bool true) ∧ St ⟨w, h, []⟩ h' [] w' := by
  obtain ⟨_, ad, cap, rfl, hcap, _⟩ := id hs
  refine calls_enter Try.func7 rfl Try.ntmps7 rfl s ?_
  have hj : (if (700 : Int) < (l.length : Int) then (700 : Int) else (l.length : Int)) = ((min l.length 700 : Nat) : Int) := by split <;> omega
  generalize hJ : min l.length 700 = j at hj
  have hjl : j ≤ l.length := by omega
  have hj700 : j ≤ 700 := by omega
  have hst : Bs8 h (.slice ad j cap) (l.take j) := by
    have htl : (l.take j).length = j := by simp; omega
    have := sc_take hs hjl
    unfold Bs8
    rw [htl]
    simpa [bcs, List.map_take] using this
  have hbm : Bytes (l.take j) := fun b hb' => hb b (List.mem_of_mem_take hb')
  have hml : (l.take j).length ≤ 700 := by simp; omega
  have hjm : (l.take j).length = j := by simp; omega
  generalize l.take j = m at hst hbm hml hjm
  subst hjm
  repeat' (first | (refine ycf ?_; apply ybk; (· first | (first | (refine qv_min' rfl rfl hj) | (apply qv_slice_to; (· rfl); (· rfl); (· omega); (· omega)))); (· rfl); (· rfl)) | refine t1_ ?_ | (refine ta_ ?_; intro _) | ((fail_if_success (refine ybi rfl ?_)); refine ybj rfl ?_ ?_ <;> (intro ht; rw [ht]; first | replace ht := of_decide_eq_true ht | replace ht := of_decide_eq_false ht | skip)) | (refine ych ?_; first | (refine ybw rfl ?_ ?_ <;> intro ht) | (refine ybx rfl ?_ ?_ <;> intro ht)))
  (refine yco (ycp Try.func25 rfl (by kernel_rfl) rfl) (Read_s _ m hbm (by omega) h hst) rfl rfl rfl ?_ ?_ ?_; (· (exact to_)); (· intro _ _ hle; (exact to_)); intro x px hle)
  obtain ⟨h1, v1⟩ := x
  replace hle : Le h h1 := hle
  have hs1 := hle
  have c1 : Cx h1 v1 (rdS m).2.1 (rdS m).2.2 := px
  have b1 : Bs8 h1 (.slice ad m.length cap) m := hst.mono hs1
  have R1 := rRead_s m hbm (by omega) h1
  obtain ⟨rok, rlen⟩ := rdS_ok hbm (by omega)
  clear px hle
  generalize rdS m = R at c1 R1 rok rlen ⊢
  obtain ⟨t, U, M⟩ := R
  dsimp only at c1 R1 rok rlen ⊢
  obtain ⟨hu, x1, hx1, s1⟩ := id c1
  subst hx1
  obtain ⟨_, p1, q1, rfl, _, _⟩ := id s1
  repeat' (first | (refine ycf ?_; apply ybk; (· first | (exact qv_str_bs rfl b1)); (· rfl); (· rfl)) | (refine ybg 0 rfl rfl rfl (cxc_sz hu) (cxc_fit hu) (cxc_one rfl) (ybh (cxc_all hu)) rfl rfl ?_ ?_ ?_; (· (exact to_)); (· (exact to_))) | refine t1_ ?_ | (refine ta_ ?_; intro _) | ((fail_if_success (refine ybi rfl ?_)); refine ybj rfl ?_ ?_ <;> (intro ht; rw [ht]; first | replace ht := of_decide_eq_true ht | replace ht := of_decide_eq_false ht | skip)) | (refine ych ?_; first | (refine ybw rfl ?_ ?_ <;> intro ht) | (refine ybx rfl ?_ ?_ <;> intro ht)))
  (refine yco (ycp Try.func26 rfl (by kernel_rfl) rfl) (R1) rfl rfl rfl ?_ ?_ ?_; (· (exact to_)); (· intro _ _ hle; (exact to_)); intro x px hle)
  obtain ⟨h2, v2⟩ := x
  replace hle : Le h1 h2 := hle
  have hs2 := hle
  have c2 : Cx h2 v2 U M := px
  clear px hle
  have c12 := c1.mono hs2
  obtain ⟨_, x2, hx2, s2⟩ := id c2
  subst hx2
  obtain ⟨_, p2, q2, rfl, _, _⟩ := id s2
  have b2 := b1.mono hs2
  have S1 := refSame_sp _ _ U U M M h2 c12 c2 (by omega) (by omega)
  rw [show (decide (U = U) && decide (M = M)) = true by simp] at S1
  cases t with
  | false =>
    rw [if_neg (by decide)]
    repeat' (first | (refine ycf ?_; apply ybk; (· first | (first | (apply yad; (· rfl); (· first | exact yaz 0 rfl | exact yaz 1 rfl); (· exact ycj hu)) | (apply qv_neq_bool (t := false); (· rfl); (· rfl); (· rfl)))); (· rfl); (· rfl)) | (refine ybg 0 rfl rfl rfl (cxc_sz hu) (cxc_fit hu) (cxc_one rfl) (ybh (cxc_all hu)) rfl rfl ?_ ?_ ?_; (· (exact to_)); (· (exact to_))) | refine t1_ ?_ | (refine ta_ ?_; intro _) | ((fail_if_success (refine ybi rfl ?_)); refine ybj rfl ?_ ?_ <;> (intro ht; rw [ht]; first | replace ht := of_decide_eq_true ht | replace ht := of_decide_eq_false ht | skip)) | (refine ych ?_; first | (refine ybw rfl ?_ ?_ <;> intro ht) | (refine ybx rfl ?_ ?_ <;> intro ht)))
    refine cx_region_draw' rfl (by kernel_rfl) ?_
    repeat' (refine ycf ?_;(first|(first|(apply ybm;(·(first|(first|(apply yad;(·rfl);(·first|exact yaz 0 rfl|exact yaz 1 rfl);(·exact ycj hu))|(apply qv_neq_bool (t := false);(·rfl);(·rfl);(·rfl)))|exact tq_));(·rfl);(·rfl);(·(exact th_)))|refine ybl rfl rfl ?_|((fail_if_success (refine ybi rfl ?_));refine ybj rfl ?_ ?_<;>(intro ht;rw [ht];first|replace ht := of_decide_eq_true ht|replace ht := of_decide_eq_false ht|skip))|(refine tb_ ?_ ?_ ?_;(·(exact to_));(·intro _;(exact to_));intro _)|(first|(refine ybg 0 rfl rfl rfl (cxc_sz hu) (cxc_fit hu) (cxc_one rfl) (ybh (cxc_all hu)) rfl rfl ?_ ?_ ?_;(·(exact to_));(·(exact to_)))|(refine tqs_ ?_ ?_ ?_;(·(exact to_));(·(exact to_))))|(apply ybn;(·(first|(first|(apply yad;(·rfl);(·first|exact yaz 0 rfl|exact yaz 1 rfl);(·exact ycj hu))|(apply qv_neq_bool (t := false);(·rfl);(·rfl);(·rfl)))|exact tq_));(·rfl);(·rfl);(·rfl);(·(exact to_))))|refine ycg ?_))
    (refine ycn (ycp Try.func11 rfl (by kernel_rfl) rfl) (dots_sp h2) rfl rfl rfl ?_ ?_; (· (exact to_)))
    repeat' (refine ycf ?_;(first|(first|(apply ybm;(·(first|(first|(apply yad;(·rfl);(·first|exact yaz 0 rfl|exact yaz 1 rfl);(·exact ycj hu))|(apply qv_neq_bool (t := false);(·rfl);(·rfl);(·rfl)))|exact tq_));(·rfl);(·rfl);(·(exact th_)))|refine ybl rfl rfl ?_|((fail_if_success (refine ybi rfl ?_));refine ybj rfl ?_ ?_<;>(intro ht;rw [ht];first|replace ht := of_decide_eq_true ht|replace ht := of_decide_eq_false ht|skip))|(refine tb_ ?_ ?_ ?_;(·(exact to_));(·intro _;(exact to_));intro _)|(first|(refine ybg 0 rfl rfl rfl (cxc_sz hu) (cxc_fit hu) (cxc_one rfl) (ybh (cxc_all hu)) rfl rfl ?_ ?_ ?_;(·(exact to_));(·(exact to_)))|(refine tqs_ ?_ ?_ ?_;(·(exact to_));(·(exact to_))))|(apply ybn;(·(first|(first|(apply yad;(·rfl);(·first|exact yaz 0 rfl|exact yaz 1 rfl);(·exact ycj hu))|(apply qv_neq_bool (t := false);(·rfl);(·rfl);(·rfl)))|exact tq_));(·rfl);(·rfl);(·rfl);(·(exact to_))))|refine ycg ?_))
    (refine ycn (ycp Try.func21 rfl (by kernel_rfl) rfl) (from_sp _ U M h2 c12) rfl rfl rfl ?_ ?_; (· (exact to_)))
    repeat' (refine ycf ?_;(first|(first|(apply ybm;(·(first|(first|(apply yad;(·rfl);(·first|exact yaz 0 rfl|exact yaz 1 rfl);(·exact ycj hu))|(apply qv_neq_bool (t := false);(·rfl);(·rfl);(·rfl)))|exact tq_));(·rfl);(·rfl);(·(exact th_)))|refine ybl rfl rfl ?_|((fail_if_success (refine ybi rfl ?_));refine ybj rfl ?_ ?_<;>(intro ht;rw [ht];first|replace ht := of_decide_eq_true ht|replace ht := of_decide_eq_false ht|skip))|(refine tb_ ?_ ?_ ?_;(·(exact to_));(·intro _;(exact to_));intro _)|(first|(refine ybg 0 rfl rfl rfl (cxc_sz hu) (cxc_fit hu) (cxc_one rfl) (ybh (cxc_all hu)) rfl rfl ?_ ?_ ?_;(·(exact to_));(·(exact to_)))|(refine tqs_ ?_ ?_ ?_;(·(exact to_));(·(exact to_))))|(apply ybn;(·(first|(first|(apply yad;(·rfl);(·first|exact yaz 0 rfl|exact yaz 1 rfl);(·exact ycj hu))|(apply qv_neq_bool (t := false);(·rfl);(·rfl);(·rfl)))|exact tq_));(·rfl);(·rfl);(·rfl);(·(exact to_))))|refine ycg ?_))
    (refine ycn (ycp Try.func20 rfl (by kernel_rfl) rfl) (S1) rfl rfl rfl ?_ ?_; (· (exact to_)))
    repeat' (refine ycf ?_;(first|(first|(apply ybm;(·(first|(first|(apply yad;(·rfl);(·first|exact yaz 0 rfl|exact yaz 1 rfl);(·exact ycj hu))|(apply qv_neq_bool (t := false);(·rfl);(·rfl);(·rfl)))|exact tq_));(·rfl);(·rfl);(·(exact th_)))|refine ybl rfl rfl ?_|((fail_if_success (refine ybi rfl ?_));refine ybj rfl ?_ ?_<;>(intro ht;rw [ht];first|replace ht := of_decide_eq_true ht|replace ht := of_decide_eq_false ht|skip))|(refine tb_ ?_ ?_ ?_;(·(exact to_));(·intro _;(exact to_));intro _)|(first|(refine ybg 0 rfl rfl rfl (cxc_sz hu) (cxc_fit hu) (cxc_one rfl) (ybh (cxc_all hu)) rfl rfl ?_ ?_ ?_;(·(exact to_));(·(exact to_)))|(refine tqs_ ?_ ?_ ?_;(·(exact to_));(·(exact to_))))|(apply ybn;(·(first|(first|(apply yad;(·rfl);(·first|exact yaz 0 rfl|exact yaz 1 rfl);(·exact ycj hu))|(apply qv_neq_bool (t := false);(·rfl);(·rfl);(·rfl)))|exact tq_));(·rfl);(·rfl);(·rfl);(·(exact to_))))|refine ycg ?_))
    repeat' (first | (refine ycf ?_; apply ybk; (· first | (first | (apply yad; (· rfl); (· first | exact yaz 0 rfl | exact yaz 1 rfl); (· exact ycj hu)) | (apply qv_neq_bool (t := false); (· rfl); (· rfl); (· rfl)))); (· rfl); (· rfl)) | (refine ybg 0 rfl rfl rfl (cxc_sz hu) (cxc_fit hu) (cxc_one rfl) (ybh (cxc_all hu)) rfl rfl ?_ ?_ ?_; (· (exact to_)); (· (exact to_))) | refine t1_ ?_ | (refine ta_ ?_; intro _) | ((fail_if_success (refine ybi rfl ?_)); refine ybj rfl ?_ ?_ <;> (intro ht; rw [ht]; first | replace ht := of_decide_eq_true ht | replace ht := of_decide_eq_false ht | skip)) | (refine ych ?_; first | (refine ybw rfl ?_ ?_ <;> intro ht) | (refine ybx rfl ?_ ?_ <;> intro ht)))
    exact nx_ret1 rfl (rv_tmp rfl) (fun w' s' => ⟨h2, rfl, s'.nil⟩)
  | true =>
    rw [if_pos rfl]
    obtain ⟨k1, k2⟩ := rok rfl
    have W1 := Write_sp _ U M h2 c12 (by omega)
    rw [if_pos k1, k2, k1] at W1
    repeat' (first | (refine ycf ?_; apply ybk; (· first | (first | (apply yad; (· rfl); (· first | exact yaz 0 rfl | exact yaz 1 rfl); (· exact ycj hu)) | (apply qv_neq_bool (t := false); (· rfl); (· rfl); (· rfl)))); (· rfl); (· rfl)) | (refine ybg 0 rfl rfl rfl (cxc_sz hu) (cxc_fit hu) (cxc_one rfl) (ybh (cxc_all hu)) rfl rfl ?_ ?_ ?_; (· (exact to_)); (· (exact to_))) | refine t1_ ?_ | (refine ta_ ?_; intro _) | ((fail_if_success (refine ybi rfl ?_)); refine ybj rfl ?_ ?_ <;> (intro ht; rw [ht]; first | replace ht := of_decide_eq_true ht | replace ht := of_decide_eq_false ht | skip)) | (refine ych ?_; first | (refine ybw rfl ?_ ?_ <;> intro ht) | (refine ybx rfl ?_ ?_ <;> intro ht)))
    refine cx_region_draw' rfl (by kernel_rfl) ?_
    repeat' (refine ycf ?_;(first|(first|(apply ybm;(·(first|(first|(apply yad;(·rfl);(·first|exact yaz 0 rfl|exact yaz 1 rfl);(·exact ycj hu))|(apply qv_neq_bool (t := false);(·rfl);(·rfl);(·rfl)))|exact tq_));(·rfl);(·rfl);(·(exact th_)))|refine ybl rfl rfl ?_|((fail_if_success (refine ybi rfl ?_));refine ybj rfl ?_ ?_<;>(intro ht;rw [ht];first|replace ht := of_decide_eq_true ht|replace ht := of_decide_eq_false ht|skip))|(refine tb_ ?_ ?_ ?_;(·(exact to_));(·intro _;(exact to_));intro _)|(first|(refine ybg 0 rfl rfl rfl (cxc_sz hu) (cxc_fit hu) (cxc_one rfl) (ybh (cxc_all hu)) rfl rfl ?_ ?_ ?_;(·(exact to_));(·(exact to_)))|(refine tqs_ ?_ ?_ ?_;(·(exact to_));(·(exact to_))))|(apply ybn;(·(first|(first|(apply yad;(·rfl);(·first|exact yaz 0 rfl|exact yaz 1 rfl);(·exact ycj hu))|(apply qv_neq_bool (t := false);(·rfl);(·rfl);(·rfl)))|exact tq_));(·rfl);(·rfl);(·rfl);(·(exact to_))))|refine ycg ?_))
    (refine ycn (ycp Try.func11 rfl (by kernel_rfl) rfl) (dots_sp h2) rfl rfl rfl ?_ ?_; (· (exact to_)))
    repeat' (refine ycf ?_;(first|(first|(apply ybm;(·(first|(first|(apply yad;(·rfl);(·first|exact yaz 0 rfl|exact yaz 1 rfl);(·exact ycj hu))|(apply qv_neq_bool (t := false);(·rfl);(·rfl);(·rfl)))|exact tq_));(·rfl);(·rfl);(·(exact th_)))|refine ybl rfl rfl ?_|((fail_if_success (refine ybi rfl ?_));refine ybj rfl ?_ ?_<;>(intro ht;rw [ht];first|replace ht := of_decide_eq_true ht|replace ht := of_decide_eq_false ht|skip))|(refine tb_ ?_ ?_ ?_;(·(exact to_));(·intro _;(exact to_));intro _)|(first|(refine ybg 0 rfl rfl rfl (cxc_sz hu) (cxc_fit hu) (cxc_one rfl) (ybh (cxc_all hu)) rfl rfl ?_ ?_ ?_;(·(exact to_));(·(exact to_)))|(refine tqs_ ?_ ?_ ?_;(·(exact to_));(·(exact to_))))|(apply ybn;(·(first|(first|(apply yad;(·rfl);(·first|exact yaz 0 rfl|exact yaz 1 rfl);(·exact ycj hu))|(apply qv_neq_bool (t := false);(·rfl);(·rfl);(·rfl)))|exact tq_));(·rfl);(·rfl);(·rfl);(·(exact to_))))|refine ycg ?_))
    (refine ycn (ycp Try.func21 rfl (by kernel_rfl) rfl) (from_sp _ U M h2 c12) rfl rfl rfl ?_ ?_; (· (exact to_)))
    repeat' (refine ycf ?_;(first|(first|(apply ybm;(·(first|(first|(apply yad;(·rfl);(·first|exact yaz 0 rfl|exact yaz 1 rfl);(·exact ycj hu))|(apply qv_neq_bool (t := false);(·rfl);(·rfl);(·rfl)))|exact tq_));(·rfl);(·rfl);(·(exact th_)))|refine ybl rfl rfl ?_|((fail_if_success (refine ybi rfl ?_));refine ybj rfl ?_ ?_<;>(intro ht;rw [ht];first|replace ht := of_decide_eq_true ht|replace ht := of_decide_eq_false ht|skip))|(refine tb_ ?_ ?_ ?_;(·(exact to_));(·intro _;(exact to_));intro _)|(first|(refine ybg 0 rfl rfl rfl (cxc_sz hu) (cxc_fit hu) (cxc_one rfl) (ybh (cxc_all hu)) rfl rfl ?_ ?_ ?_;(·(exact to_));(·(exact to_)))|(refine tqs_ ?_ ?_ ?_;(·(exact to_));(·(exact to_))))|(apply ybn;(·(first|(first|(apply yad;(·rfl);(·first|exact yaz 0 rfl|exact yaz 1 rfl);(·exact ycj hu))|(apply qv_neq_bool (t := false);(·rfl);(·rfl);(·rfl)))|exact tq_));(·rfl);(·rfl);(·rfl);(·(exact to_))))|refine ycg ?_))
    (refine ycn (ycp Try.func20 rfl (by kernel_rfl) rfl) (S1) rfl rfl rfl ?_ ?_; (· (exact to_)))
    repeat' (refine ycf ?_;(first|(first|(apply ybm;(·(first|(first|(apply yad;(·rfl);(·first|exact yaz 0 rfl|exact yaz 1 rfl);(·exact ycj hu))|(apply qv_neq_bool (t := false);(·rfl);(·rfl);(·rfl)))|exact tq_));(·rfl);(·rfl);(·(exact th_)))|refine ybl rfl rfl ?_|((fail_if_success (refine ybi rfl ?_));refine ybj rfl ?_ ?_<;>(intro ht;rw [ht];first|replace ht := of_decide_eq_true ht|replace ht := of_decide_eq_false ht|skip))|(refine tb_ ?_ ?_ ?_;(·(exact to_));(·intro _;(exact to_));intro _)|(first|(refine ybg 0 rfl rfl rfl (cxc_sz hu) (cxc_fit hu) (cxc_one rfl) (ybh (cxc_all hu)) rfl rfl ?_ ?_ ?_;(·(exact to_));(·(exact to_)))|(refine tqs_ ?_ ?_ ?_;(·(exact to_));(·(exact to_))))|(apply ybn;(·(first|(first|(apply yad;(·rfl);(·first|exact yaz 0 rfl|exact yaz 1 rfl);(·exact ycj hu))|(apply qv_neq_bool (t := false);(·rfl);(·rfl);(·rfl)))|exact tq_));(·rfl);(·rfl);(·rfl);(·(exact to_))))|refine ycg ?_))
    repeat' (first | (refine ycf ?_; apply ybk; (· first | (first | (apply yad; (· rfl); (· first | exact yaz 0 rfl | exact yaz 1 rfl); (· exact ycj hu)) | (apply qv_neq_bool (t := false); (· rfl); (· rfl); (· rfl)))); (· rfl); (· rfl)) | (refine ybg 0 rfl rfl rfl (cxc_sz hu) (cxc_fit hu) (cxc_one rfl) (ybh (cxc_all hu)) rfl rfl ?_ ?_ ?_; (· (exact to_)); (· (exact to_))) | refine t1_ ?_ | (refine ta_ ?_; intro _) | ((fail_if_success (refine ybi rfl ?_)); refine ybj rfl ?_ ?_ <;> (intro ht; rw [ht]; first | replace ht := of_decide_eq_true ht | replace ht := of_decide_eq_false ht | skip)) | (refine ych ?_; first | (refine ybw rfl ?_ ?_ <;> intro ht) | (refine ybx rfl ?_ ?_ <;> intro ht)))
    (refine yco (ycp Try.func27 rfl (by kernel_rfl) rfl) (W1) rfl rfl rfl ?_ ?_ ?_; (· (exact to_)); (· intro _ _ hle; (exact to_)); intro x px hle)
    obtain ⟨h3, v3⟩ := x
    replace hle : Le h2 h3 := hle
    have b3 := b2.mono hle
    have px : Bs8 h3 v3 m := px
    repeat' (first | (refine ycf ?_; apply ybk; (· first | (first | exact qv_str_bs rfl b3 | exact qv_str_bs rfl px | (apply qv_eql_str (t := true); (· rfl); (· rfl); (· simp)))); (· rfl); (· rfl)) | (refine ybg 0 rfl rfl rfl (cxc_sz hu) (cxc_fit hu) (cxc_one rfl) (ybh (cxc_all hu)) rfl rfl ?_ ?_ ?_; (· (exact to_)); (· (exact to_))) | refine t1_ ?_ | (refine ta_ ?_; intro _) | ((fail_if_success (refine ybi rfl ?_)); refine ybj rfl ?_ ?_ <;> (intro ht; rw [ht]; first | replace ht := of_decide_eq_true ht | replace ht := of_decide_eq_false ht | skip)) | (refine ych ?_; first | (refine ybw rfl ?_ ?_ <;> intro ht) | (refine ybx rfl ?_ ?_ <;> intro ht)))
    exact nx_ret1 rfl (rv_tmp rfl) (fun w' s' => ⟨h3, rfl, s'.nil⟩)
end Go.Proofs.Ytbpahaciegfpfaa
