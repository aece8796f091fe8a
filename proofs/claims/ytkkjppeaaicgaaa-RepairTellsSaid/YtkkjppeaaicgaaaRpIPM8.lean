/-
  Part 8 of a proof: SbB SbC SbD.
  Conditions: each theorem states its own.
-/
import Derived.Test.YtkkjppeaaicgaaaRpIPM7
section
namespace Go.Proofs.Ytkkjppeaaicgaaa
open Go Go.Ck
set_option maxRecDepth 100000
set_option maxHeartbeats 2000000
set_option linter.unusedVariables false

theorem sindexFunc_sp (g : Nat) (cp : List Value) (fu : Func) (cd : Code) (p : Sb → Bool) (sv : Value) (l : List Sb) (h : View) (hs : Ss h sv l) (hl : l.length ≤ 4611686018427387904)
    (hf : Try.prog.funcs[g]? = some fu) (hb : fu.body = some cd) (hnm : (fu.name == "runtime.NumGoroutine") = false)
    (hp : ∀ d ∈ l, ∀ w, St ⟨w, h, []⟩ h [] w → Calls Try.prog g (sbv d :: cp).toArray w fun e w' => e = .returned (.bool (p d)) ∧ St ⟨w, h, []⟩ h [] w') (w : World) (s : St ⟨w, h, []⟩ h [] w) :
    Calls Try.prog 56 [sv, .func (.func g) #[] cp.toArray].toArray w fun e w' => ∃ r : Int, e = .returned (.int .i64 r) ∧ St ⟨w, h, []⟩ h [] w' ∧ (0 ≤ r ↔ l.any p = true) := by
  obtain ⟨hs, _⟩ := hs
  obtain ⟨_, ad, cap, rfl, hcap, _⟩ := id hs
  refine calls_enter Try.func56 rfl Try.ntmps56 rfl s ?_
  repeat' (first | refine tw_ ?_ | (refine ta_ ?_; intro _) | ((fail_if_success (refine ybi rfl ?_)); refine ybj rfl ?_ ?_ <;> (intro ht; rw [ht]; first | replace ht := of_decide_eq_true ht | replace ht := of_decide_eq_false ht | skip)) | (refine ych ?_; first | (refine ybw rfl ?_ ?_ <;> intro ht) | (refine ybx rfl ?_ ?_ <;> intro ht)))
  refine cx_loop (X := Nat) (fun k => [(0, .slice ad l.length cap), (1, .func (.func g) #[] cp.toArray), (7, .int .i64 l.length), (8, .int .i64 k)]) (fun _ => h) (fun _ => _) (fun k => k ≤ l.length ∧ ∀ j (hj : j < l.length), j < k → p l[j] = false) (fun k => l.length - k) 0 ⟨by omega, by omega⟩ ts_ (fun _ s => s) ?_
  rintro k ⟨hk, hno⟩
  by_cases hkl : k < l.length
  · obtain ⟨bs, o, rfl⟩ := hs.ad (by omega) (by omega)
    have hel : ∀ L, Cells h L ⟨bs, o + k * 20, none⟩ (sbc l[k]) := fun L => hs.elem sbc_len k hkl
    have hpk := hp l[k] (List.getElem_mem hkl)
    have hlen := sbc_len l[k]
    cases hP : p l[k] with
    | true =>
      rw [hP] at hpk
      repeat' (first | (refine ycf ?_; apply ybk; (· first | (first | (apply yad; (· rfl); (· exact hel _); (· exact hlen)))); (· rfl); (· rfl)) | refine t1_ ?_ | (refine ta_ ?_; intro _) | ((fail_if_success (refine ybi rfl ?_)); refine ybj rfl ?_ ?_ <;> (intro ht; rw [ht]; first | replace ht := of_decide_eq_true ht | replace ht := of_decide_eq_false ht | skip)) | (refine ych ?_; first | (refine ybw rfl ?_ ?_ <;> intro ht) | (refine ybx rfl ?_ ?_ <;> intro ht)))
      · (refine ycn (call_val rfl hf hb hnm rfl) hpk rfl rfl rfl ?_ ?_; (· (exact to_)))
        repeat' (first | (refine ycf ?_; apply ybk; (· first | (first | (apply yad; (· rfl); (· exact hel _); (· exact hlen)))); (· rfl); (· rfl)) | refine t1_ ?_ | (refine ta_ ?_; intro _) | ((fail_if_success (refine ybi rfl ?_)); refine ybj rfl ?_ ?_ <;> (intro ht; rw [ht]; first | replace ht := of_decide_eq_true ht | replace ht := of_decide_eq_false ht | skip)) | (refine ych ?_; first | (refine ybw rfl ?_ ?_ <;> intro ht) | (refine ybx rfl ?_ ?_ <;> intro ht)))
        refine nx_ret1 rfl (rv_tmp rfl) (fun w' s' => ⟨_, rfl, s'.nil, ?_⟩)
        constructor
        · intro _; exact List.any_eq_true.2 ⟨l[k], List.getElem_mem hkl, hP⟩
        · intro _; omega
      · omega
    | false =>
      rw [hP] at hpk
      repeat' (first | (refine ycf ?_; apply ybk; (· first | (first | (apply yad; (· rfl); (· exact hel _); (· exact hlen)))); (· rfl); (· rfl)) | refine t1_ ?_ | (refine ta_ ?_; intro _) | ((fail_if_success (refine ybi rfl ?_)); refine ybj rfl ?_ ?_ <;> (intro ht; rw [ht]; first | replace ht := of_decide_eq_true ht | replace ht := of_decide_eq_false ht | skip)) | (refine ych ?_; first | (refine ybw rfl ?_ ?_ <;> intro ht) | (refine ybx rfl ?_ ?_ <;> intro ht)))
      · (refine ycn (call_val rfl hf hb hnm rfl) hpk rfl rfl rfl ?_ ?_; (· (exact to_)))
        repeat' (first | (refine ycf ?_; apply ybk; (· first | (first | (apply yad; (· rfl); (· exact hel _); (· exact hlen)))); (· rfl); (· rfl)) | refine t1_ ?_ | (refine ta_ ?_; intro _) | ((fail_if_success (refine ybi rfl ?_)); refine ybj rfl ?_ ?_ <;> (intro ht; rw [ht]; first | replace ht := of_decide_eq_true ht | replace ht := of_decide_eq_false ht | skip)) | (refine ych ?_; first | (refine ybw rfl ?_ ?_ <;> intro ht) | (refine ybx rfl ?_ ?_ <;> intro ht)))
        refine nx_round (k + 1) ⟨by omega, fun j hj hjk => ?_⟩ (by omega) ts_ (fun _ s => s)
        by_cases hjk' : j = k
        · subst hjk'; exact hP
        · exact hno j hj (by omega)
      · omega
  · repeat' (first | (refine ycf ?_; apply ybk; (· first | (first | (apply yad; (· rfl); (· exact hel _); (· exact hlen)))); (· rfl); (· rfl)) | refine t1_ ?_ | (refine ta_ ?_; intro _) | ((fail_if_success (refine ybi rfl ?_)); refine ybj rfl ?_ ?_ <;> (intro ht; rw [ht]; first | replace ht := of_decide_eq_true ht | replace ht := of_decide_eq_false ht | skip)) | (refine ych ?_; first | (refine ybw rfl ?_ ?_ <;> intro ht) | (refine ybx rfl ?_ ?_ <;> intro ht)))
    · omega
    refine nx_ret1 rfl (rv_tmp rfl) (fun w' s' => ⟨_, rfl, s'.nil, ?_⟩)
    constructor
    · intro hx; omega
    · intro hm
      obtain ⟨d, hd, hpd⟩ := List.any_eq_true.1 hm
      obtain ⟨j, hj, rfl⟩ := List.getElem_of_mem hd
      rw [hno j hj (by omega)] at hpd; cases hpd

theorem scontainsFunc_sp (g : Nat) (cp : List Value) (fu : Func) (cd : Code) (p : Sb → Bool) (sv : Value) (l : List Sb) (h : View) (hs : Ss h sv l) (hl : l.length ≤ 4611686018427387904)
    (hf : Try.prog.funcs[g]? = some fu) (hb : fu.body = some cd) (hnm : (fu.name == "runtime.NumGoroutine") = false)
    (hp : ∀ d ∈ l, ∀ w, St ⟨w, h, []⟩ h [] w → Calls Try.prog g (sbv d :: cp).toArray w fun e w' => e = .returned (.bool (p d)) ∧ St ⟨w, h, []⟩ h [] w') (w : World) (s : St ⟨w, h, []⟩ h [] w) :
    Calls Try.prog 33 [sv, .func (.func g) #[] cp.toArray].toArray w fun e w' => e = .returned (.bool (l.any p)) ∧ St ⟨w, h, []⟩ h [] w' := by
  refine calls_enter Try.func33 rfl Try.ntmps33 rfl s ?_
  repeat' (first | (refine ycf ?_; apply ybk; (· first | (first | (apply yad; (· rfl); (· exact hel _); (· exact hlen)))); (· rfl); (· rfl)) | refine t1_ ?_ | (refine ta_ ?_; intro _) | ((fail_if_success (refine ybi rfl ?_)); refine ybj rfl ?_ ?_ <;> (intro ht; rw [ht]; first | replace ht := of_decide_eq_true ht | replace ht := of_decide_eq_false ht | skip)) | (refine ych ?_; first | (refine ybw rfl ?_ ?_ <;> intro ht) | (refine ybx rfl ?_ ?_ <;> intro ht)))
  (refine yco (ycp Try.func56 rfl (by kernel_rfl) rfl) (sindexFunc_sp g cp fu cd p _ l h hs hl hf hb hnm hp) rfl rfl rfl ?_ ?_ ?_; (· (exact to_)); (· intro _ _ hle; (exact to_)); intro x px hle)
  repeat' (first | (refine ycf ?_; apply ybk; (· first | (first | (apply yad; (· rfl); (· exact hel _); (· exact hlen)))); (· rfl); (· rfl)) | refine t1_ ?_ | (refine ta_ ?_; intro _) | ((fail_if_success (refine ybi rfl ?_)); refine ybj rfl ?_ ?_ <;> (intro ht; rw [ht]; first | replace ht := of_decide_eq_true ht | replace ht := of_decide_eq_false ht | skip)) | (refine ych ?_; first | (refine ybw rfl ?_ ?_ <;> intro ht) | (refine ybx rfl ?_ ?_ <;> intro ht)))
  refine nx_ret1 rfl (rv_tmp rfl) (fun w' s' => ⟨?_, s'.nil⟩)
  congr 2
  rw [Bool.eq_iff_iff, decide_eq_true_iff]; exact px

theorem seen1_sp (b : Nat) (x : Sb) (d : Dt) (h : View) (hx : Sv h x) (hb : h b = some (.cells (dcs d).toArray 39 (0, 0))) (hl : x.l.length ≤ 4611686018427387904) (w : World) (s : St ⟨w, h, []⟩ h [] w) :
    Calls Try.prog 57 [sbv x, .pointer (some ⟨b, 0, none⟩)].toArray w fun e w' => e = .returned (.bool (hasA x.a d)) ∧ St ⟨w, h, []⟩ h [] w' := by
  have hcell : ∀ L, Cells h L ⟨b, 0, none⟩ (dcs d) := fun L w hd j v hj => by
    have := hd.view _ _ hb
    rw [Addr.add_off]
    simp [World.cell?, this, hj]
  have hhas := Has_sp (cxv x.u x.mv) x.u x.l d h ⟨x.hu, x.mv, rfl, hx.ds⟩ hl
  refine calls_enter Try.func57 rfl Try.ntmps57 rfl s ?_
  repeat' (first | (refine ycf ?_; apply ybk; (· first | (first | (apply yad; (· rfl); (· exact hcell _); (· rfl)) | (apply yad; (· rfl); (· exact sb_past (yaz 0 rfl)); (· exact ycj x.hu)))); (· rfl); (· rfl)) | refine t1_ ?_ | (refine ta_ ?_; intro _) | ((fail_if_success (refine ybi rfl ?_)); refine ybj rfl ?_ ?_ <;> (intro ht; rw [ht]; first | replace ht := of_decide_eq_true ht | replace ht := of_decide_eq_false ht | skip)) | (refine ych ?_; first | (refine ybw rfl ?_ ?_ <;> intro ht) | (refine ybx rfl ?_ ?_ <;> intro ht)))
  (refine ycn (ycp Try.func55 rfl (by kernel_rfl) rfl) (hhas) rfl rfl rfl ?_ ?_; (· (exact to_)))
  repeat' (first | (refine ycf ?_; apply ybk; (· first | (first | (apply yad; (· rfl); (· exact hcell _); (· rfl)) | (apply yad; (· rfl); (· exact sb_past (yaz 0 rfl)); (· exact ycj x.hu)))); (· rfl); (· rfl)) | refine t1_ ?_ | (refine ta_ ?_; intro _) | ((fail_if_success (refine ybi rfl ?_)); refine ybj rfl ?_ ?_ <;> (intro ht; rw [ht]; first | replace ht := of_decide_eq_true ht | replace ht := of_decide_eq_false ht | skip)) | (refine ych ?_; first | (refine ybw rfl ?_ ?_ <;> intro ht) | (refine ybx rfl ?_ ?_ <;> intro ht)))
  exact nx_ret1 rfl (rv_tmp rfl) (fun w' s' => ⟨rfl, s'.nil⟩)

theorem seen_sp (v : Value) (l : List Sb) (d : Dt) (h : View) (hs : Ss h v l) (hl : l.length ≤ 4611686018427387904) (hll : ∀ x ∈ l, x.l.length ≤ 4611686018427387904) (w : World) (s : St ⟨w, h, []⟩ h [] w) :
    Calls Try.prog 35 [v, dv d].toArray w fun e w' => e = .returned (.bool (l.any fun x => hasA x.a d)) ∧ St ⟨w, h, []⟩ h [] w' := by
  refine calls_enter Try.func35 rfl Try.ntmps35 rfl s ?_
  repeat' (first | (refine ycf ?_; apply ybk; (· first | (first | (apply yad; (· rfl); (· exact hcell _); (· rfl)) | (apply yad; (· rfl); (· exact sb_past (yaz 0 rfl)); (· exact ycj x.hu)))); (· rfl); (· rfl)) | refine t1_ ?_ | (refine ta_ ?_; intro _) | ((fail_if_success (refine ybi rfl ?_)); refine ybj rfl ?_ ?_ <;> (intro ht; rw [ht]; first | replace ht := of_decide_eq_true ht | replace ht := of_decide_eq_false ht | skip)) | (refine ych ?_; first | (refine ybw rfl ?_ ?_ <;> intro ht) | (refine ybx rfl ?_ ?_ <;> intro ht)))
  rename_i b0
  refine rx_bpersist rfl fun hbn => ?_
  have hle := Le.addV (h := h) (o := .cells (dcs d).toArray 39 (0, 0)) hbn
  (refine ycn (ycp Try.func33 rfl (by kernel_rfl) rfl) (scontainsFunc_sp 57 [.pointer (some ⟨b0, 0, none⟩)] _ _ (fun x => hasA x.a d) v l _ (hs.mono hle) hl Try.func57 rfl (by kernel_rfl) (fun x hx => seen1_sp b0 x d _ ((hs.2 x hx).mono hle) addV_same (hll x hx))) rfl rfl rfl ?_ ?_; (· (exact to_)))
  repeat' (first | (refine ycf ?_; apply ybk; (· first | (first | (apply yad; (· rfl); (· exact hcell _); (· rfl)) | (apply yad; (· rfl); (· exact sb_past (yaz 0 rfl)); (· exact ycj x.hu)))); (· rfl); (· rfl)) | refine t1_ ?_ | (refine ta_ ?_; intro _) | ((fail_if_success (refine ybi rfl ?_)); refine ybj rfl ?_ ?_ <;> (intro ht; rw [ht]; first | replace ht := of_decide_eq_true ht | replace ht := of_decide_eq_false ht | skip)) | (refine ych ?_; first | (refine ybw rfl ?_ ?_ <;> intro ht) | (refine ybx rfl ?_ ?_ <;> intro ht)))
  exact nx_ret1 rfl (rv_tmp rfl) (fun w' s' => ⟨rfl, s'.base⟩)

theorem check1_sp (b : Nat) (v : Value) (l : List Sb) (x : Sb) (h : View) (hs : Ss h v l) (hb : h b = some (.cells #[v] 25 (0, 0))) (hl : l.length ≤ 4611686018427387904) (hll : ∀ x ∈ l, x.l.length ≤ 4611686018427387904) (w : World) (s : St ⟨w, h, []⟩ h [] w) :
    Calls Try.prog 34 [sbv x, .pointer (some ⟨b, 0, none⟩)].toArray w fun e w' => e = .returned (.bool (l.any fun y => hasA y.a x.d)) ∧ St ⟨w, h, []⟩ h [] w' := by
  have hcell : ∀ L, CellAt h L b 0 v := fun L => cell_at fun w hd => by
    have := hd.view _ _ hb
    simp [World.cell?, this]
  have hsn := seen_sp v l x.d h hs hl hll
  refine calls_enter Try.func34 rfl Try.ntmps34 rfl s ?_
  repeat' (first | (refine ycf ?_; apply ybk; (· first | (first | (apply yad; (· rfl); (· exact sb_dot (yaz 0 rfl)); (· rfl))) | (apply yae; (· rfl); (· (exact hcell _)))); (· rfl); (· rfl)) | refine t1_ ?_ | (refine ta_ ?_; intro _) | ((fail_if_success (refine ybi rfl ?_)); refine ybj rfl ?_ ?_ <;> (intro ht; rw [ht]; first | replace ht := of_decide_eq_true ht | replace ht := of_decide_eq_false ht | skip)) | (refine ych ?_; first | (refine ybw rfl ?_ ?_ <;> intro ht) | (refine ybx rfl ?_ ?_ <;> intro ht)))
  (refine ycn (ycp Try.func35 rfl (by kernel_rfl) rfl) (hsn) rfl rfl rfl ?_ ?_; (· (exact to_)))
  repeat' (first | (refine ycf ?_; apply ybk; (· first | (first | (apply yad; (· rfl); (· exact sb_dot (yaz 0 rfl)); (· rfl))) | (apply yae; (· rfl); (· (exact hcell _)))); (· rfl); (· rfl)) | refine t1_ ?_ | (refine ta_ ?_; intro _) | ((fail_if_success (refine ybi rfl ?_)); refine ybj rfl ?_ ?_ <;> (intro ht; rw [ht]; first | replace ht := of_decide_eq_true ht | replace ht := of_decide_eq_false ht | skip)) | (refine ych ?_; first | (refine ybw rfl ?_ ?_ <;> intro ht) | (refine ybx rfl ?_ ?_ <;> intro ht)))
  exact nx_ret1 rfl (rv_tmp rfl) (fun w' s' => ⟨rfl, s'.nil⟩)

/-- the fault of siblings, one behind the other -/
def badAt (l : List Ab) (i : Nat) : Bool := !(l[i]?.any rightA) || (decide (0 < i) && decide (0 ≤ ordD ((l[i - 1]?.map (·.1)).getD (0, 0)) ((l[i]?.map (·.1)).getD (0, 0))))
def checkA (l : List Ab) : Int := if 64 < l.length then 5 else if (List.range l.length).any (badAt l) = true then 1 else if l.any (fun x => l.any fun y => hasA y x.1) = true then 14 else 0

theorem badAt_eq {l : List Sb} {k : Nat} (hk : k < l.length) : badAt (l.map Sb.a) k = (!rightA l[k].a || (decide (0 < k) && decide (0 ≤ ordD l[k - 1].d l[k].d))) := by
  have h1 : (l.map Sb.a)[k]? = some l[k].a := by simp [hk]
  have h2 : (l.map Sb.a)[k - 1]? = some l[k - 1].a := by simp [show k - 1 < l.length by omega]
  unfold badAt
  rw [h1, h2]
  rfl
theorem bad_no {l : List Ab} (h : ∀ j, j < l.length → badAt l j = false) : (List.range l.length).any (badAt l) = false := by
  rw [List.any_eq_false]
  intro j hj
  rw [h j (List.mem_range.1 hj)]
  decide
theorem bad_yes {l : List Ab} {k : Nat} (hk : k < l.length) (h : badAt l k = true) : (List.range l.length).any (badAt l) = true := List.any_eq_true.2 ⟨k, List.mem_range.2 hk, h⟩

theorem scheck_sp (v : Value) (l : List Sb) (h : View) (hs : Ss h v l) (hl : l.length ≤ 4611686018427387904) (hll : ∀ x ∈ l, x.l.length ≤ 4611686018427387904) (w : World) (s : St ⟨w, h, []⟩ h [] w) :
    Calls Try.prog 12 [v].toArray w fun e w' => e = .returned (.int .i64 (checkA (l.map Sb.a))) ∧ St ⟨w, h, []⟩ h [] w' := by
  have hs0 := hs
  obtain ⟨hs, hsv⟩ := hs
  obtain ⟨_, ad, cap, rfl, hcap, _⟩ := id hs
  have hlm : (l.map Sb.a).length = l.length := by simp
  refine calls_enter Try.func12 rfl Try.ntmps12 rfl s ?_
  repeat' (first | (refine ycf ?_; apply ybk; (· first | (first | (apply yad; (· rfl); (· exact sb_dot (yaz 0 rfl)); (· rfl))) | (apply yae; (· rfl); (· (exact hcell _)))); (· rfl); (· rfl)) | refine t1_ ?_ | (refine ta_ ?_; intro _) | ((fail_if_success (refine ybi rfl ?_)); refine ybj rfl ?_ ?_ <;> (intro ht; rw [ht]; first | replace ht := of_decide_eq_true ht | replace ht := of_decide_eq_false ht | skip)) | (refine ych ?_; first | (refine ybw rfl ?_ ?_ <;> intro ht) | (refine ybx rfl ?_ ?_ <;> intro ht)))
  · refine nx_ret1 rfl (rv_tmp rfl) (fun w' s' => ⟨?_, s'.nil⟩)
    unfold checkA
    rw [hlm, if_pos (by omega)]
  rename_i b0
  have h64 : ¬ 64 < l.length := by omega
  refine cx_loop (X := Nat) (fun x => [(1, .pointer (some ⟨b0, 0, none⟩)), (2, .int .i64 0), (8, .slice ad l.length cap), (9, .int .i64 l.length), (10, .int .i64 x)]) (fun x => h) (fun _ => _)
    (fun x => x ≤ l.length ∧ ∀ j, j < x → badAt (l.map Sb.a) j = false) (fun x => l.length - x) 0 ⟨by simp, by intro j hj; cases hj⟩ ts_ (fun _ s => s) ?_
  rintro k ⟨hk, hno⟩
  by_cases hkl : k < l.length
  · obtain ⟨bs, o, rfl⟩ := hs.ad (by omega) (by omega)
    have hel : ∀ L, Cells h L ⟨bs, o + k * 20, none⟩ (sbc l[k]) := fun L => hs.elem sbc_len k hkl
    have hsk : Sv h l[k] := hsv _ (List.getElem_mem hkl)
    have hlk := hll _ (List.getElem_mem hkl)
    have hlen := sbc_len l[k]
    have hbk := badAt_eq hkl
    have SR := sright_sp l[k] h hsk hlk
    cases hR : rightA l[k].a with
    | false =>
      rw [hR] at SR
      repeat' (first|(refine ycf ?_;apply ybk;(·first|(first|exact tk_|(apply yad;(·rfl);(·exact hel _);(·exact hlen))|(apply yad;(·rfl);(·exact yaz 0 rfl);(·exact hlen)))|(apply yae;(·rfl);(·(exact hcell _))));(·rfl);(·rfl))|(refine ybg 0 rfl rfl rfl (sbc_sz _) (sbc_fit rfl) (sbc_one hsk.one.1 hsk.one.2) (ybh (sbc_all rfl)) rfl rfl ?_ ?_ ?_;(·(exact to_));(·(exact to_)))|refine t1_ ?_|(refine ta_ ?_;intro _)|((fail_if_success (refine ybi rfl ?_));refine ybj rfl ?_ ?_<;>(intro ht;rw [ht];first|replace ht := of_decide_eq_true ht|replace ht := of_decide_eq_false ht|skip))|(refine ych ?_;first|(refine ybw rfl ?_ ?_<;>intro ht)|(refine ybx rfl ?_ ?_<;>intro ht)))
      refine cx_region_draw' rfl (by kernel_rfl) ?_
      repeat' (refine ycf ?_;(first|(first|(apply ybm;(·(first|(first|exact tk_|(apply yad;(·rfl);(·exact hel _);(·exact hlen))|(apply yad;(·rfl);(·exact yaz 0 rfl);(·exact hlen)))|(apply yae;(·rfl);(·(exact hcell _)))|exact tq_));(·rfl);(·rfl);(·(exact th_)))|refine ybl rfl rfl ?_|((fail_if_success (refine ybi rfl ?_));refine ybj rfl ?_ ?_<;>(intro ht;rw [ht];first|replace ht := of_decide_eq_true ht|replace ht := of_decide_eq_false ht|skip))|(refine tb_ ?_ ?_ ?_;(·(exact to_));(·intro _;(exact to_));intro _)|(first|(refine ybg 0 rfl rfl rfl (sbc_sz _) (sbc_fit rfl) (sbc_one hsk.one.1 hsk.one.2) (ybh (sbc_all rfl)) rfl rfl ?_ ?_ ?_;(·(exact to_));(·(exact to_)))|(refine tqs_ ?_ ?_ ?_;(·(exact to_));(·(exact to_))))|(apply ybn;(·(first|(first|exact tk_|(apply yad;(·rfl);(·exact hel _);(·exact hlen))|(apply yad;(·rfl);(·exact yaz 0 rfl);(·exact hlen)))|(apply yae;(·rfl);(·(exact hcell _)))|exact tq_));(·rfl);(·rfl);(·rfl);(·(exact to_))))|refine ycg ?_))
      (refine ycn (ycp Try.func31 rfl (by kernel_rfl) rfl) (SR) rfl rfl rfl ?_ ?_; (· (exact to_)))
      repeat' (refine ycf ?_;(first|(first|(apply ybm;(·(first|(first|exact tk_|(apply yad;(·rfl);(·exact hel _);(·exact hlen))|(apply yad;(·rfl);(·exact yaz 0 rfl);(·exact hlen)))|(apply yae;(·rfl);(·(exact hcell _)))|exact tq_));(·rfl);(·rfl);(·(exact th_)))|refine ybl rfl rfl ?_|((fail_if_success (refine ybi rfl ?_));refine ybj rfl ?_ ?_<;>(intro ht;rw [ht];first|replace ht := of_decide_eq_true ht|replace ht := of_decide_eq_false ht|skip))|(refine tb_ ?_ ?_ ?_;(·(exact to_));(·intro _;(exact to_));intro _)|(first|(refine ybg 0 rfl rfl rfl (sbc_sz _) (sbc_fit rfl) (sbc_one hsk.one.1 hsk.one.2) (ybh (sbc_all rfl)) rfl rfl ?_ ?_ ?_;(·(exact to_));(·(exact to_)))|(refine tqs_ ?_ ?_ ?_;(·(exact to_));(·(exact to_))))|(apply ybn;(·(first|(first|exact tk_|(apply yad;(·rfl);(·exact hel _);(·exact hlen))|(apply yad;(·rfl);(·exact yaz 0 rfl);(·exact hlen)))|(apply yae;(·rfl);(·(exact hcell _)))|exact tq_));(·rfl);(·rfl);(·rfl);(·(exact to_))))|refine ycg ?_))
      repeat' (first|(refine ycf ?_;apply ybk;(·first|(first|exact tk_|(apply yad;(·rfl);(·exact hel _);(·exact hlen))|(apply yad;(·rfl);(·exact yaz 0 rfl);(·exact hlen)))|(apply yae;(·rfl);(·(exact hcell _))));(·rfl);(·rfl))|(refine ybg 0 rfl rfl rfl (sbc_sz _) (sbc_fit rfl) (sbc_one hsk.one.1 hsk.one.2) (ybh (sbc_all rfl)) rfl rfl ?_ ?_ ?_;(·(exact to_));(·(exact to_)))|refine t1_ ?_|(refine ta_ ?_;intro _)|((fail_if_success (refine ybi rfl ?_));refine ybj rfl ?_ ?_<;>(intro ht;rw [ht];first|replace ht := of_decide_eq_true ht|replace ht := of_decide_eq_false ht|skip))|(refine ych ?_;first|(refine ybw rfl ?_ ?_<;>intro ht)|(refine ybx rfl ?_ ?_<;>intro ht)))
      refine nx_ret1 rfl (rv_tmp rfl) (fun w' s' => ⟨?_, s'.nil⟩)
      unfold checkA
      rw [hlm, if_neg h64, if_pos]
      rw [← hlm]
      exact bad_yes (by rw [hlm]; exact hkl) (by rw [hbk, hR]; rfl)
    | true =>
      rw [hR] at SR
      rw [hR] at hbk
      by_cases h0 : 0 < k
      · have hlen' := sbc_len l[k - 1]
        have hel' : ∀ L, Cells h L ⟨bs, o + ((k : Int) - 1).toNat * 20, none⟩ (sbc l[k - 1]) := fun L => by
          rw [show ((k : Int) - 1).toNat = k - 1 by omega]
          exact hs.elem sbc_len (k - 1) (by omega)
        repeat' (first|(refine ycf ?_;apply ybk;(·first|(first|exact tk_|(apply yad;(·rfl);(·exact hel _);(·exact hlen))|(apply yad;(·rfl);(·exact hel' _);(·exact hlen'))|(apply yad;(·rfl);(·exact yaz 0 rfl);(·exact hlen)))|(apply yae;(·rfl);(·(exact hcell _))));(·rfl);(·rfl))|(refine ybg 0 rfl rfl rfl (sbc_sz _) (sbc_fit rfl) (sbc_one hsk.one.1 hsk.one.2) (ybh (sbc_all rfl)) rfl rfl ?_ ?_ ?_;(·(exact to_));(·(exact to_)))|refine t1_ ?_|(refine ta_ ?_;intro _)|((fail_if_success (refine ybi rfl ?_));refine ybj rfl ?_ ?_<;>(intro ht;rw [ht];first|replace ht := of_decide_eq_true ht|replace ht := of_decide_eq_false ht|skip))|(refine ych ?_;first|(refine ybw rfl ?_ ?_<;>intro ht)|(refine ybx rfl ?_ ?_<;>intro ht)))
        refine cx_region_draw' rfl (by kernel_rfl) ?_
        repeat' (refine ycf ?_;(first|(first|(apply ybm;(·(first|(first|exact tk_|(apply yad;(·rfl);(·exact hel _);(·exact hlen))|(apply yad;(·rfl);(·exact hel' _);(·exact hlen'))|(apply yad;(·rfl);(·exact yaz 0 rfl);(·exact hlen)))|(apply yae;(·rfl);(·(exact hcell _)))|exact tq_));(·rfl);(·rfl);(·(exact th_)))|refine ybl rfl rfl ?_|((fail_if_success (refine ybi rfl ?_));refine ybj rfl ?_ ?_<;>(intro ht;rw [ht];first|replace ht := of_decide_eq_true ht|replace ht := of_decide_eq_false ht|skip))|(refine tb_ ?_ ?_ ?_;(·(exact to_));(·intro _;(exact to_));intro _)|(first|(refine ybg 0 rfl rfl rfl (sbc_sz _) (sbc_fit rfl) (sbc_one hsk.one.1 hsk.one.2) (ybh (sbc_all rfl)) rfl rfl ?_ ?_ ?_;(·(exact to_));(·(exact to_)))|(refine tqs_ ?_ ?_ ?_;(·(exact to_));(·(exact to_))))|(apply ybn;(·(first|(first|exact tk_|(apply yad;(·rfl);(·exact hel _);(·exact hlen))|(apply yad;(·rfl);(·exact hel' _);(·exact hlen'))|(apply yad;(·rfl);(·exact yaz 0 rfl);(·exact hlen)))|(apply yae;(·rfl);(·(exact hcell _)))|exact tq_));(·rfl);(·rfl);(·rfl);(·(exact to_))))|refine ycg ?_))
        (refine ycn (ycp Try.func31 rfl (by kernel_rfl) rfl) (SR) rfl rfl rfl ?_ ?_; (· (exact to_)))
        repeat' (refine ycf ?_;(first|(first|(apply ybm;(·(first|(first|exact tk_|(apply yad;(·rfl);(·exact hel _);(·exact hlen))|(apply yad;(·rfl);(·exact hel' _);(·exact hlen'))|(apply yad;(·rfl);(·exact yaz 0 rfl);(·exact hlen)))|(apply yae;(·rfl);(·(exact hcell _)))|exact tq_));(·rfl);(·rfl);(·(exact th_)))|refine ybl rfl rfl ?_|((fail_if_success (refine ybi rfl ?_));refine ybj rfl ?_ ?_<;>(intro ht;rw [ht];first|replace ht := of_decide_eq_true ht|replace ht := of_decide_eq_false ht|skip))|(refine tb_ ?_ ?_ ?_;(·(exact to_));(·intro _;(exact to_));intro _)|(first|(refine ybg 0 rfl rfl rfl (sbc_sz _) (sbc_fit rfl) (sbc_one hsk.one.1 hsk.one.2) (ybh (sbc_all rfl)) rfl rfl ?_ ?_ ?_;(·(exact to_));(·(exact to_)))|(refine tqs_ ?_ ?_ ?_;(·(exact to_));(·(exact to_))))|(apply ybn;(·(first|(first|exact tk_|(apply yad;(·rfl);(·exact hel _);(·exact hlen))|(apply yad;(·rfl);(·exact hel' _);(·exact hlen'))|(apply yad;(·rfl);(·exact yaz 0 rfl);(·exact hlen)))|(apply yae;(·rfl);(·(exact hcell _)))|exact tq_));(·rfl);(·rfl);(·rfl);(·(exact to_))))|refine ycg ?_))
        (refine ycn (ycp Try.func32 rfl (by kernel_rfl) rfl) (sorder_sp l[k - 1] l[k] h) rfl rfl rfl ?_ ?_; (· (exact to_)))
        rw [decide_eq_true h0, Bool.true_and] at hbk
        by_cases hO : 0 ≤ ordD l[k - 1].d l[k].d
        · repeat' (refine ycf ?_;(first|(first|(apply ybm;(·(first|(first|exact tk_|(apply yad;(·rfl);(·exact hel _);(·exact hlen))|(apply yad;(·rfl);(·exact hel' _);(·exact hlen'))|(apply yad;(·rfl);(·exact yaz 0 rfl);(·exact hlen)))|(apply yae;(·rfl);(·(exact hcell _)))|exact tq_));(·rfl);(·rfl);(·(exact th_)))|refine ybl rfl rfl ?_|((fail_if_success (refine ybi rfl ?_));refine ybj rfl ?_ ?_<;>(intro ht;rw [ht];first|replace ht := of_decide_eq_true ht|replace ht := of_decide_eq_false ht|skip))|(refine tb_ ?_ ?_ ?_;(·(exact to_));(·intro _;(exact to_));intro _)|(first|(refine ybg 0 rfl rfl rfl (sbc_sz _) (sbc_fit rfl) (sbc_one hsk.one.1 hsk.one.2) (ybh (sbc_all rfl)) rfl rfl ?_ ?_ ?_;(·(exact to_));(·(exact to_)))|(refine tqs_ ?_ ?_ ?_;(·(exact to_));(·(exact to_))))|(apply ybn;(·(first|(first|exact tk_|(apply yad;(·rfl);(·exact hel _);(·exact hlen))|(apply yad;(·rfl);(·exact hel' _);(·exact hlen'))|(apply yad;(·rfl);(·exact yaz 0 rfl);(·exact hlen)))|(apply yae;(·rfl);(·(exact hcell _)))|exact tq_));(·rfl);(·rfl);(·rfl);(·(exact to_))))|refine ycg ?_))
          repeat' (first|(refine ycf ?_;apply ybk;(·first|(first|exact tk_|(apply yad;(·rfl);(·exact hel _);(·exact hlen))|(apply yad;(·rfl);(·exact hel' _);(·exact hlen'))|(apply yad;(·rfl);(·exact yaz 0 rfl);(·exact hlen)))|(apply yae;(·rfl);(·(exact hcell _))));(·rfl);(·rfl))|(refine ybg 0 rfl rfl rfl (sbc_sz _) (sbc_fit rfl) (sbc_one hsk.one.1 hsk.one.2) (ybh (sbc_all rfl)) rfl rfl ?_ ?_ ?_;(·(exact to_));(·(exact to_)))|refine t1_ ?_|(refine ta_ ?_;intro _)|((fail_if_success (refine ybi rfl ?_));refine ybj rfl ?_ ?_<;>(intro ht;rw [ht];first|replace ht := of_decide_eq_true ht|replace ht := of_decide_eq_false ht|skip))|(refine ych ?_;first|(refine ybw rfl ?_ ?_<;>intro ht)|(refine ybx rfl ?_ ?_<;>intro ht)))
          refine nx_ret1 rfl (rv_tmp rfl) (fun w' s' => ⟨?_, s'.nil⟩)
          unfold checkA
          rw [hlm, if_neg h64, if_pos]
          rw [← hlm]
          exact bad_yes (by rw [hlm]; exact hkl) (by rw [hbk]; simp [hO])
        · repeat' (refine ycf ?_;(first|(first|(apply ybm;(·(first|(first|exact tk_|(apply yad;(·rfl);(·exact hel _);(·exact hlen))|(apply yad;(·rfl);(·exact hel' _);(·exact hlen'))|(apply yad;(·rfl);(·exact yaz 0 rfl);(·exact hlen)))|(apply yae;(·rfl);(·(exact hcell _)))|exact tq_));(·rfl);(·rfl);(·(exact th_)))|refine ybl rfl rfl ?_|((fail_if_success (refine ybi rfl ?_));refine ybj rfl ?_ ?_<;>(intro ht;rw [ht];first|replace ht := of_decide_eq_true ht|replace ht := of_decide_eq_false ht|skip))|(refine tb_ ?_ ?_ ?_;(·(exact to_));(·intro _;(exact to_));intro _)|(first|(refine ybg 0 rfl rfl rfl (sbc_sz _) (sbc_fit rfl) (sbc_one hsk.one.1 hsk.one.2) (ybh (sbc_all rfl)) rfl rfl ?_ ?_ ?_;(·(exact to_));(·(exact to_)))|(refine tqs_ ?_ ?_ ?_;(·(exact to_));(·(exact to_))))|(apply ybn;(·(first|(first|exact tk_|(apply yad;(·rfl);(·exact hel _);(·exact hlen))|(apply yad;(·rfl);(·exact hel' _);(·exact hlen'))|(apply yad;(·rfl);(·exact yaz 0 rfl);(·exact hlen)))|(apply yae;(·rfl);(·(exact hcell _)))|exact tq_));(·rfl);(·rfl);(·rfl);(·(exact to_))))|refine ycg ?_))
          repeat' (first|(refine ycf ?_;apply ybk;(·first|(first|exact tk_|(apply yad;(·rfl);(·exact hel _);(·exact hlen))|(apply yad;(·rfl);(·exact hel' _);(·exact hlen'))|(apply yad;(·rfl);(·exact yaz 0 rfl);(·exact hlen)))|(apply yae;(·rfl);(·(exact hcell _))));(·rfl);(·rfl))|(refine ybg 0 rfl rfl rfl (sbc_sz _) (sbc_fit rfl) (sbc_one hsk.one.1 hsk.one.2) (ybh (sbc_all rfl)) rfl rfl ?_ ?_ ?_;(·(exact to_));(·(exact to_)))|refine t1_ ?_|(refine ta_ ?_;intro _)|((fail_if_success (refine ybi rfl ?_));refine ybj rfl ?_ ?_<;>(intro ht;rw [ht];first|replace ht := of_decide_eq_true ht|replace ht := of_decide_eq_false ht|skip))|(refine ych ?_;first|(refine ybw rfl ?_ ?_<;>intro ht)|(refine ybx rfl ?_ ?_<;>intro ht)))
          refine nx_round (k + 1) ⟨by show k + 1 ≤ _; omega, fun j hj => ?_⟩ (by show l.length - (k + 1) < l.length - k; omega) ts_ (fun _ s => s.tl)
          by_cases hjk : j = k
          · subst hjk; rw [hbk]; simp [hO]
          · exact hno j (by have : j < k + 1 := hj; omega)
      · repeat' (first|(refine ycf ?_;apply ybk;(·first|(first|exact tk_|(apply yad;(·rfl);(·exact hel _);(·exact hlen))|(apply yad;(·rfl);(·exact hel' _);(·exact hlen'))|(apply yad;(·rfl);(·exact yaz 0 rfl);(·exact hlen)))|(apply yae;(·rfl);(·(exact hcell _))));(·rfl);(·rfl))|(refine ybg 0 rfl rfl rfl (sbc_sz _) (sbc_fit rfl) (sbc_one hsk.one.1 hsk.one.2) (ybh (sbc_all rfl)) rfl rfl ?_ ?_ ?_;(·(exact to_));(·(exact to_)))|refine t1_ ?_|(refine ta_ ?_;intro _)|((fail_if_success (refine ybi rfl ?_));refine ybj rfl ?_ ?_<;>(intro ht;rw [ht];first|replace ht := of_decide_eq_true ht|replace ht := of_decide_eq_false ht|skip))|(refine ych ?_;first|(refine ybw rfl ?_ ?_<;>intro ht)|(refine ybx rfl ?_ ?_<;>intro ht)))
        refine cx_region_draw' rfl (by kernel_rfl) ?_
        repeat' (refine ycf ?_;(first|(first|(apply ybm;(·(first|(first|exact tk_|(apply yad;(·rfl);(·exact hel _);(·exact hlen))|(apply yad;(·rfl);(·exact hel' _);(·exact hlen'))|(apply yad;(·rfl);(·exact yaz 0 rfl);(·exact hlen)))|(apply yae;(·rfl);(·(exact hcell _)))|exact tq_));(·rfl);(·rfl);(·(exact th_)))|refine ybl rfl rfl ?_|((fail_if_success (refine ybi rfl ?_));refine ybj rfl ?_ ?_<;>(intro ht;rw [ht];first|replace ht := of_decide_eq_true ht|replace ht := of_decide_eq_false ht|skip))|(refine tb_ ?_ ?_ ?_;(·(exact to_));(·intro _;(exact to_));intro _)|(first|(refine ybg 0 rfl rfl rfl (sbc_sz _) (sbc_fit rfl) (sbc_one hsk.one.1 hsk.one.2) (ybh (sbc_all rfl)) rfl rfl ?_ ?_ ?_;(·(exact to_));(·(exact to_)))|(refine tqs_ ?_ ?_ ?_;(·(exact to_));(·(exact to_))))|(apply ybn;(·(first|(first|exact tk_|(apply yad;(·rfl);(·exact hel _);(·exact hlen))|(apply yad;(·rfl);(·exact hel' _);(·exact hlen'))|(apply yad;(·rfl);(·exact yaz 0 rfl);(·exact hlen)))|(apply yae;(·rfl);(·(exact hcell _)))|exact tq_));(·rfl);(·rfl);(·rfl);(·(exact to_))))|refine ycg ?_))
        (refine ycn (ycp Try.func31 rfl (by kernel_rfl) rfl) (SR) rfl rfl rfl ?_ ?_; (· (exact to_)))
        repeat' (refine ycf ?_;(first|(first|(apply ybm;(·(first|(first|exact tk_|(apply yad;(·rfl);(·exact hel _);(·exact hlen))|(apply yad;(·rfl);(·exact hel' _);(·exact hlen'))|(apply yad;(·rfl);(·exact yaz 0 rfl);(·exact hlen)))|(apply yae;(·rfl);(·(exact hcell _)))|exact tq_));(·rfl);(·rfl);(·(exact th_)))|refine ybl rfl rfl ?_|((fail_if_success (refine ybi rfl ?_));refine ybj rfl ?_ ?_<;>(intro ht;rw [ht];first|replace ht := of_decide_eq_true ht|replace ht := of_decide_eq_false ht|skip))|(refine tb_ ?_ ?_ ?_;(·(exact to_));(·intro _;(exact to_));intro _)|(first|(refine ybg 0 rfl rfl rfl (sbc_sz _) (sbc_fit rfl) (sbc_one hsk.one.1 hsk.one.2) (ybh (sbc_all rfl)) rfl rfl ?_ ?_ ?_;(·(exact to_));(·(exact to_)))|(refine tqs_ ?_ ?_ ?_;(·(exact to_));(·(exact to_))))|(apply ybn;(·(first|(first|exact tk_|(apply yad;(·rfl);(·exact hel _);(·exact hlen))|(apply yad;(·rfl);(·exact hel' _);(·exact hlen'))|(apply yad;(·rfl);(·exact yaz 0 rfl);(·exact hlen)))|(apply yae;(·rfl);(·(exact hcell _)))|exact tq_));(·rfl);(·rfl);(·rfl);(·(exact to_))))|refine ycg ?_))
        repeat' (first|(refine ycf ?_;apply ybk;(·first|(first|exact tk_|(apply yad;(·rfl);(·exact hel _);(·exact hlen))|(apply yad;(·rfl);(·exact hel' _);(·exact hlen'))|(apply yad;(·rfl);(·exact yaz 0 rfl);(·exact hlen)))|(apply yae;(·rfl);(·(exact hcell _))));(·rfl);(·rfl))|(refine ybg 0 rfl rfl rfl (sbc_sz _) (sbc_fit rfl) (sbc_one hsk.one.1 hsk.one.2) (ybh (sbc_all rfl)) rfl rfl ?_ ?_ ?_;(·(exact to_));(·(exact to_)))|refine t1_ ?_|(refine ta_ ?_;intro _)|((fail_if_success (refine ybi rfl ?_));refine ybj rfl ?_ ?_<;>(intro ht;rw [ht];first|replace ht := of_decide_eq_true ht|replace ht := of_decide_eq_false ht|skip))|(refine ych ?_;first|(refine ybw rfl ?_ ?_<;>intro ht)|(refine ybx rfl ?_ ?_<;>intro ht)))
        refine nx_round (k + 1) ⟨by show k + 1 ≤ _; omega, fun j hj => ?_⟩ (by show l.length - (k + 1) < l.length - k; omega) ts_ (fun _ s => s.tl)
        by_cases hjk : j = k
        · subst hjk; rw [hbk, decide_eq_false h0]; rfl
        · exact hno j (by have : j < k + 1 := hj; omega)
  · have hbad : (List.range (l.map Sb.a).length).any (badAt (l.map Sb.a)) = false := bad_no fun j hj => hno j (by rw [hlm] at hj; omega)
    repeat' (first | (refine ycf ?_; apply ybk; (· first | (exact tk_) | (apply yae; (· rfl); (· (exact hcell _)))); (· rfl); (· rfl)) | (refine ybg 0 rfl rfl rfl (sbc_sz _) (sbc_fit rfl) (sbc_one hsk.one.1 hsk.one.2) (ybh (sbc_all rfl)) rfl rfl ?_ ?_ ?_; (· (exact to_)); (· (exact to_))) | refine t1_ ?_ | (refine ta_ ?_; intro _) | ((fail_if_success (refine ybi rfl ?_)); refine ybj rfl ?_ ?_ <;> (intro ht; rw [ht]; first | replace ht := of_decide_eq_true ht | replace ht := of_decide_eq_false ht | skip)) | (refine ych ?_; first | (refine ybw rfl ?_ ?_ <;> intro ht) | (refine ybx rfl ?_ ?_ <;> intro ht)))
    refine rx_bpersist rfl fun hbn => ?_
    have hle := Le.addV (h := h) (o := .cells #[.slice ad l.length cap] 25 (0, 0)) hbn
    have hs2 := hs0.mono hle
    (refine ycn (ycp Try.func33 rfl (by kernel_rfl) rfl) (scontainsFunc_sp 34 [.pointer (some ⟨b0, 0, none⟩)] _ _ (fun x => l.any fun y => hasA y.a x.d) _ l _ hs2 hl Try.func34 rfl (by kernel_rfl) (fun x hx => check1_sp b0 _ l x _ hs2 addV_same hl hll)) rfl rfl rfl ?_ ?_; (· (exact to_)))
    have hany : (l.map Sb.a).any (fun x => (l.map Sb.a).any fun y => hasA y x.1) = l.any fun x => l.any fun y => hasA y.a x.d := by
      rw [List.any_map]
      congr 1
      funext x
      rw [Function.comp_apply, List.any_map]
      rfl
    cases hA : (l.any fun x => l.any fun y => hasA y.a x.d) with
    | true =>
      repeat' (first | (refine ycf ?_; apply ybk; (· first | (exact tk_) | (apply yae; (· rfl); (· (exact hcell _)))); (· rfl); (· rfl)) | (refine ybg 0 rfl rfl rfl (sbc_sz _) (sbc_fit rfl) (sbc_one hsk.one.1 hsk.one.2) (ybh (sbc_all rfl)) rfl rfl ?_ ?_ ?_; (· (exact to_)); (· (exact to_))) | refine t1_ ?_ | (refine ta_ ?_; intro _) | ((fail_if_success (refine ybi rfl ?_)); refine ybj rfl ?_ ?_ <;> (intro ht; rw [ht]; first | replace ht := of_decide_eq_true ht | replace ht := of_decide_eq_false ht | skip)) | (refine ych ?_; first | (refine ybw rfl ?_ ?_ <;> intro ht) | (refine ybx rfl ?_ ?_ <;> intro ht)))
      refine nx_ret1 rfl (rv_tmp rfl) (fun w' s' => ⟨?_, s'.base⟩)
      unfold checkA
      rw [hlm, if_neg h64, if_neg (by rw [← hlm, hbad]; decide), hany, hA, if_pos rfl]
    | false =>
      repeat' (first | (refine ycf ?_; apply ybk; (· first | (exact tk_) | (apply yae; (· rfl); (· (exact hcell _)))); (· rfl); (· rfl)) | (refine ybg 0 rfl rfl rfl (sbc_sz _) (sbc_fit rfl) (sbc_one hsk.one.1 hsk.one.2) (ybh (sbc_all rfl)) rfl rfl ?_ ?_ ?_; (· (exact to_)); (· (exact to_))) | refine t1_ ?_ | (refine ta_ ?_; intro _) | ((fail_if_success (refine ybi rfl ?_)); refine ybj rfl ?_ ?_ <;> (intro ht; rw [ht]; first | replace ht := of_decide_eq_true ht | replace ht := of_decide_eq_false ht | skip)) | (refine ych ?_; first | (refine ybw rfl ?_ ?_ <;> intro ht) | (refine ybx rfl ?_ ?_ <;> intro ht)))
      refine nx_ret1 rfl (rv_tmp rfl) (fun w' s' => ⟨?_, s'.base⟩)
      unfold checkA
      rw [hlm, if_neg h64, if_neg (by rw [← hlm, hbad]; decide), hany, hA, if_neg (by decide)]
end Go.Proofs.Ytkkjppeaaicgaaa
end

section
namespace Go.Proofs.Ytkkjppeaaicgaaa
open Go Go.Ck
set_option maxRecDepth 100000
set_option maxHeartbeats 2000000
set_option linter.unusedVariables false

/-- a row of siblings -/
abbrev rowS (g cap m : Nat) (l : List Sb) : Res := Res.row 41 20 (.slice (some ⟨g, 0, none⟩) m cap) m (l.flatMap sbc)
def ordV : Value := .func (.func 32) #[] #[]
def Ones (l : List Sb) : Prop := ∀ x ∈ l, x.mv.oneCell' = true ∧ x.bv.oneCell' = true

section
variable {h : View} {L : List Res}
theorem row_el {g : Nat} {l : List Sb} {i j : Nat} {x : Sb} (c : Cells h L ⟨g, 0, none⟩ (l.flatMap sbc)) (hx : l[i]? = some x) (hj : j = i) : Cells h L ⟨g, 0 + j * 20, none⟩ (sbc x) := by
  subst hj
  obtain ⟨hi, rfl⟩ := List.getElem?_eq_some_iff.1 hx
  have h1 := (c.drop (j * 20)).take 20
  rwa [flat_at sbc_len l j hi] at h1
theorem spl_flat {l : List Sb} {j o : Nat} {x : Sb} (ho : o = j * 20) (hj : j < l.length) : spl (l.flatMap sbc) o (Value.agg (sbc x).toArray).cells.toList = (l.set j x).flatMap sbc := by
  subst ho
  show spl (l.flatMap sbc) (j * 20) (sbc x) = _
  induction l generalizing j with
  | nil => simp at hj
  | cons y l ih =>
    have hy := sbc_len y
    cases j with
    | zero =>
      unfold spl
      simp only [List.flatMap_cons, List.set_cons_zero, Nat.zero_mul, List.take_zero, List.nil_append, Nat.zero_add]
      rw [sbc_len, ← hy, List.drop_left]
    | succ j =>
      have h1 := ih (j := j) (by simpa using hj)
      unfold spl at h1 ⊢
      simp only [List.flatMap_cons, List.set_cons_succ]
      have e1 : (j + 1) * 20 = (sbc y).length + j * 20 := by omega
      rw [e1, List.take_length_add_append, Nat.add_assoc, List.drop_length_add_append, List.append_assoc, List.append_assoc, ← List.append_assoc (List.take _ _), h1]
/-- a part of a row that stays -/
theorem row_part {g cap m : Nat} {l : List Sb} {i o : Nat} {x : Sb} (hx : l[i]? = some x) (ho : o = 0 + i * 20) : ∀ w, Hd h [rowS g cap m l] w → Hd h [Res.part g o (.int .i64 x.d.1) ((sbc x).tail)] w := fun w s => ⟨s.view, fun r hr => by
  have hr : r = Res.part g o (.int .i64 x.d.1) ((sbc x).tail) := by simpa using hr
  subst hr
  intro j u hj
  subst ho
  have hc := row_el (h := h) (L := [rowS g cap m l]) (row_cells 0 rfl) hx rfl
  have := hc w s j u hj
  rwa [Addr.add_off] at this⟩
end

/-! lists in which each dot's siblings keep their order -/
def KF (l m : List Sb) : Prop := ∀ d : Dt, l.filter (fun x => decide (x.d = d)) = m.filter (fun x => decide (x.d = d))
theorem KF.refl (l : List Sb) : KF l l := fun _ => rfl
theorem KF.symm {l m : List Sb} (h : KF l m) : KF m l := fun d => (h d).symm
theorem KF.trans {l m n : List Sb} (h : KF l m) (k : KF m n) : KF l n := fun d => (h d).trans (k d)
theorem KF.app {a b c d : List Sb} (h : KF a b) (k : KF c d) : KF (a ++ c) (b ++ d) := fun x => by rw [List.filter_append, List.filter_append, h x, k x]
theorem KF.mem {l m : List Sb} (h : KF l m) (x : Sb) : x ∈ l ↔ x ∈ m := by
  have := h x.d
  constructor
  · intro hx
    have : x ∈ m.filter (fun y => decide (y.d = x.d)) := by rw [← this]; exact List.mem_filter.2 ⟨hx, by simp⟩
    exact (List.mem_filter.1 this).1
  · intro hx
    have : x ∈ l.filter (fun y => decide (y.d = x.d)) := by rw [this]; exact List.mem_filter.2 ⟨hx, by simp⟩
    exact (List.mem_filter.1 this).1
/-- one that is unlike all of a list may stand on either side of it -/
theorem KF.move {x : Sb} : ∀ {l : List Sb}, (∀ y ∈ l, y.d ≠ x.d) → KF (l ++ [x]) (x :: l)
  | [], _ => KF.refl _
  | y :: l, h => fun d => by
    have ih := KF.move (l := l) (fun z hz => h z (List.mem_cons_of_mem _ hz)) d
    have hy := h y (List.mem_cons_self ..)
    rw [List.cons_append, List.filter_cons, ih]
    by_cases e1 : x.d = d
    · have e2 : y.d ≠ d := fun e => hy (e.trans e1.symm)
      simp [e1, e2]
    · simp [List.filter_cons, e1]
theorem KF.perm {l m : List Sb} (h : KF l m) : l.Perm m := by
  classical
  refine List.perm_iff_count.2 fun x => ?_
  have h1 := h x.d
  have e1 := List.count_filter (p := fun y : Sb => decide (y.d = x.d)) (a := x) (l := l) (by simp)
  have e2 := List.count_filter (p := fun y : Sb => decide (y.d = x.d)) (a := x) (l := m) (by simp)
  rw [← e1, ← e2, h1]
theorem KF.len {l m : List Sb} (h : KF l m) : l.length = m.length := h.perm.length_eq
theorem KF.swap {a b : List Sb} (h : ∀ x ∈ a, ∀ y ∈ b, y.d ≠ x.d) : KF (a ++ b) (b ++ a) := fun d => by
  rw [List.filter_append, List.filter_append]
  by_cases h1 : ∃ x ∈ a, x.d = d
  · obtain ⟨x, hx, rfl⟩ := h1
    have : b.filter (fun y => decide (y.d = x.d)) = [] := List.filter_eq_nil_iff.2 fun y hy => by simpa using h x hx y hy
    rw [this, List.append_nil, List.nil_append]
  · have : a.filter (fun y => decide (y.d = d)) = [] := List.filter_eq_nil_iff.2 fun y hy => by simpa using fun e => h1 ⟨y, hy, e⟩
    rw [this, List.append_nil, List.nil_append]
def SortS (l : List Sb) : Prop := l.Pairwise fun x y => ordD x.d y.d ≤ 0
theorem ord_le {x y : Dt} : ordD x y ≤ 0 ↔ ¬ ordD y x < 0 := by
  unfold ordD cmpI
  constructor
  · intro h1 h2
    split at h1 <;> split at h2 <;> (repeat' split at *) <;> omega
  · intro h1
    split at h1 <;> (repeat' split at *) <;> omega
theorem ord_le_trans {x y z : Dt} (h1 : ordD x y ≤ 0) (h2 : ordD y z ≤ 0) : ordD x z ≤ 0 := by
  rw [ord_le, ord_iff] at *
  omega
theorem ord_le_lt {x y : Dt} (h1 : ordD x y < 0) : ordD x y ≤ 0 := by omega
end Go.Proofs.Ytkkjppeaaicgaaa
end

section
namespace Go.Proofs.Ytkkjppeaaicgaaa
open Go Go.Ck
set_option maxRecDepth 100000
set_option maxHeartbeats 2000000
set_option linter.unusedVariables false

/-- what sorting a part leaves -/
def InsR (l : List Sb) (a b : Nat) (m : List Sb) : Prop := ∃ S, S.length = b - a ∧ KF ((l.take b).drop a) S ∧ SortS S ∧ m = l.take a ++ (S ++ l.drop b)
/-- x on its way down a sorted part -/
def insL (P S Q : List Sb) (x : Sb) (t : Nat) : List Sb := P ++ (S.take t ++ (x :: (S.drop t ++ Q)))
theorem insL_len {P S Q : List Sb} {x : Sb} {t : Nat} (ht : t ≤ S.length) : (insL P S Q x t).length = P.length + (S.length + (1 + Q.length)) := by simp [insL]; omega
theorem insL_x {P S Q : List Sb} {x : Sb} {t : Nat} (ht : t ≤ S.length) : (insL P S Q x t)[P.length + t]? = some x := by
  unfold insL
  rw [List.getElem?_append_right (by omega), List.getElem?_append_right (by simp; omega)]
  have : P.length + t - P.length - (S.take t).length = 0 := by simp; omega
  rw [this]; rfl
theorem insL_y {P S Q : List Sb} {x y : Sb} {t : Nat} (h0 : 0 < t) (ht : t ≤ S.length) (hy : S[t - 1]? = some y) : (insL P S Q x t)[P.length + t - 1]? = some y := by
  unfold insL
  rw [List.getElem?_append_right (by omega), List.getElem?_append_left (by simp; omega), List.getElem?_take_of_lt (by omega)]
  have : P.length + t - 1 - P.length = t - 1 := by omega
  rw [this, hy]
theorem swp_app {A B : List Sb} {x y : Sb} : ((A ++ (y :: x :: B)).set (A.length + 1) y).set A.length x = A ++ (x :: y :: B) := by
  induction A with
  | nil => rfl
  | cons z A ih => simp
theorem insL_swap {P S Q : List Sb} {x y : Sb} {t : Nat} (h0 : 0 < t) (ht : t ≤ S.length) (hy : S[t - 1]? = some y) : ((insL P S Q x t).set (P.length + t) y).set (P.length + t - 1) x = insL P S Q x (t - 1) := by
  obtain ⟨t, rfl⟩ : ∃ u, t = u + 1 := ⟨t - 1, by omega⟩
  simp only [Nat.add_sub_cancel] at hy ⊢
  obtain ⟨hyl, rfl⟩ := List.getElem?_eq_some_iff.1 hy
  have e1 : S.take (t + 1) = S.take t ++ [S[t]] := List.take_succ_eq_append_getElem (by omega)
  have e2 : S.drop t = S[t] :: S.drop (t + 1) := List.drop_eq_getElem_cons (by omega)
  have e3 : (P ++ S.take t).length = P.length + t := by simp; omega
  have e4 : insL P S Q x (t + 1) = (P ++ S.take t) ++ (S[t] :: x :: (S.drop (t + 1) ++ Q)) := by
    unfold insL; rw [e1]; simp only [List.append_assoc, List.singleton_append]
  have e5 : insL P S Q x t = (P ++ S.take t) ++ (x :: S[t] :: (S.drop (t + 1) ++ Q)) := by
    unfold insL; simp only [e2, List.append_assoc, List.cons_append]
  have h := swp_app (A := P ++ S.take t) (B := S.drop (t + 1) ++ Q) (x := x) (y := S[t])
  rw [e3] at h
  rw [e5, e4]
  exact h
theorem ord_self (d : Dt) : ¬ ordD d d < 0 := by rw [ord_iff]; omega
theorem ins_kf {S : List Sb} {x : Sb} {t : Nat} (hup : ∀ y ∈ S.drop t, ordD x.d y.d < 0) : KF (S ++ [x]) (S.take t ++ (x :: S.drop t)) := by
  have h1 : S ++ [x] = S.take t ++ (S.drop t ++ [x]) := by rw [← List.append_assoc, List.take_append_drop]
  rw [h1]
  exact (KF.refl _).app (KF.move fun y hy e => ord_self x.d (by have := hup y hy; rwa [e] at this))
theorem ins_sort {S : List Sb} {x : Sb} {t : Nat} (ht : t ≤ S.length) (hs : SortS S) (hup : ∀ y ∈ S.drop t, ordD x.d y.d < 0) (hlo : ∀ y, 0 < t → S[t - 1]? = some y → ¬ ordD x.d y.d < 0) : SortS (S.take t ++ (x :: S.drop t)) := by
  have h1 : SortS (S.take t ++ S.drop t) := by rw [List.take_append_drop]; exact hs
  obtain ⟨q1, q2, q3⟩ := List.pairwise_append.1 h1
  refine List.pairwise_append.2 ⟨q1, List.pairwise_cons.2 ⟨fun y hy => ord_le_lt (hup y hy), q2⟩, fun z hz y hy => ?_⟩
  rcases List.mem_cons.1 hy with rfl | hy
  · obtain ⟨j, hj, rfl⟩ := List.getElem_of_mem hz
    have hjt : j < t := by simp at hj; omega
    have h2 : ordD S[t - 1].d y.d ≤ 0 := ord_le.2 (hlo _ (by omega) (List.getElem?_eq_getElem (by omega)))
    rw [List.getElem_take]
    by_cases hjt' : j = t - 1
    · subst hjt'; exact h2
    · exact ord_le_trans (List.pairwise_iff_getElem.1 hs j (t - 1) (by omega) (by omega) (by omega)) h2
  · exact q3 z hz y hy

theorem insSort_sp (g cap m a b : Nat) (l : List Sb) (hm : l.length = m) (hab : a ≤ b) (hb : b ≤ m) (hm62 : m ≤ 1000000) (h1 : Ones l) (h : View) (w : World) (s : St ⟨w, h, doms [rowS g cap m l]⟩ h [rowS g cap m l] w) :
    Calls Try.prog 86 [.slice (some ⟨g, 0, none⟩) m cap, .int .i64 a, .int .i64 b, ordV].toArray w fun e w' => ∃ x : Value × List Sb, e = .returned x.1 ∧ St ⟨w, h, doms [rowS g cap m l]⟩ h [rowS g cap m x.2] w' ∧ InsR l a b x.2 := by
  refine calls_enter Try.func86 rfl Try.ntmps86 rfl s ?_
  repeat' (first | refine tw_ ?_ | (refine ta_ ?_; intro _) | ((fail_if_success (refine ybi rfl ?_)); refine ybj rfl ?_ ?_ <;> (intro ht; rw [ht]; first | replace ht := of_decide_eq_true ht | replace ht := of_decide_eq_false ht | skip)) | (refine ych ?_; first | (refine ybw rfl ?_ ?_ <;> intro ht) | (refine ybx rfl ?_ ?_ <;> intro ht)))
  by_cases hlt : a < b
  · have hPl : (l.take a).length = a := by simp; omega
    generalize hP : l.take a = P at hPl
    refine cx_loop (X := Nat × List Sb) (fun x => [(0, .slice (some ⟨g, 0, none⟩) m cap), (1, .int .i64 a), (2, .int .i64 b), (3, ordV), (8, .int .i64 (x.1 : Nat))]) (fun _ => h) (fun x => [rowS g cap m (P ++ (x.2 ++ l.drop x.1))])
      (fun x => a < x.1 ∧ x.1 ≤ b ∧ x.2.length = x.1 - a ∧ KF ((l.take x.1).drop a) x.2 ∧ SortS x.2) (fun x => b - x.1) (a + 1, (l.take (a + 1)).drop a) ⟨by show a < a + 1; omega, by show a + 1 ≤ b; omega, by simp; omega, KF.refl _, ?_⟩ ts_ (fun _ s => ?_) ?_
    · have : ((l.take (a + 1)).drop a).length ≤ 1 := by simp; omega
      match h0 : (l.take (a + 1)).drop a, this with
      | [], _ => exact List.Pairwise.nil
      | [x], _ => exact List.pairwise_singleton ..
      | x :: y :: r, hx => simp at hx
    · have : P ++ ((l.take (a + 1)).drop a ++ l.drop (a + 1)) = l := by
        rw [← hP, List.drop_take, show a + 1 - a = 1 by omega, ← List.drop_drop, List.take_append_drop, List.take_append_drop]
      dsimp only
      rw [this]
      exact s
    rintro ⟨i, S⟩ ⟨hi1, hi2, hSl, hkf, hsrt⟩
    dsimp only at hi1 hi2 hSl hkf hsrt ⊢
    by_cases hib : i < b
    · have hil : i < l.length := by omega
      have hd : l.drop i = l[i] :: l.drop (i + 1) := List.drop_eq_getElem_cons hil
      have hrow : P ++ (S ++ l.drop i) = insL P S (l.drop (i + 1)) l[i] S.length := by
        unfold insL
        rw [List.take_length, List.drop_length, hd, List.nil_append]
      have hx1 := h1 l[i] (List.getElem_mem hil)
      have hkx : KF ((l.take (i + 1)).drop a) (S ++ [l[i]]) := by
        have e : (l.take (i + 1)).drop a = (l.take i).drop a ++ [l[i]] := by
          rw [List.take_succ_eq_append_getElem hil, List.drop_append_of_le_length (by simp; omega)]
        rw [e]
        exact hkf.app (KF.refl _)
      have hS1 : Ones S := fun y hy => h1 y (List.mem_of_mem_take (List.mem_of_mem_drop ((hkf.mem y).2 hy)))
      have hQl : (l.drop (i + 1)).length = m - (i + 1) := by simp [hm]
      generalize hQ : l.drop (i + 1) = Q at hrow hQl ⊢
      generalize l[i] = x at hrow hx1 hkx ⊢
      rw [hrow]
      repeat' (first | (refine ycf ?_; apply ybk; (· first | (exact tk_)); (· rfl); (· rfl)) | refine t1_ ?_ | (refine ta_ ?_; intro _) | ((fail_if_success (refine ybi rfl ?_)); refine ybj rfl ?_ ?_ <;> (intro ht; rw [ht]; first | replace ht := of_decide_eq_true ht | replace ht := of_decide_eq_false ht | skip)) | (refine ych ?_; first | (refine ybw rfl ?_ ?_ <;> intro ht) | (refine ybx rfl ?_ ?_ <;> intro ht)))
      refine cx_loop (X := Nat) (fun t => [(0, .slice (some ⟨g, 0, none⟩) m cap), (1, .int .i64 a), (2, .int .i64 b), (3, ordV), (8, .int .i64 (i : Nat)), (9, .int .i64 (a + t : Nat))]) (fun _ => h) (fun t => [rowS g cap m (insL P S Q x t)])
        (fun t => t ≤ S.length ∧ ∀ y ∈ S.drop t, ordD x.d y.d < 0) (fun t => t) S.length ⟨Nat.le_refl _, by simp⟩ (by repeat' (first | exact Sub.nil | refine Sub.cons rfl rfl ?_ | refine Sub.cons rfl (congrArg (Value.int .i64) (by omega)) ?_)) (fun _ s => s) ?_
      rintro t ⟨ht, hup⟩
      have hLl : (insL P S Q x t).length = m := by rw [insL_len ht]; omega
      have hel := fun (L : List Res) (c : Cells h L ⟨g, 0, none⟩ ((insL P S Q x t).flatMap sbc)) => row_el c (insL_x ht) (show ((a + t : Nat) : Int).toNat = P.length + t by omega)
      have hxl := sbc_len x
      have hdone : (∀ y, 0 < t → S[t - 1]? = some y → ¬ ordD x.d y.d < 0) → ∃ S', S' = S.take t ++ (x :: S.drop t) ∧ insL P S Q x t = P ++ (S' ++ l.drop (i + 1)) ∧ S'.length = i + 1 - a ∧ KF ((l.take (i + 1)).drop a) S' ∧ SortS S' := fun hlo =>
        ⟨_, rfl, by rw [hQ]; simp [insL], by simp; omega, hkx.trans (ins_kf hup), ins_sort ht hsrt hup hlo⟩
      by_cases h0 : t = 0
      · subst h0
        obtain ⟨S', _, e1, e2, e3, e4⟩ := hdone (fun _ hx => absurd hx (by decide))
        rw [e1]
        repeat' (first | (refine ycf ?_; apply ybk; (· first | (exact tk_)); (· rfl); (· rfl)) | refine t1_ ?_ | (refine ta_ ?_; intro _) | ((fail_if_success (refine ybi rfl ?_)); refine ybj rfl ?_ ?_ <;> (intro ht; rw [ht]; first | replace ht := of_decide_eq_true ht | replace ht := of_decide_eq_false ht | skip)) | (refine ych ?_; first | (refine ybw rfl ?_ ?_ <;> intro ht) | (refine ybx rfl ?_ ?_ <;> intro ht)))
        refine cx_region_draw' rfl (by kernel_rfl) ?_
        repeat' (refine ycf ?_; (first | (first | (apply ybm; (· (first | (exact tk_) | exact tq_)); (· rfl); (· rfl); (· (exact th_))) | refine ybl rfl rfl ?_ | ((fail_if_success (refine ybi rfl ?_)); refine ybj rfl ?_ ?_ <;> (intro ht; rw [ht]; first | replace ht := of_decide_eq_true ht | replace ht := of_decide_eq_false ht | skip)) | (refine tb_ ?_ ?_ ?_; (· (exact to_)); (· intro _; (exact to_)); intro _) | (first | (refine tqs_ ?_ ?_ ?_; (· (exact to_)); (· (exact to_)))) | (apply ybn; (· (first | (exact tk_) | exact tq_)); (· rfl); (· rfl); (· rfl); (· (exact to_)))) | refine ycg ?_))
        repeat' (first | (refine ycf ?_; apply ybk; (· first | (exact tk_)); (· rfl); (· rfl)) | refine t1_ ?_ | (refine ta_ ?_; intro _) | ((fail_if_success (refine ybi rfl ?_)); refine ybj rfl ?_ ?_ <;> (intro ht; rw [ht]; first | replace ht := of_decide_eq_true ht | replace ht := of_decide_eq_false ht | skip)) | (refine ych ?_; first | (refine ybw rfl ?_ ?_ <;> intro ht) | (refine ybx rfl ?_ ?_ <;> intro ht)))
        refine nx_round (i + 1, S') ⟨by show a < i + 1; omega, by show i + 1 ≤ b; omega, e2, e3, e4⟩ (by show b - (i + 1) < b - i; omega) ts_ (fun _ s => s)
      · obtain ⟨y, hy⟩ : ∃ y, S[t - 1]? = some y := ⟨_, List.getElem?_eq_getElem (by omega)⟩
        have hel' := fun (L : List Res) (c : Cells h L ⟨g, 0, none⟩ ((insL P S Q x t).flatMap sbc)) => row_el c (insL_y (by omega) ht hy) (show (((a + t : Nat) : Int) - 1).toNat = P.length + t - 1 by omega)
        have hyl := sbc_len y
        have hym : y ∈ S := List.mem_of_getElem? hy
        have hy1 := hS1 y hym
        repeat' (first | (refine ycf ?_; apply ybk; (· first | (first | exact tk_ | (apply yad; (· rfl); (· exact hel _ (row_cells 0 rfl)); (· exact hxl)) | (apply yad; (· rfl); (· exact hel' _ (row_cells 0 rfl)); (· exact hyl)))); (· rfl); (· rfl)) | refine t1_ ?_ | (refine ta_ ?_; intro _) | ((fail_if_success (refine ybi rfl ?_)); refine ybj rfl ?_ ?_ <;> (intro ht; rw [ht]; first | replace ht := of_decide_eq_true ht | replace ht := of_decide_eq_false ht | skip)) | (refine ych ?_; first | (refine ybw rfl ?_ ?_ <;> intro ht) | (refine ybx rfl ?_ ?_ <;> intro ht)))
        refine cx_region_draw' rfl (by kernel_rfl) ?_
        repeat' (refine ycf ?_;(first|(first|(apply ybm;(·(first|(first|exact tk_|(apply yad;(·rfl);(·exact hel _ (row_cells 0 rfl));(·exact hxl))|(apply yad;(·rfl);(·exact hel' _ (row_cells 0 rfl));(·exact hyl)))|exact tq_));(·rfl);(·rfl);(·(exact th_)))|refine ybl rfl rfl ?_|((fail_if_success (refine ybi rfl ?_));refine ybj rfl ?_ ?_<;>(intro ht;rw [ht];first|replace ht := of_decide_eq_true ht|replace ht := of_decide_eq_false ht|skip))|(refine tb_ ?_ ?_ ?_;(·(exact to_));(·intro _;(exact to_));intro _)|(first|(refine tqs_ ?_ ?_ ?_;(·(exact to_));(·(exact to_))))|(apply ybn;(·(first|(first|exact tk_|(apply yad;(·rfl);(·exact hel _ (row_cells 0 rfl));(·exact hxl))|(apply yad;(·rfl);(·exact hel' _ (row_cells 0 rfl));(·exact hyl)))|exact tq_));(·rfl);(·rfl);(·rfl);(·(exact to_))))|refine ycg ?_))
        (refine ycn (call_val rfl Try.func32 rfl (by kernel_rfl) rfl) (sorder_sp x y h) rfl rfl rfl ?_ ?_; (· (exact to_)))
        by_cases hO : ordD x.d y.d < 0
        · repeat' (refine ycf ?_;(first|(first|(apply ybm;(·(first|(first|exact tk_|(apply yad;(·rfl);(·exact hel _ (row_cells 0 rfl));(·exact hxl))|(apply yad;(·rfl);(·exact hel' _ (row_cells 0 rfl));(·exact hyl)))|exact tq_));(·rfl);(·rfl);(·(exact th_)))|refine ybl rfl rfl ?_|((fail_if_success (refine ybi rfl ?_));refine ybj rfl ?_ ?_<;>(intro ht;rw [ht];first|replace ht := of_decide_eq_true ht|replace ht := of_decide_eq_false ht|skip))|(refine tb_ ?_ ?_ ?_;(·(exact to_));(·intro _;(exact to_));intro _)|(first|(refine tqs_ ?_ ?_ ?_;(·(exact to_));(·(exact to_))))|(apply ybn;(·(first|(first|exact tk_|(apply yad;(·rfl);(·exact hel _ (row_cells 0 rfl));(·exact hxl))|(apply yad;(·rfl);(·exact hel' _ (row_cells 0 rfl));(·exact hyl)))|exact tq_));(·rfl);(·rfl);(·rfl);(·(exact to_))))|refine ycg ?_))
          have hcur : ((insL P S Q x t).set (P.length + t) y)[P.length + t - 1]? = some y := by
            rw [List.getElem?_set_ne (by omega)]
            exact insL_y (by omega) ht hy
          repeat' (first | (refine ycf ?_; apply ybk; (· first | (first | exact tk_ | (apply yad; (· rfl); (· exact hel _ (row_cells 0 rfl)); (· exact hxl)) | (apply yad; (· rfl); (· exact hel' _ (row_cells 0 rfl)); (· exact hyl)))); (· rfl); (· rfl)) | refine t1_ ?_ | (refine ta_ ?_; intro _) | ((fail_if_success (refine ybi rfl ?_)); refine ybj rfl ?_ ?_ <;> (intro ht; rw [ht]; first | replace ht := of_decide_eq_true ht | replace ht := of_decide_eq_false ht | skip)) | (refine ych ?_; first | (refine ybw rfl ?_ ?_ <;> intro ht) | (refine ybx rfl ?_ ?_ <;> intro ht)))
          refine cx_region_drawL [Res.part g (0 + (((a + t : Nat) : Int) - 1).toNat * 20) (.int .i64 y.d.1) (sbc y).tail] [13] rfl (by kernel_rfl) ?_
          repeat' (refine ycf ?_;(first|(first|(apply ybm;(·(first|(first|exact tk_|(apply yad;(·rfl);(·exact (show Cells _ _ _ (sbc y) from part_cells 0 rfl));(·exact hyl))|(apply yad;(·rfl);(·exact hel _ (row_cells 0 rfl));(·exact hxl)))|exact tq_));(·rfl);(·rfl);(·(first|exact row_part (insL_y (by omega) ht hy) (by omega)|exact row_part hcur (by omega))))|refine ybl rfl rfl ?_|((fail_if_success (refine ybi rfl ?_));refine ybj rfl ?_ ?_<;>(intro ht;rw [ht];first|replace ht := of_decide_eq_true ht|replace ht := of_decide_eq_false ht|skip))|(refine tb_ ?_ ?_ ?_;(·(first|exact ybf|(refine .inl ?_;(first|exact row_part (insL_y (by omega) ht hy) (by omega)|exact row_part hcur (by omega)))|exact to_));(·intro _;(first|exact ybf|(refine .inl ?_;(first|exact row_part (insL_y (by omega) ht hy) (by omega)|exact row_part hcur (by omega)))|exact to_));intro _)|(first|(first|(refine rx_rowstore 0 rfl rfl rfl (sbc_sz y) (by rw [sbc_sz];omega) (sbc_one hy1.1 hy1.2) (spl_flat (j := P.length + t) (by omega) (by omega)) rfl rfl ?_ ?_ ?_;(·(first|exact ybf|(refine .inl ?_;(first|exact row_part (insL_y (by omega) ht hy) (by omega)|exact row_part hcur (by omega)))|exact to_));(·(first|exact ybf|(refine .inl ?_;(first|exact row_part (insL_y (by omega) ht hy) (by omega)|exact row_part hcur (by omega)))|exact to_)))|(refine rx_rowstore 0 rfl rfl rfl (sbc_sz x) (by rw [sbc_sz];omega) (sbc_one hx1.1 hx1.2) (spl_flat (j := P.length + t - 1) (by omega) (by rw [List.length_set];omega)) rfl rfl ?_ ?_ ?_;(·(first|exact ybf|(refine .inl ?_;(first|exact row_part (insL_y (by omega) ht hy) (by omega)|exact row_part hcur (by omega)))|exact to_));(·(first|exact ybf|(refine .inl ?_;(first|exact row_part (insL_y (by omega) ht hy) (by omega)|exact row_part hcur (by omega)))|exact to_))))|(refine tqs_ ?_ ?_ ?_;(·(first|exact ybf|(refine .inl ?_;(first|exact row_part (insL_y (by omega) ht hy) (by omega)|exact row_part hcur (by omega)))|exact to_));(·(first|exact ybf|(refine .inl ?_;(first|exact row_part (insL_y (by omega) ht hy) (by omega)|exact row_part hcur (by omega)))|exact to_))))|(apply ybn;(·(first|(first|exact tk_|(apply yad;(·rfl);(·exact (show Cells _ _ _ (sbc y) from part_cells 0 rfl));(·exact hyl))|(apply yad;(·rfl);(·exact hel _ (row_cells 0 rfl));(·exact hxl)))|exact tq_));(·rfl);(·rfl);(·rfl);(·(first|exact ybf|(refine .inl ?_;(first|exact row_part (insL_y (by omega) ht hy) (by omega)|exact row_part hcur (by omega)))|exact to_))))|refine ycg ?_))
          rw [insL_swap (by omega) ht hy]
          repeat' (first|(refine ycf ?_;apply ybk;(·first|(first|exact tk_|(apply yad;(·rfl);(·exact (show Cells _ _ _ (sbc y) from part_cells 0 rfl));(·exact hyl))|(apply yad;(·rfl);(·exact hel _ (row_cells 0 rfl));(·exact hxl))));(·rfl);(·rfl))|(first|(refine rx_rowstore 0 rfl rfl rfl (sbc_sz y) (by rw [sbc_sz];omega) (sbc_one hy1.1 hy1.2) (spl_flat (j := P.length + t) (by omega) (by omega)) rfl rfl ?_ ?_ ?_;(·(first|exact ybf|(refine .inl ?_;(first|exact row_part (insL_y (by omega) ht hy) (by omega)|exact row_part hcur (by omega)))|exact to_));(·(first|exact ybf|(refine .inl ?_;(first|exact row_part (insL_y (by omega) ht hy) (by omega)|exact row_part hcur (by omega)))|exact to_)))|(refine rx_rowstore 0 rfl rfl rfl (sbc_sz x) (by rw [sbc_sz];omega) (sbc_one hx1.1 hx1.2) (spl_flat (j := P.length + t - 1) (by omega) (by rw [List.length_set];omega)) rfl rfl ?_ ?_ ?_;(·(first|exact ybf|(refine .inl ?_;(first|exact row_part (insL_y (by omega) ht hy) (by omega)|exact row_part hcur (by omega)))|exact to_));(·(first|exact ybf|(refine .inl ?_;(first|exact row_part (insL_y (by omega) ht hy) (by omega)|exact row_part hcur (by omega)))|exact to_))))|refine t1_ ?_|(refine ta_ ?_;intro _)|((fail_if_success (refine ybi rfl ?_));refine ybj rfl ?_ ?_<;>(intro ht;rw [ht];first|replace ht := of_decide_eq_true ht|replace ht := of_decide_eq_false ht|skip))|(refine ych ?_;first|(refine ybw rfl ?_ ?_<;>intro ht)|(refine ybx rfl ?_ ?_<;>intro ht)))
          refine nx_round (t - 1) ⟨by omega, fun z hz => ?_⟩ (by omega) (by repeat' (first | exact Sub.nil | refine Sub.cons rfl rfl ?_ | refine Sub.cons rfl (congrArg (Value.int .i64) (by omega)) ?_)) (fun _ s => s)
          obtain ⟨hyl', hyv⟩ := List.getElem?_eq_some_iff.1 hy
          have e2 : S.drop (t - 1) = y :: S.drop t := by
            rw [List.drop_eq_getElem_cons hyl', hyv, show t - 1 + 1 = t by omega]
          rw [e2] at hz
          rcases List.mem_cons.1 hz with rfl | hz
          · exact hO
          · exact hup z hz
        · obtain ⟨S', _, e1, e2, e3, e4⟩ := hdone (fun z _ hz => by rw [hy] at hz; cases hz; exact hO)
          repeat' (refine ycf ?_;(first|(first|(apply ybm;(·(first|(first|exact tk_|(apply yad;(·rfl);(·exact (show Cells _ _ _ (sbc y) from part_cells 0 rfl));(·exact hyl))|(apply yad;(·rfl);(·exact hel _ (row_cells 0 rfl));(·exact hxl)))|exact tq_));(·rfl);(·rfl);(·(first|exact row_part (insL_y (by omega) ht hy) (by omega)|exact row_part hcur (by omega))))|refine ybl rfl rfl ?_|((fail_if_success (refine ybi rfl ?_));refine ybj rfl ?_ ?_<;>(intro ht;rw [ht];first|replace ht := of_decide_eq_true ht|replace ht := of_decide_eq_false ht|skip))|(refine tb_ ?_ ?_ ?_;(·(first|exact ybf|(refine .inl ?_;(first|exact row_part (insL_y (by omega) ht hy) (by omega)|exact row_part hcur (by omega)))|exact to_));(·intro _;(first|exact ybf|(refine .inl ?_;(first|exact row_part (insL_y (by omega) ht hy) (by omega)|exact row_part hcur (by omega)))|exact to_));intro _)|(first|(first|(refine rx_rowstore 0 rfl rfl rfl (sbc_sz y) (by rw [sbc_sz];omega) (sbc_one hy1.1 hy1.2) (spl_flat (j := P.length + t) (by omega) (by omega)) rfl rfl ?_ ?_ ?_;(·(first|exact ybf|(refine .inl ?_;(first|exact row_part (insL_y (by omega) ht hy) (by omega)|exact row_part hcur (by omega)))|exact to_));(·(first|exact ybf|(refine .inl ?_;(first|exact row_part (insL_y (by omega) ht hy) (by omega)|exact row_part hcur (by omega)))|exact to_)))|(refine rx_rowstore 0 rfl rfl rfl (sbc_sz x) (by rw [sbc_sz];omega) (sbc_one hx1.1 hx1.2) (spl_flat (j := P.length + t - 1) (by omega) (by rw [List.length_set];omega)) rfl rfl ?_ ?_ ?_;(·(first|exact ybf|(refine .inl ?_;(first|exact row_part (insL_y (by omega) ht hy) (by omega)|exact row_part hcur (by omega)))|exact to_));(·(first|exact ybf|(refine .inl ?_;(first|exact row_part (insL_y (by omega) ht hy) (by omega)|exact row_part hcur (by omega)))|exact to_))))|(refine tqs_ ?_ ?_ ?_;(·(first|exact ybf|(refine .inl ?_;(first|exact row_part (insL_y (by omega) ht hy) (by omega)|exact row_part hcur (by omega)))|exact to_));(·(first|exact ybf|(refine .inl ?_;(first|exact row_part (insL_y (by omega) ht hy) (by omega)|exact row_part hcur (by omega)))|exact to_))))|(apply ybn;(·(first|(first|exact tk_|(apply yad;(·rfl);(·exact (show Cells _ _ _ (sbc y) from part_cells 0 rfl));(·exact hyl))|(apply yad;(·rfl);(·exact hel _ (row_cells 0 rfl));(·exact hxl)))|exact tq_));(·rfl);(·rfl);(·rfl);(·(first|exact ybf|(refine .inl ?_;(first|exact row_part (insL_y (by omega) ht hy) (by omega)|exact row_part hcur (by omega)))|exact to_))))|refine ycg ?_))
          rw [e1]
          repeat' (first|(refine ycf ?_;apply ybk;(·first|(first|exact tk_|(apply yad;(·rfl);(·exact (show Cells _ _ _ (sbc y) from part_cells 0 rfl));(·exact hyl))|(apply yad;(·rfl);(·exact hel _ (row_cells 0 rfl));(·exact hxl))));(·rfl);(·rfl))|(first|(refine rx_rowstore 0 rfl rfl rfl (sbc_sz y) (by rw [sbc_sz];omega) (sbc_one hy1.1 hy1.2) (spl_flat (j := P.length + t) (by omega) (by omega)) rfl rfl ?_ ?_ ?_;(·(first|exact ybf|(refine .inl ?_;(first|exact row_part (insL_y (by omega) ht hy) (by omega)|exact row_part hcur (by omega)))|exact to_));(·(first|exact ybf|(refine .inl ?_;(first|exact row_part (insL_y (by omega) ht hy) (by omega)|exact row_part hcur (by omega)))|exact to_)))|(refine rx_rowstore 0 rfl rfl rfl (sbc_sz x) (by rw [sbc_sz];omega) (sbc_one hx1.1 hx1.2) (spl_flat (j := P.length + t - 1) (by omega) (by rw [List.length_set];omega)) rfl rfl ?_ ?_ ?_;(·(first|exact ybf|(refine .inl ?_;(first|exact row_part (insL_y (by omega) ht hy) (by omega)|exact row_part hcur (by omega)))|exact to_));(·(first|exact ybf|(refine .inl ?_;(first|exact row_part (insL_y (by omega) ht hy) (by omega)|exact row_part hcur (by omega)))|exact to_))))|refine t1_ ?_|(refine ta_ ?_;intro _)|((fail_if_success (refine ybi rfl ?_));refine ybj rfl ?_ ?_<;>(intro ht;rw [ht];first|replace ht := of_decide_eq_true ht|replace ht := of_decide_eq_false ht|skip))|(refine ych ?_;first|(refine ybw rfl ?_ ?_<;>intro ht)|(refine ybx rfl ?_ ?_<;>intro ht)))
          refine nx_round (i + 1, S') ⟨by show a < i + 1; omega, by show i + 1 ≤ b; omega, e2, e3, e4⟩ (by show b - (i + 1) < b - i; omega) ts_ (fun _ s => s)
    · have hib' : i = b := by omega
      subst hib'
      repeat' (first|(refine ycf ?_;apply ybk;(·first|(exact tk_));(·rfl);(·rfl))|(first|(refine rx_rowstore 0 rfl rfl rfl (sbc_sz y) (by rw [sbc_sz];omega) (sbc_one hy1.1 hy1.2) (spl_flat (j := P.length + t) (by omega) (by omega)) rfl rfl ?_ ?_ ?_;(·(first|exact ybf|(refine .inl ?_;(first|exact row_part (insL_y (by omega) ht hy) (by omega)|exact row_part hcur (by omega)))|exact to_));(·(first|exact ybf|(refine .inl ?_;(first|exact row_part (insL_y (by omega) ht hy) (by omega)|exact row_part hcur (by omega)))|exact to_)))|(refine rx_rowstore 0 rfl rfl rfl (sbc_sz x) (by rw [sbc_sz];omega) (sbc_one hx1.1 hx1.2) (spl_flat (j := P.length + t - 1) (by omega) (by rw [List.length_set];omega)) rfl rfl ?_ ?_ ?_;(·(first|exact ybf|(refine .inl ?_;(first|exact row_part (insL_y (by omega) ht hy) (by omega)|exact row_part hcur (by omega)))|exact to_));(·(first|exact ybf|(refine .inl ?_;(first|exact row_part (insL_y (by omega) ht hy) (by omega)|exact row_part hcur (by omega)))|exact to_))))|refine t1_ ?_|(refine ta_ ?_;intro _)|((fail_if_success (refine ybi rfl ?_));refine ybj rfl ?_ ?_<;>(intro ht;rw [ht];first|replace ht := of_decide_eq_true ht|replace ht := of_decide_eq_false ht|skip))|(refine ych ?_;first|(refine ybw rfl ?_ ?_<;>intro ht)|(refine ybx rfl ?_ ?_<;>intro ht)))
      exact nx_end0 rfl (fun w' s' => ⟨(_, _), rfl, s', S, hSl, hkf, hsrt, by rw [hP]⟩)
  · have hba : b = a := by omega
    subst hba
    refine cx_loop (X := Unit) (fun x => [(0, .slice (some ⟨g, 0, none⟩) m cap), (2, .int .i64 b), (8, .int .i64 ((b : Int) + 1))]) (fun _ => h) (fun _ => [rowS g cap m l]) (fun _ => True) (fun _ => 0) () trivial ts_ (fun _ s => s) ?_
    rintro ⟨⟩ _
    repeat' (first|(refine ycf ?_;apply ybk;(·first|(exact tk_));(·rfl);(·rfl))|(first|(refine rx_rowstore 0 rfl rfl rfl (sbc_sz y) (by rw [sbc_sz];omega) (sbc_one hy1.1 hy1.2) (spl_flat (j := P.length + t) (by omega) (by omega)) rfl rfl ?_ ?_ ?_;(·(first|exact ybf|(refine .inl ?_;(first|exact row_part (insL_y (by omega) ht hy) (by omega)|exact row_part hcur (by omega)))|exact to_));(·(first|exact ybf|(refine .inl ?_;(first|exact row_part (insL_y (by omega) ht hy) (by omega)|exact row_part hcur (by omega)))|exact to_)))|(refine rx_rowstore 0 rfl rfl rfl (sbc_sz x) (by rw [sbc_sz];omega) (sbc_one hx1.1 hx1.2) (spl_flat (j := P.length + t - 1) (by omega) (by rw [List.length_set];omega)) rfl rfl ?_ ?_ ?_;(·(first|exact ybf|(refine .inl ?_;(first|exact row_part (insL_y (by omega) ht hy) (by omega)|exact row_part hcur (by omega)))|exact to_));(·(first|exact ybf|(refine .inl ?_;(first|exact row_part (insL_y (by omega) ht hy) (by omega)|exact row_part hcur (by omega)))|exact to_))))|refine t1_ ?_|(refine ta_ ?_;intro _)|((fail_if_success (refine ybi rfl ?_));refine ybj rfl ?_ ?_<;>(intro ht;rw [ht];first|replace ht := of_decide_eq_true ht|replace ht := of_decide_eq_false ht|skip))|(refine ych ?_;first|(refine ybw rfl ?_ ?_<;>intro ht)|(refine ybx rfl ?_ ?_<;>intro ht)))
    exact nx_end0 rfl (fun w' s' => ⟨(_, l), rfl, s', [], by simp, by rw [List.drop_eq_nil_of_le (by simp; omega)]; exact KF.refl _, List.Pairwise.nil, by simp⟩)
end Go.Proofs.Ytkkjppeaaicgaaa
end
