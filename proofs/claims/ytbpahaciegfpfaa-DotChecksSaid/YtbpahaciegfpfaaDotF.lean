/-
  DotF: slices.IndexFunc and ContainsFunc at dots, dot.Covers, dot.Same, dot.Next.
  Conditions: each theorem states its own.
-/
import Derived.Test.YtbpahaciegfpfaaDotE
namespace Go.Proofs.Ytbpahaciegfpfaa
open Go Go.Ck
set_option maxRecDepth 100000
set_option maxHeartbeats 2000000
set_option linter.unusedVariables false

theorem indexFunc_sp (g : Nat) (cp : List Value) (fu : Func) (cd : Code) (p : Dt → Bool) (sv : Value) (l : List Dt) (h : View) (hs : Ds h sv l) (hl : l.length ≤ 4611686018427387904)
    (hf : Try.prog.funcs[g]? = some fu) (hb : fu.body = some cd) (hnm : (fu.name == "runtime.NumGoroutine") = false)
    (hp : ∀ d ∈ l, ∀ w, St ⟨w, h, []⟩ h [] w → Calls Try.prog g (dv d :: cp).toArray w fun e w' => e = .returned (.bool (p d)) ∧ St ⟨w, h, []⟩ h [] w') (w : World) (s : St ⟨w, h, []⟩ h [] w) :
    Calls Try.prog 59 [sv, .func (.func g) #[] cp.toArray].toArray w fun e w' => ∃ r : Int, e = .returned (.int .i64 r) ∧ St ⟨w, h, []⟩ h [] w' ∧ (0 ≤ r ↔ l.any p = true) := by
  obtain ⟨_, ad, cap, rfl, hcap, _⟩ := id hs
  refine calls_enter Try.func59 rfl Try.ntmps59 rfl s ?_
  repeat' (first | refine tw_ ?_ | (refine ta_ ?_; intro _) | ((fail_if_success (refine ybi rfl ?_)); refine ybj rfl ?_ ?_ <;> (intro ht; rw [ht]; first | replace ht := of_decide_eq_true ht | replace ht := of_decide_eq_false ht | skip)) | (refine ych ?_; first | (refine ybw rfl ?_ ?_ <;> intro ht) | (refine ybx rfl ?_ ?_ <;> intro ht)))
  refine cx_loop (X := Nat) (fun k => [(0, .slice ad l.length cap), (1, .func (.func g) #[] cp.toArray), (7, .int .i64 l.length), (8, .int .i64 k)]) (fun _ => h) (fun _ => _) (fun k => k ≤ l.length ∧ ∀ j (hj : j < l.length), j < k → p l[j] = false) (fun k => l.length - k) 0 ⟨by omega, by omega⟩ ts_ (fun _ s => s) ?_
  rintro k ⟨hk, hno⟩
  by_cases hkl : k < l.length
  · obtain ⟨bs, o, rfl⟩ := hs.ad (by omega) (by omega)
    have hel : ∀ L, Cells h L ⟨bs, o + k * 2, none⟩ (dcs l[k]) := fun L => hs.elem dcs_len k hkl
    have hpk := hp l[k] (List.getElem_mem hkl)
    cases hP : p l[k] with
    | true =>
      rw [hP] at hpk
      repeat' (first | (refine ycf ?_; apply ybk; (· first | (first | (apply yad; (· rfl); (· exact hel _); (· rfl)))); (· rfl); (· rfl)) | refine t1_ ?_ | (refine ta_ ?_; intro _) | ((fail_if_success (refine ybi rfl ?_)); refine ybj rfl ?_ ?_ <;> (intro ht; rw [ht]; first | replace ht := of_decide_eq_true ht | replace ht := of_decide_eq_false ht | skip)) | (refine ych ?_; first | (refine ybw rfl ?_ ?_ <;> intro ht) | (refine ybx rfl ?_ ?_ <;> intro ht)))
      · (refine ycn (call_val rfl hf hb hnm rfl) hpk rfl rfl rfl ?_ ?_; (· (exact to_)))
        repeat' (first | (refine ycf ?_; apply ybk; (· first | (first | (apply yad; (· rfl); (· exact hel _); (· rfl)))); (· rfl); (· rfl)) | refine t1_ ?_ | (refine ta_ ?_; intro _) | ((fail_if_success (refine ybi rfl ?_)); refine ybj rfl ?_ ?_ <;> (intro ht; rw [ht]; first | replace ht := of_decide_eq_true ht | replace ht := of_decide_eq_false ht | skip)) | (refine ych ?_; first | (refine ybw rfl ?_ ?_ <;> intro ht) | (refine ybx rfl ?_ ?_ <;> intro ht)))
        refine nx_ret1 rfl (rv_tmp rfl) (fun w' s' => ⟨_, rfl, s'.nil, ?_⟩)
        constructor
        · intro _; exact List.any_eq_true.2 ⟨l[k], List.getElem_mem hkl, hP⟩
        · intro _; omega
      · omega
    | false =>
      rw [hP] at hpk
      repeat' (first | (refine ycf ?_; apply ybk; (· first | (first | (apply yad; (· rfl); (· exact hel _); (· rfl)))); (· rfl); (· rfl)) | refine t1_ ?_ | (refine ta_ ?_; intro _) | ((fail_if_success (refine ybi rfl ?_)); refine ybj rfl ?_ ?_ <;> (intro ht; rw [ht]; first | replace ht := of_decide_eq_true ht | replace ht := of_decide_eq_false ht | skip)) | (refine ych ?_; first | (refine ybw rfl ?_ ?_ <;> intro ht) | (refine ybx rfl ?_ ?_ <;> intro ht)))
      · (refine ycn (call_val rfl hf hb hnm rfl) hpk rfl rfl rfl ?_ ?_; (· (exact to_)))
        repeat' (first | (refine ycf ?_; apply ybk; (· first | (first | (apply yad; (· rfl); (· exact hel _); (· rfl)))); (· rfl); (· rfl)) | refine t1_ ?_ | (refine ta_ ?_; intro _) | ((fail_if_success (refine ybi rfl ?_)); refine ybj rfl ?_ ?_ <;> (intro ht; rw [ht]; first | replace ht := of_decide_eq_true ht | replace ht := of_decide_eq_false ht | skip)) | (refine ych ?_; first | (refine ybw rfl ?_ ?_ <;> intro ht) | (refine ybx rfl ?_ ?_ <;> intro ht)))
        refine nx_round (k + 1) ⟨by omega, fun j hj hjk => ?_⟩ (by omega) ts_ (fun _ s => s)
        by_cases hjk' : j = k
        · subst hjk'; exact hP
        · exact hno j hj (by omega)
      · omega
  · repeat' (first | (refine ycf ?_; apply ybk; (· first | (first | (apply yad; (· rfl); (· exact hel _); (· rfl)))); (· rfl); (· rfl)) | refine t1_ ?_ | (refine ta_ ?_; intro _) | ((fail_if_success (refine ybi rfl ?_)); refine ybj rfl ?_ ?_ <;> (intro ht; rw [ht]; first | replace ht := of_decide_eq_true ht | replace ht := of_decide_eq_false ht | skip)) | (refine ych ?_; first | (refine ybw rfl ?_ ?_ <;> intro ht) | (refine ybx rfl ?_ ?_ <;> intro ht)))
    · omega
    refine nx_ret1 rfl (rv_tmp rfl) (fun w' s' => ⟨_, rfl, s'.nil, ?_⟩)
    constructor
    · intro hx; omega
    · intro hm
      obtain ⟨d, hd, hpd⟩ := List.any_eq_true.1 hm
      obtain ⟨j, hj, rfl⟩ := List.getElem_of_mem hd
      rw [hno j hj (by omega)] at hpd; cases hpd

theorem containsFunc_sp (g : Nat) (cp : List Value) (fu : Func) (cd : Code) (p : Dt → Bool) (sv : Value) (l : List Dt) (h : View) (hs : Ds h sv l) (hl : l.length ≤ 4611686018427387904)
    (hf : Try.prog.funcs[g]? = some fu) (hb : fu.body = some cd) (hnm : (fu.name == "runtime.NumGoroutine") = false)
    (hp : ∀ d ∈ l, ∀ w, St ⟨w, h, []⟩ h [] w → Calls Try.prog g (dv d :: cp).toArray w fun e w' => e = .returned (.bool (p d)) ∧ St ⟨w, h, []⟩ h [] w') (w : World) (s : St ⟨w, h, []⟩ h [] w) :
    Calls Try.prog 39 [sv, .func (.func g) #[] cp.toArray].toArray w fun e w' => e = .returned (.bool (l.any p)) ∧ St ⟨w, h, []⟩ h [] w' := by
  refine calls_enter Try.func39 rfl Try.ntmps39 rfl s ?_
  repeat' (first | (refine ycf ?_; apply ybk; (· first | (first | (apply yad; (· rfl); (· exact hel _); (· rfl)))); (· rfl); (· rfl)) | refine t1_ ?_ | (refine ta_ ?_; intro _) | ((fail_if_success (refine ybi rfl ?_)); refine ybj rfl ?_ ?_ <;> (intro ht; rw [ht]; first | replace ht := of_decide_eq_true ht | replace ht := of_decide_eq_false ht | skip)) | (refine ych ?_; first | (refine ybw rfl ?_ ?_ <;> intro ht) | (refine ybx rfl ?_ ?_ <;> intro ht)))
  (refine yco (ycp Try.func59 rfl (by kernel_rfl) rfl) (indexFunc_sp g cp fu cd p _ l h hs hl hf hb hnm hp) rfl rfl rfl ?_ ?_ ?_; (· (exact to_)); (· intro _ _ hle; (exact to_)); intro x px hle)
  repeat' (first | (refine ycf ?_; apply ybk; (· first | (first | (apply yad; (· rfl); (· exact hel _); (· rfl)))); (· rfl); (· rfl)) | refine t1_ ?_ | (refine ta_ ?_; intro _) | ((fail_if_success (refine ybi rfl ?_)); refine ybj rfl ?_ ?_ <;> (intro ht; rw [ht]; first | replace ht := of_decide_eq_true ht | replace ht := of_decide_eq_false ht | skip)) | (refine ych ?_; first | (refine ybw rfl ?_ ?_ <;> intro ht) | (refine ybx rfl ?_ ?_ <;> intro ht)))
  refine nx_ret1 rfl (rv_tmp rfl) (fun w' s' => ⟨?_, s'.nil⟩)
  congr 2
  rw [Bool.eq_iff_iff, decide_eq_true_iff]; exact px

theorem covers1_sp (b : Nat) (u : List Int) (mv : Value) (l : List Dt) (d : Dt) (h : View) (hu : u.length = 16) (hs : Ds h mv l) (hb : h b = some (.cells (cxc u mv).toArray 27)) (hl : l.length ≤ 4611686018427387904) (hr : rightB d = true) (w : World) (s : St ⟨w, h, []⟩ h [] w) :
    Calls Try.prog 40 [dv d, .pointer (some ⟨b, 0, none⟩)].toArray w fun e w' => e = .returned (.bool (!hasC u l d)) ∧ St ⟨w, h, []⟩ h [] w' := by
  have hcell : ∀ L, Cells h L ⟨b, 0, none⟩ (cxc u mv) := fun L w hd j v hj => by
    have := hd.view _ _ hb
    rw [Addr.add_off]
    simp [World.cell?, this, hj]
  have hhas := has_sp (cxv u mv) u l d h ⟨hu, mv, rfl, hs⟩ hl hr
  refine calls_enter Try.func40 rfl Try.ntmps40 rfl s ?_
  repeat' (first | (refine ycf ?_; apply ybk; (· first | (first | (apply yad; (· rfl); (· exact hcell _); (· exact ycj hu)))); (· rfl); (· rfl)) | refine t1_ ?_ | (refine ta_ ?_; intro _) | ((fail_if_success (refine ybi rfl ?_)); refine ybj rfl ?_ ?_ <;> (intro ht; rw [ht]; first | replace ht := of_decide_eq_true ht | replace ht := of_decide_eq_false ht | skip)) | (refine ych ?_; first | (refine ybw rfl ?_ ?_ <;> intro ht) | (refine ybx rfl ?_ ?_ <;> intro ht)))
  (refine ycn (ycp Try.func36 rfl (by kernel_rfl) rfl) (hhas) rfl rfl rfl ?_ ?_; (· (exact to_)))
  repeat' (first | (refine ycf ?_; apply ybk; (· first | (first | (apply yad; (· rfl); (· exact hcell _); (· exact ycj hu)))); (· rfl); (· rfl)) | refine t1_ ?_ | (refine ta_ ?_; intro _) | ((fail_if_success (refine ybi rfl ?_)); refine ybj rfl ?_ ?_ <;> (intro ht; rw [ht]; first | replace ht := of_decide_eq_true ht | replace ht := of_decide_eq_false ht | skip)) | (refine ych ?_; first | (refine ybw rfl ?_ ?_ <;> intro ht) | (refine ybx rfl ?_ ?_ <;> intro ht)))
  exact nx_ret1 rfl (rv_tmp rfl) (fun w' s' => ⟨rfl, s'.nil⟩)
end Go.Proofs.Ytbpahaciegfpfaa
