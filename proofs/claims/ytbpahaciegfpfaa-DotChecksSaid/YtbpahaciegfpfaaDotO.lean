/-
  DotO: the reading of a context among the arguments says that it is a Cx.
  Conditions: none.
-/
import Derived.Test.YtbpahaciegfpfaaCkTrod
import Derived.Test.YtbpahaciegfpfaaDotC
namespace Go.Proofs.Ytbpahaciegfpfaa
open Go Go.Ck Go.ChangeShapes
set_option maxRecDepth 100000
set_option maxHeartbeats 1000000
set_option linter.unusedVariables false

theorem cellsDot : Try.prog.cellsOf 24 = 2 := by kernel_rfl
theorem cellsInt : Try.prog.cellsOf 3 = 1 := by kernel_rfl
theorem cellsArr : Try.prog.cellsOf 25 = 16 := by kernel_rfl
theorem cellsSl : Try.prog.cellsOf 22 = 1 := by kernel_rfl
theorem cellsCx : Try.prog.cellsOf 36 = 17 := by kernel_rfl
section
variable {H : Type} {enc : TypeId × Value → H} {w : World} {base : Nat} {spare : Nat → Bool} {held : Bool}

theorem trod_dot {m : Nat} {cs : List Value} {y : DataW H × List MemPlace} (h : DataW.trod enc Try.prog w base spare held m 24 cs = some y) : ∃ d : Dt, cs = dcs d := by
  obtain ⟨hl, hf⟩ := trod_fields Try.underlying24 h
  rw [cellsDot] at hl
  match cs, hl with
  | [a, b], _ =>
    obtain ⟨m1, y1, h1⟩ := hf _ (List.mem_cons_self ..)
    obtain ⟨m2, y2, h2⟩ := hf _ (List.mem_cons_of_mem _ (List.mem_cons_self ..))
    rw [cellsInt] at h1 h2
    obtain ⟨n1, e1, _⟩ := DataW.trod_int Try.underlying3 h1
    obtain ⟨n2, e2, _⟩ := DataW.trod_int Try.underlying3 h2
    simp at e1 e2
    exact ⟨(n1, n2), by rw [e1, e2]; rfl⟩

theorem trod_up {m : Nat} {cs : List Value} {y : DataW H × List MemPlace} (h : DataW.trod enc Try.prog w base spare held m 25 cs = some y) : ∃ u : List Int, u.length = 16 ∧ cs = up u := by
  obtain ⟨hl, hf⟩ := trod_elems Try.underlying25 h
  rw [cellsArr] at hl
  have hc : ∀ i (hi : i < cs.length), ∃ n, cs[i] = .int .i64 n := fun i hi => by
    obtain ⟨m1, y1, h1⟩ := hf i (by omega)
    rw [cellsInt, Nat.mul_one] at h1
    obtain ⟨n1, e1, _⟩ := DataW.trod_int Try.underlying3 h1
    have e2 : (List.drop i cs).take 1 = [cs[i]] := by
      rw [List.drop_eq_getElem_cons hi]; rfl
    rw [e2] at e1
    exact ⟨n1, by simpa using e1⟩
  clear hf h
  have key : ∀ cs : List Value, (∀ i (hi : i < cs.length), ∃ n, cs[i] = .int .i64 n) → ∃ u : List Int, u.length = cs.length ∧ cs = up u := by
    intro cs
    induction cs with
    | nil => intro _; exact ⟨[], rfl, rfl⟩
    | cons c cs ih =>
      intro hc
      obtain ⟨n, hn⟩ := hc 0 (by simp)
      obtain ⟨u, h1, h2⟩ := ih fun i hi => by
        have := hc (i + 1) (by simpa using hi)
        simpa using this
      simp only [List.getElem_cons_zero] at hn
      exact ⟨n :: u, by simp [h1], by rw [hn, h2]; rfl⟩
  obtain ⟨u, h1, h2⟩ := key cs hc
  exact ⟨u, by omega, h2⟩

theorem cells_get {a : Addr} {n : Nat} {cs : List Value} (h : w.cells? base a n = some cs) {j : Nat} {u : Value} (hj : cs[j]? = some u) : w.cell? (a.add j) = some u := by
  unfold World.cells? at h
  split at h
  · have hl := mapM_some_length h
    have hjl : j < cs.length := (List.getElem?_eq_some_iff.1 hj).1
    have := mapM_some_get h j j (by rw [List.length_range] at hl; exact List.getElem?_range (by omega))
    rw [this, hj]
  · cases h

theorem trod_ds {m : Nat} {cs : List Value} {y : DataW H × List MemPlace} (h : DataW.trod enc Try.prog w base spare held m 22 cs = some y) : ∃ (v : Value) (l : List Dt), cs = [v] ∧ Ds (fun b => w.heap[b]?) v l ∧ l.length ≤ maxLen := by
  rcases Go.Deep.open_slice Try.underlying22 h with ⟨rfl, _⟩ | ⟨a, len, cap, k, n, D, Pl, rfl, _, h1, h2, hk, _, hall⟩
  · exact ⟨_, [], rfl, Sc.nil _ 2 none 0, Nat.zero_le _⟩
  · have hkl : len ≤ k := by rw [hk]; split <;> omega
    have hex : ∀ i, i < len → ∃ d : Dt, w.cells? base (a.add (i * 2)) 2 = some (dcs d) := fun i hi => by
      obtain ⟨cs', e1, e2⟩ := hall i (by omega)
      rw [cellsDot] at e1
      obtain ⟨d, rfl⟩ := trod_dot e2
      exact ⟨d, e1⟩
    obtain ⟨f, hf⟩ := Go.Deep.choose_lt hex
    refine ⟨_, (List.range len).map f, rfl, ⟨?_, some a, cap, by simp, by simpa using h1, ?_⟩, by simp; omega⟩
    · rw [flat_len dcs_len]
    · by_cases h0 : len = 0
      · subst h0; exact .inl rfl
      · refine .inr ?_
        have hc0 := cells_get (hf 0 (by omega)) (j := 0) (u := .int .i64 (f 0).1) rfl
        obtain ⟨b, o, sp⟩ := a
        have hadd : ∀ i j, ((⟨b, o, sp⟩ : Addr).add i).add j = (⟨b, o, sp⟩ : Addr).add (i + j) := fun i j => Go.Deep.add_add _ i j
        rw [hadd] at hc0
        have hblk : ((⟨b, o, sp⟩ : Addr).add (0 * 2 + 0)) = ⟨b, o, sp⟩ := by simp [Addr.add]
        rw [hblk] at hc0
        unfold World.cell? at hc0
        split at hc0
        · rename_i c e fz hb
          split at hc0
          · cases hc0
          · rename_i hsp
            have hsp' : sp = none := by simpa using hsp
            subst hsp'
            refine ⟨b, o, c, e, fz, rfl, hb, fun j u hj => ?_⟩
            have hjl : j < len * 2 := by
              have := (List.getElem?_eq_some_iff.1 hj).1
              rw [flat_len dcs_len] at this
              simpa using this
            have hd : j / 2 < ((List.range len).map f).length := by simp; omega
            have e1 : (((List.range len).map f).flatMap dcs)[j]? = (dcs (f (j / 2)))[j % 2]? := by
              have := flat_at dcs_len ((List.range len).map f) (j / 2) hd
              have e3 : ((List.range len).map f)[j / 2] = f (j / 2) := by simp
              rw [e3] at this
              rw [← this, List.getElem?_take_of_lt (by omega), List.getElem?_drop]
              congr 1; omega
            rw [e1] at hj
            have := cells_get (hf (j / 2) (by omega)) hj
            rw [hadd, Addr.add_off] at this
            unfold World.cell? at this
            simp only [hb] at this
            simp only [Option.isSome_none, Bool.false_eq_true, if_false] at this
            have ej : j / 2 * 2 + j % 2 = j := by omega
            rw [ej] at this
            exact this
        · cases hc0

theorem trod_cx {v : Value} {d : DataW H} {ps : List MemPlace} (hv : ∃ cs, v = .agg cs) (h : DataW.Trod enc Try.prog w base spare held 36 v d ps) : ∃ (u : List Int) (l : List Dt), Cx (fun b => w.heap[b]?) v u l ∧ l.length ≤ maxLen := by
  obtain ⟨cs, rfl⟩ := hv
  obtain ⟨fuel, h⟩ := h
  obtain ⟨hl, hf⟩ := trod_fields Try.underlying36 h
  rw [cellsCx] at hl
  obtain ⟨m1, y1, h1⟩ := hf _ (List.mem_cons_self ..)
  obtain ⟨m2, y2, h2⟩ := hf _ (List.mem_cons_of_mem _ (List.mem_cons_self ..))
  rw [cellsArr] at h1
  rw [cellsSl] at h2
  obtain ⟨u, hu, e1⟩ := trod_up h1
  obtain ⟨mv, l, e2, hs, hlm⟩ := trod_ds h2
  refine ⟨u, l, ⟨hu, mv, ?_, hs⟩, hlm⟩
  have hc : (Value.agg cs).cells.toList = cxc u mv := by
    have e3 : (Value.agg cs).cells.toList = ((Value.agg cs).cells.toList.drop 0).take 16 ++ ((Value.agg cs).cells.toList.drop 16).take 1 := by
      rw [List.drop_zero]
      have e4 : ((Value.agg cs).cells.toList.drop 16).take 1 = (Value.agg cs).cells.toList.drop 16 := List.take_of_length_le (by simp at hl ⊢; omega)
      rw [e4, List.take_append_drop]
    rw [e3, e1, e2]
    rfl
  have hc2 : cs.toList = cxc u mv := hc
  unfold cxv
  rw [← hc2]
end
end Go.Proofs.Ytbpahaciegfpfaa
