/-
  DotY: the document's answer of layer 14: Make: the plain law.
  Conditions: each theorem states its own.
-/
import Derived.Test.YtbpahaciegfpfaaDotW
namespace Go.Proofs.Ytbpahaciegfpfaa
open Go Go.Ck Go.Shelf
set_option maxRecDepth 100000
set_option maxHeartbeats 1000000
set_option linter.unusedVariables false

theorem make_inv {u0 u : List Int} {more M : List Dt} (hu : u.length = 16) (hb : ∀ x ∈ u, 0 ≤ x ∧ x ≤ 1099511627776) (h1 : ∀ x, rightB x = true → uD u0 x ≤ uD u x) (h2 : ∀ x, rightB x = true → x.2 ≤ uD u x → x.2 ≤ uD u0 x ∨ x ∈ more)
    (hfix : ∀ d ∈ more, d.2 ≠ uD u d + 1) (hr : ∀ d ∈ more, rightB d = true) (hs : M.Pairwise fun x y => ordD x y < 0) (hm : ∀ x, x ∈ M ↔ x ∈ more ∧ uD u x < x.2) :
    Inv u M ∧ ∀ x, rightB x = true → hasC u M x = (hasC u0 [] x || decide (x ∈ more)) := by
  refine ⟨⟨hu, hb, fun e he => ?_, hs⟩, fun x hx => ?_⟩
  · obtain ⟨q1, q2⟩ := (hm e).1 he
    have := hfix e q1
    exact ⟨hr e q1, by omega⟩
  · unfold hasC
    rw [Bool.eq_iff_iff]
    simp only [Bool.or_eq_true, decide_eq_true_iff, List.not_mem_nil, or_false]
    constructor
    · rintro (h | h)
      · exact h2 x hx h
      · exact .inr ((hm x).1 h).1
    · rintro (h | h)
      · exact .inl (by have := h1 x hx; omega)
      · by_cases hq : x.2 ≤ uD u x
        · exact .inl hq
        · exact .inr ((hm x).2 ⟨h, by omega⟩)

def insD (M : List Dt) (k : Nat) (d : Dt) : List Dt := M.take k ++ d :: M.drop k
theorem insD_len {M : List Dt} {k : Nat} {d : Dt} : (insD M k d).length = M.length + 1 := by
  simp [insD]; omega
theorem insD_all {M : List Dt} {d : Dt} : insD M M.length d = M ++ [d] := by simp [insD]
theorem insD_mem {M : List Dt} {k : Nat} {d x : Dt} : x ∈ insD M k d ↔ x = d ∨ x ∈ M := by
  unfold insD
  rw [List.mem_append, List.mem_cons]
  constructor
  · rintro (h | h | h)
    · exact .inr (List.mem_of_mem_take h)
    · exact .inl h
    · exact .inr (List.mem_of_mem_drop h)
  · rintro (h | h)
    · exact .inr (.inl h)
    · rw [← List.take_append_drop k M, List.mem_append] at h
      rcases h with h | h
      · exact .inl h
      · exact .inr (.inr h)
theorem insD_at {M : List Dt} {k j : Nat} {d : Dt} (hj : j < k) (hk : k ≤ M.length) : (insD M k d)[j]'(by rw [insD_len]; omega) = M[j]'(by omega) := by
  unfold insD
  rw [List.getElem_append_left (by simp; omega), List.getElem_take]
theorem insD_set {M : List Dt} {k : Nat} {d : Dt} (h0 : 0 < k) (hk : k ≤ M.length) : ((insD M k d).set k (M[k - 1]'(by omega))).set (k - 1) d = insD M (k - 1) d := by
  have e1 : M.take k = M.take (k - 1) ++ [M[k - 1]'(by omega)] := by
    have := List.take_succ_eq_append_getElem (l := M) (i := k - 1) (by omega)
    rwa [show k - 1 + 1 = k by omega] at this
  have e2 : M.drop (k - 1) = M[k - 1]'(by omega) :: M.drop k := by
    have := List.drop_eq_getElem_cons (l := M) (i := k - 1) (by omega)
    rwa [show k - 1 + 1 = k by omega] at this
  have l1 : (M.take (k - 1)).length = k - 1 := by simp; omega
  unfold insD
  rw [e1, e2, List.append_assoc, List.set_append_right _ _ (by omega), l1, show k - (k - 1) = 1 by omega]
  rw [List.set_append_right _ _ (by omega), l1, Nat.sub_self]
  rfl
theorem insD_sorted {M : List Dt} {k : Nat} {d : Dt} (hs : M.Pairwise fun x y => ordD x y < 0) (hk : k ≤ M.length) (hd : ∀ e ∈ M.drop k, ordD d e < 0) (hl : ∀ (h0 : 0 < k), ordD (M[k - 1]'(by omega)) d < 0) : (insD M k d).Pairwise fun x y => ordD x y < 0 := by
  unfold insD
  rw [← List.take_append_drop k M, List.pairwise_append] at hs
  obtain ⟨q1, q2, q3⟩ := hs
  refine List.pairwise_append.2 ⟨q1, List.pairwise_cons.2 ⟨hd, q2⟩, fun e he x hx => ?_⟩
  rcases List.mem_cons.1 hx with rfl | hx
  · obtain ⟨i, hi, rfl⟩ := List.getElem_of_mem he
    have hik : i < k := by simp at hi; omega
    rw [List.getElem_take]
    have hl' := hl (by omega)
    by_cases hc : i = k - 1
    · subst hc; exact hl'
    · have hp : (M.take k).Pairwise fun x y => ordD x y < 0 := q1
      have := List.pairwise_iff_getElem.1 hp i (k - 1) hi (by simp; omega) (by omega)
      rw [List.getElem_take, List.getElem_take] at this
      rw [ord_iff] at this hl' ⊢
      omega
  · exact q3 e he x hx

theorem spl_dot : ∀ {l : List Dt} {j : Nat} {x : Dt}, j < l.length → spl (l.flatMap dcs) (j * 2) (dcs x) = (l.set j x).flatMap dcs
  | y :: l, 0, x, _ => by
    show ([] ++ dcs x) ++ ((dcs y ++ l.flatMap dcs).drop (0 + 2)) = dcs x ++ l.flatMap dcs
    rfl
  | y :: l, j + 1, x, hj => by
    have ih := spl_dot (l := l) (j := j) (x := x) (by simpa using hj)
    unfold spl at ih ⊢
    have e1 : (j + 1) * 2 = (dcs y).length + j * 2 := by rw [dcs_len]; omega
    have e2 : (j + 1) * 2 + (dcs x).length = (dcs y).length + (j * 2 + (dcs x).length) := by rw [dcs_len, dcs_len]; omega
    rw [List.flatMap_cons, e2, e1, List.take_length_add_append, List.drop_length_add_append]
    show dcs y ++ _ ++ _ ++ _ = dcs y ++ (l.set j x).flatMap dcs
    rw [← ih]
    simp

theorem sum_set : ∀ {u : List Int} {i : Nat} {x : Int}, i < u.length → (u.set i x).sum = u.sum - u.getD i 0 + x
  | y :: u, 0, x, _ => by simp; omega
  | y :: u, i + 1, x, hi => by
    have := sum_set (u := u) (i := i) (x := x) (by simpa using hi)
    simp only [List.set_cons_succ, List.sum_cons, List.getD_cons_succ, this]
    omega
theorem sum_le : ∀ {u : List Int}, (∀ x ∈ u, 0 ≤ x ∧ x ≤ 1099511627776) → u.sum ≤ 1099511627776 * u.length
  | [], _ => by simp
  | y :: u, h => by
    have h1 := sum_le (u := u) (fun x hx => h x (List.mem_cons_of_mem _ hx))
    have h2 := h y (List.mem_cons_self ..)
    simp only [List.sum_cons, List.length_cons]
    omega

/-- what holds of the numbers all along -/
structure MkI (u0 : List Int) (more : List Dt) (u : List Int) : Prop where
  len : u.length = 16
  bd : ∀ x ∈ u, 0 ≤ x ∧ x ≤ 1099511627776
  ge : ∀ x, rightB x = true → uD u0 x ≤ uD u x
  mem : ∀ x, rightB x = true → x.2 ≤ uD u x → x.2 ≤ uD u0 x ∨ x ∈ more
theorem MkI.step {u0 u : List Int} {more : List Dt} (h : MkI u0 more u) {d : Dt} (hd : d ∈ more) (hr : rightB d = true) (he : d.2 = uD u d + 1) : MkI u0 more (u.set (d.1 - 1).toNat d.2) := by
  have hd4 := right_of hr
  refine ⟨by simpa using h.len, fun x hx => ?_, fun x hx => ?_, fun x hx hle => ?_⟩
  · rcases List.mem_or_eq_of_mem_set hx with hx | rfl
    · exact h.bd x hx
    · omega
  · rw [uD_set h.len hr hx]
    have := h.ge x hx
    split
    · rename_i hc
      have : uD u x = uD u d := by unfold uD; rw [hc]
      omega
    · exact this
  · rw [uD_set h.len hr hx] at hle
    split at hle
    · rename_i hc
      have hxd : uD u x = uD u d := by unfold uD; rw [hc]
      by_cases hq : x.2 = d.2
      · exact .inr (by rw [show x = d from Prod.ext hc hq]; exact hd)
      · exact h.mem x hx (by omega)
    · exact h.mem x hx hle
end Go.Proofs.Ytbpahaciegfpfaa
