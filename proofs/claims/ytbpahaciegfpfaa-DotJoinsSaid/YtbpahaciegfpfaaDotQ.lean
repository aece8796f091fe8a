/-
  DotQ: what a fold of dots, in order, comes to: a context whose set is known; a context is known by its set.
  Conditions: each theorem states its own.
-/
import Derived.Test.YtbpahaciegfpfaaDotN
namespace Go.Proofs.Ytbpahaciegfpfaa
open Go Go.Ck Go.Shelf
set_option maxRecDepth 100000
set_option maxHeartbeats 1000000
set_option linter.unusedVariables false

theorem uD_set {u : List Int} {d e : Dt} {x : Int} (hu : u.length = 16) (hd : rightB d = true) (he : rightB e = true) : uD (u.set (d.1 - 1).toNat x) e = if e.1 = d.1 then x else uD u e := by
  have h1 := right_of hd
  have h2 := right_of he
  unfold uD
  by_cases h : e.1 = d.1
  · rw [if_pos h, h, List.getD_eq_getElem?_getD, List.getElem?_set_self (by omega)]
    rfl
  · rw [if_neg h, List.getD_eq_getElem?_getD, List.getElem?_set_ne (by omega), ← List.getD_eq_getElem?_getD]

theorem tstep_eq (u : List Int) (out : List Dt) (d : Dt) : tstep (u, out) d = if d.2 = uD u d + 1 then (u.set (d.1 - 1).toNat d.2, out) else if uD u d < d.2 ∧ d ∉ out then (u, out ++ [d]) else (u, out) := rfl
structure Inv (u : List Int) (out : List Dt) : Prop where
  len : u.length = 16
  bd : ∀ x ∈ u, 0 ≤ x ∧ x ≤ 1099511627776
  mor : ∀ e ∈ out, rightB e = true ∧ uD u e + 1 < e.2
  srt : out.Pairwise fun x y => ordD x y < 0

theorem ord_none {x y : Dt} (h1 : ¬ ordD x y < 0) (h2 : ¬ ordD y x < 0) : x = y := by
  rw [ord_iff] at h1 h2
  obtain ⟨a, b⟩ := x
  obtain ⟨c, d⟩ := y
  simp only at h1 h2
  have : a = c ∧ b = d := by omega
  rw [this.1, this.2]

theorem fold_inv : ∀ (rest : List Dt) (u : List Int) (out : List Dt), Inv u out → (∀ e ∈ out, ∀ x ∈ rest, ¬ ordD x e < 0) → SortedD rest → (∀ d ∈ rest, rightB d = true) →
    Inv (rest.foldl tstep (u, out)).1 (rest.foldl tstep (u, out)).2 ∧ ∀ x, rightB x = true → hasC (rest.foldl tstep (u, out)).1 (rest.foldl tstep (u, out)).2 x = (hasC u out x || decide (x ∈ rest)) := by
  intro rest
  induction rest with
  | nil => intro u out hi _ _ _; exact ⟨hi, fun x _ => by simp⟩
  | cons d rest ih =>
    intro u out hi hbef hsrt hr
    have hdr := hr d (by simp)
    have hd4 := right_of hdr
    have hs2 : SortedD rest := (List.pairwise_cons.1 hsrt).2
    have hs1 := (List.pairwise_cons.1 hsrt).1
    have hr2 : ∀ x ∈ rest, rightB x = true := fun x hx => hr x (List.mem_cons_of_mem _ hx)
    rw [List.foldl_cons]
    by_cases c1 : d.2 = uD u d + 1
    · have e1 : tstep (u, out) d = (u.set (d.1 - 1).toNat d.2, out) := by
        rw [tstep_eq, if_pos c1]
      rw [e1]
      have hnot : ∀ e ∈ out, e.1 ≠ d.1 := fun e he hc => by
        have h1 := hbef e he d (by simp)
        have h2 := (hi.mor e he).2
        rw [ord_iff] at h1
        have : uD u e = uD u d := by unfold uD; rw [hc]
        omega
      obtain ⟨g1, g2⟩ := ih (u.set (d.1 - 1).toNat d.2) out ⟨by simpa using hi.len, fun x hx => by
          rcases List.mem_or_eq_of_mem_set hx with hx | rfl
          · exact hi.bd x hx
          · omega, fun e he => ⟨(hi.mor e he).1, by
          rw [uD_set hi.len hdr (hi.mor e he).1, if_neg (hnot e he)]
          exact (hi.mor e he).2⟩, hi.srt⟩ (fun e he x hx => hbef e he x (List.mem_cons_of_mem _ hx)) hs2 hr2
      refine ⟨g1, fun x hx => ?_⟩
      rw [g2 x hx]
      have e2 : hasC (u.set (d.1 - 1).toNat d.2) out x = (hasC u out x || decide (x = d)) := by
        unfold hasC
        rw [uD_set hi.len hdr hx]
        by_cases hc : x.1 = d.1
        · rw [if_pos hc]
          have : uD u x = uD u d := by unfold uD; rw [hc]
          rw [this]
          have e3 : (x = d) ↔ x.2 = d.2 := ⟨fun h => by rw [h], fun h => Prod.ext hc h⟩
          have e4 : decide (x = d) = decide (x.2 = d.2) := by simp only [e3]
          rw [e4]
          have e5 : decide (x.2 ≤ d.2) = (decide (x.2 ≤ uD u d) || decide (x.2 = d.2)) := by
            rw [← Bool.decide_or, decide_eq_decide]; omega
          rw [e5]
          cases decide (x.2 ≤ uD u d) <;> cases decide (x.2 = d.2) <;> cases decide (x ∈ out) <;> rfl
        · rw [if_neg hc]
          have : decide (x = d) = false := decide_eq_false fun h => hc (by rw [h])
          rw [this, Bool.or_false]
      rw [e2]
      have e6 : decide (x ∈ d :: rest) = (decide (x = d) || decide (x ∈ rest)) := by
        rw [← Bool.decide_or, decide_eq_decide, List.mem_cons]
      rw [e6, Bool.or_assoc]
    · have e6 : ∀ x, decide (x ∈ d :: rest) = (decide (x = d) || decide (x ∈ rest)) := fun x => by
        rw [← Bool.decide_or, decide_eq_decide, List.mem_cons]
      by_cases c2 : uD u d < d.2 ∧ d ∉ out
      · have e1 : tstep (u, out) d = (u, out ++ [d]) := by
          rw [tstep_eq, if_neg c1, if_pos c2]
        rw [e1]
        obtain ⟨g1, g2⟩ := ih u (out ++ [d]) ⟨hi.len, hi.bd, fun e he => by
            rcases List.mem_append.1 he with he | he
            · exact hi.mor e he
            · rw [List.mem_singleton.1 he]
              exact ⟨hdr, by omega⟩, by
            refine List.pairwise_append.2 ⟨hi.srt, by simp, fun e he x hx => ?_⟩
            rw [List.mem_singleton.1 hx]
            have h1 := hbef e he d (by simp)
            refine Decidable.byContradiction fun h2 => c2.2 ?_
            rw [ord_none h1 h2]; exact he⟩ (fun e he x hx => by
            rcases List.mem_append.1 he with he | he
            · exact hbef e he x (List.mem_cons_of_mem _ hx)
            · rw [List.mem_singleton.1 he]
              exact hs1 x hx) hs2 hr2
        refine ⟨g1, fun x hx => ?_⟩
        rw [g2 x hx, e6]
        have e2 : hasC u (out ++ [d]) x = (hasC u out x || decide (x = d)) := by
          unfold hasC
          have : decide (x ∈ out ++ [d]) = (decide (x ∈ out) || decide (x = d)) := by
            rw [← Bool.decide_or, decide_eq_decide, List.mem_append, List.mem_singleton]
          rw [this, Bool.or_assoc]
        rw [e2, Bool.or_assoc]
      · have e1 : tstep (u, out) d = (u, out) := by
          rw [tstep_eq, if_neg c1, if_neg c2]
        rw [e1]
        obtain ⟨g1, g2⟩ := ih u out hi (fun e he x hx => hbef e he x (List.mem_cons_of_mem _ hx)) hs2 hr2
        refine ⟨g1, fun x hx => ?_⟩
        rw [g2 x hx, e6]
        have hd2 : hasC u out d = true := by
          unfold hasC
          rw [Bool.or_eq_true, decide_eq_true_iff, decide_eq_true_iff]
          by_cases h : d ∈ out
          · exact .inr h
          · refine .inl ?_
            have : ¬ uD u d < d.2 := fun h1 => c2 ⟨h1, h⟩
            omega
        by_cases hxd : x = d
        · rw [hxd, hd2]; rfl
        · rw [decide_eq_false hxd, Bool.false_or]

theorem check_inv {u : List Int} {l : List Dt} (hi : Inv u l) (hl : l.length ≤ 32) : checkC u l = 0 := by
  have h1 : upOk u = true := upOk_iff.2 hi.bd
  have h2 : moresOk u l = true := List.all_eq_true.2 fun i hi' => by
    have hil : i < l.length := List.mem_range.1 hi'
    have e1 : l.getD i (0, 0) = l[i] := by simp [hil]
    have e2 : i ≠ 0 → l.getD (i - 1) (0, 0) = l[i - 1] := fun h => by simp [show i - 1 < l.length by omega]
    unfold moreB
    simp only [Bool.and_eq_true, Bool.or_eq_true, decide_eq_true_iff]
    rw [e1]
    refine ⟨⟨(hi.mor _ (List.getElem_mem hil)).1, (hi.mor _ (List.getElem_mem hil)).2⟩, ?_⟩
    by_cases h0 : i = 0
    · exact .inl h0
    · right
      rw [e2 h0]
      exact List.pairwise_iff_getElem.1 hi.srt (i - 1) i (by omega) hil (by omega)
  unfold checkC
  rw [if_neg (by simp [h1]), if_neg (by omega), if_neg (by simp [h2])]

theorem inv_check {u : List Int} {l : List Dt} (hu : u.length = 16) (hk : checkC u l = 0) : Inv u l := by
  obtain ⟨h1, _, h3⟩ := check_right hk
  refine ⟨hu, h1, fun e he => ⟨h3 e he, ?_⟩, ?_⟩
  · obtain ⟨i, hi, rfl⟩ := List.getElem_of_mem he
    exact (more_at hk hi).1
  · refine List.pairwise_iff_getElem.2 fun i j hi hj hij => more_sorted hk j i hj hij

theorem up_le {u v : List Int} {l m : List Dt} (h1 : Inv u l) (h2 : Inv v m) (hs : ∀ x, rightB x = true → hasC v m x = true → hasC u l x = true) (i : Nat) (hi : i < 16) : v.getD i 0 ≤ u.getD i 0 := by
  refine Decidable.byContradiction fun hlt => ?_
  have b1 := h1.bd (u.getD i 0) (getD_mem (by have := h1.len; omega))
  have b2 := h2.bd (v.getD i 0) (getD_mem (by have := h2.len; omega))
  have hr : rightB ((i : Int) + 1, u.getD i 0 + 1) = true := by
    generalize u.getD i 0 = x at b1 hlt
    simp [rightB]; omega
  have eu : ∀ w : List Int, uD w ((i : Int) + 1, u.getD i 0 + 1) = w.getD i 0 := fun w => by
    unfold uD
    show w.getD ((i : Int) + 1 - 1).toNat 0 = _
    rw [show ((i : Int) + 1 - 1).toNat = i by omega]
  have e2 : hasC v m ((i : Int) + 1, u.getD i 0 + 1) = true := by
    unfold hasC
    rw [eu, decide_eq_true (by show u.getD i 0 + 1 ≤ _; omega)]; rfl
  have e1 := hs _ hr e2
  unfold hasC at e1
  rw [eu, decide_eq_false (by show ¬ u.getD i 0 + 1 ≤ _; omega), Bool.false_or, decide_eq_true_iff] at e1
  have := (h1.mor _ e1).2
  rw [eu] at this
  exact absurd this (by show ¬ u.getD i 0 + 1 < u.getD i 0 + 1; omega)

theorem ctx_uniq {u v : List Int} {l m : List Dt} (h1 : Inv u l) (h2 : Inv v m) (hs : ∀ x, rightB x = true → hasC u l x = hasC v m x) : u = v ∧ l = m := by
  have hu := h1.len
  have hv := h2.len
  have e : u = v := by
    refine List.ext_getElem (by omega) fun i hi hj => ?_
    have a1 := up_le h1 h2 (fun x hx hy => (hs x hx).trans hy) i (by omega)
    have a2 := up_le h2 h1 (fun x hx hy => (hs x hx).symm.trans hy) i (by omega)
    rw [List.getD_eq_getElem?_getD, List.getD_eq_getElem?_getD, List.getElem?_eq_getElem hi, List.getElem?_eq_getElem hj] at a1 a2
    simp only [Option.getD_some] at a1 a2
    omega
  subst e
  refine ⟨rfl, ?_⟩
  have hmem : ∀ {l m : List Dt}, Inv u l → Inv u m → (∀ x, rightB x = true → hasC u l x = hasC u m x) → ∀ x ∈ l, x ∈ m := fun {l m} k1 k2 k3 x hx => by
    have hm := k1.mor x hx
    have := k3 x hm.1
    unfold hasC at this
    rw [decide_eq_false (by omega : ¬ x.2 ≤ uD u x), Bool.false_or, Bool.false_or, decide_eq_true hx] at this
    exact of_decide_eq_true this.symm
  have hnd : ∀ {l : List Dt}, Inv u l → l.Nodup := fun k => k.srt.imp fun {x y} h hxy => by
    rw [hxy, ord_iff] at h; omega
  have hsd : ∀ {l : List Dt}, Inv u l → SortedD l := fun k => k.srt.imp fun {x y} h => by
    rw [ord_iff] at h ⊢; omega
  have hp : l.Perm m := (List.perm_ext_iff_of_nodup (hnd h1) (hnd h2)).2 fun x => ⟨hmem h1 h2 hs x, hmem h2 h1 (fun x hx => (hs x hx).symm) x⟩
  exact sorted_uniq hp (hsd h1) (List.Perm.refl _) (hsd h2)

theorem fold_len : ∀ (l : List Dt) (u : List Int) (o : List Dt), (l.foldl tstep (u, o)).2.length ≤ o.length + l.length := by
  intro l
  induction l with
  | nil => intro u o; simp
  | cons d l ih =>
    intro u o
    rw [List.foldl_cons]
    have h := ih (tstep (u, o) d).1 (tstep (u, o) d).2
    have : (tstep (u, o) d).2.length ≤ o.length + 1 := by
      rw [tstep_eq]
      split
      · simp
      · split
        · simp
        · simp
    have e : ((tstep (u, o) d).1, (tstep (u, o) d).2) = tstep (u, o) d := rfl
    rw [e] at h
    simp only [List.length_cons]
    omega

/-- A dot more: behind tidy the context is one, and has just that one more. -/
theorem add_inv {u : List Int} {l srt : List Dt} {d : Dt} (hu : u.length = 16) (hk : checkC u l = 0) (hd : rightB d = true) (hp : srt.Perm (l ++ [d])) (hs : SortedD srt) :
    Inv (tfold u srt).1 (tfold u srt).2 ∧ (tfold u srt).2.length ≤ l.length + 1 ∧ ∀ x, rightB x = true → hasC (tfold u srt).1 (tfold u srt).2 x = (hasC u l x || decide (x = d)) := by
  have hi := inv_check hu hk
  obtain ⟨_, _, h3⟩ := check_right hk
  have hr : ∀ x ∈ srt, rightB x = true := fun x hx => by
    rcases List.mem_append.1 (hp.mem_iff.1 hx) with hx | hx
    · exact h3 x hx
    · rw [List.mem_singleton.1 hx]; exact hd
  obtain ⟨g1, g2⟩ := fold_inv srt u [] ⟨hu, hi.bd, by simp, by simp⟩ (by simp) hs hr
  refine ⟨g1, ?_, fun x hx => ?_⟩
  · have := fold_len srt u []
    have e := hp.length_eq
    simp at this e
    unfold tfold
    omega
  · show hasC (srt.foldl tstep (u, [])).1 (srt.foldl tstep (u, [])).2 x = _
    rw [g2 x hx]
    unfold hasC
    have : decide (x ∈ srt) = (decide (x ∈ l) || decide (x = d)) := by
      rw [← Bool.decide_or, decide_eq_decide, hp.mem_iff, List.mem_append, List.mem_singleton]
    rw [this, decide_eq_false (List.not_mem_nil (a := x)), Bool.or_false, Bool.or_assoc]
end Go.Proofs.Ytbpahaciegfpfaa
