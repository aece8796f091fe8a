/-
  BitK: the plain law of the bytes of a context: what is read is what was written, and what was taken has just its bytes.
  Conditions: each theorem states its own.
-/
import Derived.Test.YtbpahaciegfpfaaBitJ
namespace Go.Proofs.Ytbpahaciegfpfaa
open Go Go.Ck
set_option maxRecDepth 100000
set_option maxHeartbeats 2000000
set_option linter.unusedVariables false

theorem putLow_val : ∀ {l : List Int}, Bytes l → (putLow l.length (valB l)).reverse = l := by
  intro l
  rw [show l = l.reverse.reverse by simp]
  generalize l.reverse = r
  induction r with
  | nil => intro _; rfl
  | cons c r ih =>
    intro hb
    have hb' : Bytes r.reverse := fun x hx => hb x (by simp at hx ⊢; exact .inl hx)
    have hc := hb c (by simp)
    have e : valB (c :: r).reverse = valB r.reverse * 256 + c := by
      rw [List.reverse_cons]
      unfold valB
      rw [List.foldl_append]
      rfl
    rw [e, List.reverse_cons, List.length_append, List.length_singleton, putLow, List.reverse_cons, show (valB r.reverse * 256 + c) % 256 = c by omega, show (valB r.reverse * 256 + c) / 256 = valB r.reverse by omega, ih hb']
theorem val_putLow : ∀ (k : Nat) (x : Int), 0 ≤ x → x < 256 ^ k → valB (putLow k x).reverse = x
  | 0, x, h0, h1 => by
    rw [Int.pow_zero] at h1
    have : x = 0 := by omega
    subst this; rfl
  | k + 1, x, h0, h1 => by
    rw [Int.pow_succ] at h1
    have ih := val_putLow k (x / 256) (by omega) (by omega)
    rw [putLow, List.reverse_cons]
    unfold valB at ih ⊢
    rw [List.foldl_append, ih]
    show x / 256 * 256 + x % 256 = x
    omega
theorem putLow_bytes : ∀ (k : Nat) (x : Int), Bytes (putLow k x)
  | 0, x => fun b hb => by cases hb
  | k + 1, x => fun b hb => by
    rcases List.mem_cons.1 hb with rfl | hb
    · omega
    · exact putLow_bytes k _ b hb
theorem putLow_bytes' (k : Nat) (x : Int) : Bytes (putLow k x).reverse := fun b hb => putLow_bytes k x b (List.mem_reverse.1 hb)

/-- what was taken -/
theorem numC_took {s : RS} (hb : Bytes s.1) {size : Nat} {most : Int} (h : (numC s size most).2.2 = 0) :
    s.2 = 0 ∧ (putLow size (numC s size most).1).reverse ++ (numC s size most).2.1 = s.1 := by
  unfold numC at h ⊢
  by_cases h0 : s.2 ≠ 0
  · rw [if_pos h0] at h; exact absurd h h0
  · rw [if_neg h0] at h ⊢
    refine ⟨Decidable.not_not.1 h0, ?_⟩
    by_cases h1 : (lookC s.1 size most).2 = 0
    · rw [if_pos h1]
      have hl := lookC_len h1
      have e : (lookC s.1 size most).1 = valB (s.1.take size) := by
        unfold lookC at h1 ⊢
        split
        · rename_i h2; rw [if_pos h2] at h1; cases h1
        · rename_i h2
          rw [if_neg h2] at h1
          split
          · rename_i h3; rw [if_pos h3] at h1; cases h1
          · rfl
      dsimp only
      rw [e]
      have hp := putLow_val (l := s.1.take size) (fun x hx => hb x (List.mem_of_mem_take hx))
      rw [List.length_take, Nat.min_eq_left hl] at hp
      rw [hp, List.take_append_drop]
    · rw [if_neg h1] at h; exact absurd h h1
theorem upsC_took {s : RS} (hs : RsOk s) : ∀ k, (upsC k s).2.2 = 0 → s.2 = 0 ∧ (upsC k s).1.flatMap num8 ++ (upsC k s).2.1 = s.1
  | 0, h => ⟨h, rfl⟩
  | k + 1, h => by
    obtain ⟨h1, h2⟩ := numC_took (upsC_ok hs k).1.b h
    obtain ⟨h3, h4⟩ := upsC_took hs k h1
    refine ⟨h3, ?_⟩
    show ((upsC k s).1 ++ [_]).flatMap num8 ++ _ = _
    rw [List.flatMap_append, List.append_assoc]
    refine Eq.trans (congrArg ((upsC k s).1.flatMap num8 ++ ·) ?_) h4
    rw [← h2]
    simp [num8, upsC]
theorem dsC_took {s : RS} (hs : RsOk s) : ∀ k, (dsC k s).2.2 = 0 → s.2 = 0 ∧ (dsC k s).1.flatMap encD ++ (dsC k s).2.1 = s.1
  | 0, h => ⟨h, rfl⟩
  | k + 1, h => by
    have hk := (dsC_ok hs k).1
    obtain ⟨h1, h2⟩ := numC_took (hk.num 8 1099511627776).b h
    obtain ⟨h1', h2'⟩ := numC_took hk.b h1
    obtain ⟨h3, h4⟩ := dsC_took hs k h1'
    refine ⟨h3, ?_⟩
    show ((dsC k s).1 ++ [_]).flatMap encD ++ _ = _
    rw [List.flatMap_append, List.append_assoc]
    refine Eq.trans (congrArg ((dsC k s).1.flatMap encD ++ ·) ?_) h4
    rw [← h2', ← h2]
    simp [encD, num8, dsC]
/-- what is taken has just its bytes -/
theorem rd_took {l : List Int} (hb : Bytes l) (hl : l.length ≤ 1000000) (he : endC (rdC l).2.2 = 0) : encW (rdC l).1 (rdC l).2.1 = l ∧ (rdC l).1.length = 16 ∧ (rdC l).2.1.length ≤ 32 := by
  have hs : RsOk (l, 0) := ⟨hb, hl⟩
  have hu := (upsC_ok hs 16).1
  have h16 := (upsC_ok hs 16).2
  have hok2 : RsOk (smC l).2 := hu.num _ _
  have hbd : 0 ≤ (smC l).1 ∧ (smC l).1 ≤ 32 := numC_bd hu (by omega)
  have hdl := (dsC_ok hok2 (smC l).1.toNat).2
  have hz : (rdC l).2.2.2 = 0 ∧ (rdC l).2.2.1 = [] := by
    unfold endC at he
    split at he
    · cases he
    · rename_i h1
      refine ⟨he, ?_⟩
      have : ¬ 0 < (rdC l).2.2.1.length := fun h => h1 ⟨he, h⟩
      exact List.length_eq_zero_iff.1 (by omega)
  obtain ⟨h1, h2⟩ := dsC_took hok2 (smC l).1.toNat hz.1
  obtain ⟨h3, h4⟩ := numC_took hu.b (show (numC (upsC 16 (l, 0)).2 1 32).2.2 = 0 from h1)
  obtain ⟨_, h6⟩ := upsC_took hs 16 h3
  refine ⟨?_, h16, ?_⟩
  · show (upsC 16 (l, 0)).1.flatMap num8 ++ num1 ((dsC (smC l).1.toNat (smC l).2).1.length : Int) ++ (dsC (smC l).1.toNat (smC l).2).1.flatMap encD = l
    rw [hdl, Int.toNat_of_nonneg hbd.1, List.append_assoc]
    refine Eq.trans (congrArg ((upsC 16 (l, 0)).1.flatMap num8 ++ ·) ?_) h6
    refine Eq.trans ?_ h4
    show num1 (smC l).1 ++ _ = (putLow 1 (smC l).1).reverse ++ (smC l).2.1
    rw [← h2]
    have : (dsC (smC l).1.toNat (smC l).2).2.1 = [] := hz.2
    rw [this, List.append_nil]
    rfl
  · show (dsC (smC l).1.toNat (smC l).2).1.length ≤ 32
    omega

/-- what was written -/
theorem numC_put {size : Nat} {x most : Int} {r : List Int} (h0 : 0 ≤ x) (h1 : x ≤ most) (h2 : x < 256 ^ size) : numC ((putLow size x).reverse ++ r, 0) size most = (x, (r, 0)) := by
  have hl : (putLow size x).reverse.length = size := by rw [List.length_reverse, putLow_len]
  have ht : ((putLow size x).reverse ++ r).take size = (putLow size x).reverse := by
    conv => lhs; arg 1; rw [← hl]
    exact List.take_left
  have hd : ((putLow size x).reverse ++ r).drop size = r := by
    conv => lhs; arg 1; rw [← hl]
    exact List.drop_left
  have hk : lookC ((putLow size x).reverse ++ r) size most = (x, 0) := by
    unfold lookC
    rw [if_neg (by rw [List.length_append, hl]; omega), ht, val_putLow size x h0 h2, if_neg (by omega)]
  unfold numC
  rw [if_neg (by simp)]
  dsimp only
  rw [hk, if_pos rfl, hd]
theorem numC_num8 {x : Int} {r : List Int} (h : 0 ≤ x ∧ x ≤ 1099511627776) : numC (num8 x ++ r, 0) 8 1099511627776 = (x, (r, 0)) :=
  numC_put h.1 h.2 (by have : (256 : Int) ^ 8 = 18446744073709551616 := by decide
                       rw [this]; omega)
theorem upsC_put : ∀ (u : List Int) (r : List Int), (∀ x ∈ u, 0 ≤ x ∧ x ≤ 1099511627776) → ∀ k, k ≤ u.length → upsC k (u.flatMap num8 ++ r, 0) = (u.take k, ((u.drop k).flatMap num8 ++ r, 0)) := by
  intro u r hu k
  induction k with
  | zero => intro _; rfl
  | succ k ih =>
    intro hk
    rw [upsC, ih (by omega), List.drop_eq_getElem_cons (by omega : k < u.length), List.flatMap_cons, List.append_assoc]
    dsimp only
    rw [numC_num8 (hu _ (List.getElem_mem _)), List.take_succ_eq_append_getElem (by omega)]
theorem dsC_put : ∀ (l : List Dt) (r : List Int), (∀ d ∈ l, (0 ≤ d.1 ∧ d.1 ≤ 1099511627776) ∧ 0 ≤ d.2 ∧ d.2 ≤ 1099511627776) → ∀ k, k ≤ l.length → dsC k (l.flatMap encD ++ r, 0) = (l.take k, ((l.drop k).flatMap encD ++ r, 0)) := by
  intro l r hl k
  induction k with
  | zero => intro _; rfl
  | succ k ih =>
    intro hk
    have hd := hl _ (List.getElem_mem (by omega : k < l.length))
    rw [dsC, ih (by omega), List.drop_eq_getElem_cons (by omega : k < l.length), List.flatMap_cons, encD, List.append_assoc, List.append_assoc]
    dsimp only
    rw [numC_num8 hd.1]
    dsimp only
    rw [numC_num8 hd.2, List.take_succ_eq_append_getElem (by omega)]
theorem encW_bytes (u : List Int) (l : List Dt) : Bytes (encW u l) := by
  intro b hb
  have h8 : ∀ x, Bytes (num8 x) := fun x => putLow_bytes' 8 x
  rcases List.mem_append.1 hb with hb | hb
  · rcases List.mem_append.1 hb with hb | hb
    · obtain ⟨x, _, hx⟩ := List.mem_flatMap.1 hb
      exact h8 x b hx
    · exact putLow_bytes' 1 _ b hb
  · obtain ⟨d, _, hx⟩ := List.mem_flatMap.1 hb
    rcases List.mem_append.1 hx with hx | hx
    · exact h8 _ b hx
    · exact h8 _ b hx
/-- what is read is what was written -/
theorem rd_put {u : List Int} {l : List Dt} (hu : u.length = 16) (hk : checkC u l = 0) : rdC (encW u l) = (u, l, ([], 0)) ∧ (encW u l).length ≤ 700 := by
  obtain ⟨hub, hl32, hlr⟩ := check_right hk
  have e1 : upsC 16 (encW u l, 0) = (u, (num1 l.length ++ l.flatMap encD, 0)) := by
    unfold encW
    rw [List.append_assoc, upsC_put u _ hub 16 (by omega), List.take_of_length_le (by omega), List.drop_eq_nil_of_le (by omega)]
    rfl
  have e2 : smC (encW u l) = ((l.length : Int), (l.flatMap encD, 0)) := by
    unfold smC
    rw [e1]
    exact numC_put (by omega) (by omega) (by rw [Int.pow_one]; omega)
  have e3 : dsC l.length (l.flatMap encD, 0) = (l, ([], 0)) := by
    have := dsC_put l [] (fun d hd => by have := right_of (hlr d hd); omega) l.length (Nat.le_refl _)
    rw [List.append_nil, List.take_length, List.drop_length] at this
    exact this
  refine ⟨?_, ?_⟩
  · unfold rdC
    rw [e1, e2]
    dsimp only
    rw [Int.toNat_natCast, e3]
  · have h1 := encU_len u
    have h2 := encL_len l
    have h3 := num1_len (l.length : Int)
    unfold encW
    rw [List.length_append, List.length_append, h1, h2, h3]
    omega
end Go.Proofs.Ytbpahaciegfpfaa
