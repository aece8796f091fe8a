/-
  Part 14 of a proof: PlE RbA RbB RbC PlF.
  Conditions: each theorem states its own.
-/
import Derived.Test.YtgeepceieckooaaGreatDoorRdVPM13
set_option maxRecDepth 100000
set_option linter.unusedVariables false
set_option linter.unusedSimpArgs false
section
namespace Go.Proofs.YtgeepceieckooaaGreatDoor
open Go Go.Ck
set_option maxHeartbeats 1000000
def vI : List Int → Int
  | [] => 0
  | x :: r => x + 256 * vI r
theorem vI_set : ∀ {l : List Int} {k : Nat} (y : Int), k < l.length → vI (l.set k y) = vI l + 256 ^ k * (y - l.getD k 0)
  | x :: l, 0, y, _ => by
    simp only [List.set_cons_zero, vI, List.getD_cons_zero]
    omega
  | x :: l, k + 1, y, h => by
    have ih := vI_set (l := l) (k := k) y (by simpa using h)
    simp only [List.set_cons_succ, vI, List.getD_cons_succ, ih, Int.pow_succ]
    grind
theorem vI_zeros (n : Nat) : vI (List.replicate n 0) = 0 := by
  induction n with
  | zero => rfl
  | succ n ih => rw [List.replicate_succ, vI, ih]; rfl
theorem vI_vN {l : List Int} (hb : Bytes l) : vI l = (vN l : Int) := by
  induction l with
  | nil => rfl
  | cons x l ih =>
    have h1 := hb x (List.mem_cons_self ..)
    rw [vI, vN, ih fun y hy => hb y (List.mem_cons_of_mem _ hy)]
    omega
theorem vI_putLow : ∀ (n : Nat) {x : Int}, 0 ≤ x → x < 256 ^ n → vI (putLow n x) = x
  | 0, x, h0, h1 => by simp at h1; show (0 : Int) = x; omega
  | n + 1, x, h0, h1 => by
    rw [Int.pow_succ] at h1
    have ih := vI_putLow n (x := x / 256) (by omega) (by omega)
    rw [putLow, vI, ih]
    omega
theorem putLow_vI : ∀ {l : List Int}, Bytes l → putLow l.length (vI l) = l
  | [], _ => rfl
  | x :: l, hb => by
    have h1 := hb x (List.mem_cons_self ..)
    have ih := putLow_vI fun y hy => hb y (List.mem_cons_of_mem _ hy)
    show ((x + 256 * vI l) % 256) :: putLow l.length ((x + 256 * vI l) / 256) = _
    have e1 : (x + 256 * vI l) % 256 = x := by omega
    have e2 : (x + 256 * vI l) / 256 = vI l := by omega
    rw [e1, e2, ih]
theorem vI_nn {l : List Int} (h : ∀ x ∈ l, 0 ≤ x) : 0 ≤ vI l := by
  induction l with
  | nil => exact Int.le_refl _
  | cons x l ih =>
    have h1 := h x (List.mem_cons_self ..)
    have h2 := ih fun y hy => h y (List.mem_cons_of_mem _ hy)
    rw [vI]; omega
theorem putLow_getD : ∀ (n i : Nat) (x : Int), i < n → (putLow n x).getD i 0 = x / 256 ^ i % 256
  | n + 1, 0, x, _ => by simp [putLow]
  | n + 1, i + 1, x, h => by
    rw [putLow, List.getD_cons_succ, putLow_getD n i _ (by omega), Int.pow_succ', Int.ediv_ediv_of_nonneg (by omega)]
theorem getD_mem' {l : List Int} {P : Int → Prop} (h : ∀ x ∈ l, P x) (h0 : P 0) (k : Nat) : P (l.getD k 0) := by
  rw [List.getD_eq_getElem?_getD]
  cases hk : l[k]? with
  | none => exact h0
  | some y => exact h y (List.mem_of_getElem? hk)
theorem mem_set {l : List Int} {k : Nat} {y x : Int} {P : Int → Prop} (h : ∀ x ∈ l, P x) (hy : P y) (hx : x ∈ l.set k y) : P x := by
  rcases List.mem_or_eq_of_mem_set hx with h1 | rfl
  · exact h x h1
  · exact hy
theorem getD_set_ne {l : List Int} {k j : Nat} {y : Int} (h : k ≠ j) : (l.set k y).getD j 0 = l.getD j 0 := by
  rw [List.getD_eq_getElem?_getD, List.getElem?_set_ne h, List.getD_eq_getElem?_getD]
theorem getD_set_eq {l : List Int} {k : Nat} {y : Int} (h : k < l.length) : (l.set k y).getD k 0 = y := by
  rw [List.getD_eq_getElem?_getD, List.getElem?_set_self h]; rfl
def crK (a : List Int) : Nat → List Int × Int
  | 0 => (a, 0)
  | k + 1 => ((crK a k).1.set k (((crK a k).1.getD k 0 + (crK a k).2) % 256), ((crK a k).1.getD k 0 + (crK a k).2) / 256)
theorem crK_len (a : List Int) : ∀ k, (crK a k).1.length = a.length
  | 0 => rfl
  | k + 1 => by rw [crK, List.length_set, crK_len a k]
theorem crK_get (a : List Int) : ∀ (k j : Nat), k ≤ j → (crK a k).1.getD j 0 = a.getD j 0
  | 0, j, _ => rfl
  | k + 1, j, h => by rw [crK, getD_set_ne (by omega), crK_get a k j (by omega)]
theorem crK_low (a : List Int) (j : Nat) (hj : j < a.length) : ∀ k, j < k → 0 ≤ (crK a k).1.getD j 0 ∧ (crK a k).1.getD j 0 < 256
  | k + 1, h => by
    rw [crK]
    by_cases hjk : j = k
    · subst hjk
      rw [getD_set_eq (by rw [crK_len]; exact hj)]
      omega
    · rw [getD_set_ne (by omega)]
      exact crK_low a j hj k (by omega)
theorem crK_over {a : List Int} {B : Int} (h : ∀ x ∈ a, 0 ≤ x ∧ x ≤ B) (hB : 0 ≤ B) : ∀ k, 0 ≤ (crK a k).2 ∧ (crK a k).2 ≤ B
  | 0 => ⟨Int.le_refl _, hB⟩
  | k + 1 => by
    have ih := crK_over h hB k
    have hg := getD_mem' (P := fun x => 0 ≤ x ∧ x ≤ B) h ⟨Int.le_refl _, hB⟩ k
    rw [crK, crK_get a k k (Nat.le_refl _)]
    dsimp only
    omega
theorem crK_val (a : List Int) : ∀ k, k ≤ a.length → vI (crK a k).1 + 256 ^ k * (crK a k).2 = vI a
  | 0, _ => by simp [crK]
  | k + 1, h => by
    have ih := crK_val a k (by omega)
    rw [crK]
    dsimp only
    rw [vI_set _ (by rw [crK_len]; omega), Int.pow_succ]
    generalize (crK a k).1.getD k 0 = x at ih ⊢
    generalize (crK a k).2 = o at ih ⊢
    have e : (x + o) % 256 + 256 * ((x + o) / 256) = x + o := by omega
    generalize (x + o) % 256 = u at e ⊢
    generalize (x + o) / 256 = v at e ⊢
    generalize vI (crK a k).1 = V at ih ⊢
    generalize (256 : Int) ^ k = M at ih ⊢
    grind
theorem crK_out {a : List Int} {B : Int} (h : ∀ x ∈ a, 0 ≤ x ∧ x ≤ B) (hB : 0 ≤ B) (hv : vI a < 256 ^ a.length) : (crK a a.length).1 = putLow a.length (vI a) := by
  have hby : Bytes (crK a a.length).1 := fun x hx => by
    obtain ⟨j, hj⟩ := List.getElem?_of_mem hx
    have hjl := (List.getElem?_eq_some_iff.1 hj).1
    rw [crK_len] at hjl
    have := crK_low a j hjl a.length hjl
    rw [List.getD_eq_getElem?_getD, hj] at this
    exact this
  have hval := crK_val a a.length (Nat.le_refl _)
  have ho := (crK_over h hB a.length).1
  have hn := vI_nn (l := (crK a a.length).1) fun x hx => (hby x hx).1
  have hz : (crK a a.length).2 = 0 := by
    by_cases h1 : 0 < (crK a a.length).2
    · have : (256 : Int) ^ a.length * 1 ≤ 256 ^ a.length * (crK a a.length).2 := Int.mul_le_mul_of_nonneg_left (by omega) (Int.le_of_lt (Int.pow_pos (by decide)))
      omega
    · omega
  rw [hz, Int.mul_zero, Int.add_zero] at hval
  have hp := putLow_vI hby
  rw [crK_len, hval] at hp
  exact hp.symm
theorem crK_out' {a : List Int} {B : Int} {N : Int} (ha : a.length = 34) (h : ∀ x ∈ a, 0 ≤ x ∧ x ≤ B) (hB : 0 ≤ B) (hv : vI a = N) (hN : N < 256 ^ 34) : (crK a 34).1 = putLow 34 N := by
  have := crK_out h hB (by rw [ha, hv]; exact hN)
  rw [ha, hv] at this
  exact this
theorem dig_put {n : Nat} {x : Int} : ∀ y ∈ putLow n x, 0 ≤ y ∧ y < 256 := by
  induction n generalizing x with
  | zero => intro y hy; cases hy
  | succ n ih =>
    intro y hy
    rcases List.mem_cons.1 hy with rfl | hy
    · omega
    · exact ih y hy
theorem mod_succ (N : Int) (k : Nat) : N % 256 ^ (k + 1) = N % 256 ^ k + 256 ^ k * (N / 256 ^ k % 256) := by
  have hp : (0 : Int) < 256 ^ k := Int.pow_pos (by decide)
  have h1 := Int.emod_add_mul_ediv N (256 ^ k)
  have h2 := Int.emod_add_mul_ediv (N / 256 ^ k) 256
  have h3 := Int.emod_nonneg N (Int.ne_of_gt hp)
  have h4 := Int.emod_lt_of_pos N hp
  rw [Int.pow_succ]
  generalize N / 256 ^ k = q at *
  generalize hr : N % 256 ^ k = r at *
  have b1 : 0 ≤ q % 256 ∧ q % 256 < 256 := by omega
  generalize q % 256 = d at *
  generalize q / 256 = e at *
  generalize (256 : Int) ^ k = M at *
  have hN : N = (r + M * d) + M * 256 * e := by grind
  have hlt : r + M * d < M * 256 := by
    have : M * d ≤ M * 255 := Int.mul_le_mul_of_nonneg_left (by omega) (by omega)
    omega
  have hge : 0 ≤ r + M * d := by
    have : 0 ≤ M * d := Int.mul_nonneg (by omega) b1.1
    omega
  rw [hN, Int.add_mul_emod_self_left, Int.emod_eq_of_lt hge hlt]
def zer34 : List Int := List.replicate 34 0
def lowK (a : List Int) : Nat → List Int
  | 0 => zer34
  | k + 1 => (lowK a k).set k (a.getD k 0)
def highK (a : List Int) : Nat → List Int
  | 0 => zer34
  | k + 1 => (highK a k).set k (a.getD (16 + k) 0 / 4 + a.getD (17 + k) 0 % 4 * 64)
def lowF (a : List Int) : List Int := (lowK a 16).set 16 (a.getD 16 0 % 4)
def addK (l g : List Int) : Nat → List Int
  | 0 => l
  | k + 1 => (addK l g k).set k ((addK l g k).getD k 0 + 5 * g.getD k 0)
theorem lowK_len (a : List Int) : ∀ k, (lowK a k).length = 34
  | 0 => rfl
  | k + 1 => by rw [lowK, List.length_set, lowK_len a k]
theorem highK_len (a : List Int) : ∀ k, (highK a k).length = 34
  | 0 => rfl
  | k + 1 => by rw [highK, List.length_set, highK_len a k]
theorem lowF_len (a : List Int) : (lowF a).length = 34 := by rw [lowF, List.length_set, lowK_len]
theorem addK_len (l g : List Int) : ∀ k, (addK l g k).length = l.length
  | 0 => rfl
  | k + 1 => by rw [addK, List.length_set, addK_len l g k]
theorem zer_get (j : Nat) : zer34.getD j 0 = 0 := by
  rw [zer34, List.getD_eq_getElem?_getD, List.getElem?_replicate]
  split <;> rfl
theorem lowK_get (a : List Int) : ∀ (k j : Nat), k ≤ j → (lowK a k).getD j 0 = 0
  | 0, j, _ => zer_get j
  | k + 1, j, h => by rw [lowK, getD_set_ne (by omega), lowK_get a k j (by omega)]
theorem highK_get (a : List Int) : ∀ (k j : Nat), k ≤ j → (highK a k).getD j 0 = 0
  | 0, j, _ => zer_get j
  | k + 1, j, h => by rw [highK, getD_set_ne (by omega), highK_get a k j (by omega)]
theorem dig_set {l : List Int} {k : Nat} {y lo hi : Int} (h : ∀ x ∈ l, lo ≤ x ∧ x ≤ hi) (hy : lo ≤ y ∧ y ≤ hi) : ∀ x ∈ l.set k y, lo ≤ x ∧ x ≤ hi := fun x hx => mem_set (P := fun x => lo ≤ x ∧ x ≤ hi) h hy hx
theorem dig_zer {hi : Int} (h : 0 ≤ hi) : ∀ x ∈ zer34, 0 ≤ x ∧ x ≤ hi := fun x hx => by
  have := List.eq_of_mem_replicate hx; omega
theorem dig_get {l : List Int} {hi : Int} (h : ∀ x ∈ l, 0 ≤ x ∧ x ≤ hi) (h0 : 0 ≤ hi) (k : Nat) : 0 ≤ l.getD k 0 ∧ l.getD k 0 ≤ hi := getD_mem' (P := fun x => 0 ≤ x ∧ x ≤ hi) h ⟨Int.le_refl _, h0⟩ k
theorem lowK_dig {a : List Int} (h : ∀ x ∈ a, 0 ≤ x ∧ x ≤ 255) : ∀ k, ∀ x ∈ lowK a k, 0 ≤ x ∧ x ≤ 255
  | 0 => dig_zer (by omega)
  | k + 1 => dig_set (lowK_dig h k) (dig_get h (by omega) k)
theorem highK_dig {a : List Int} (h : ∀ x ∈ a, 0 ≤ x ∧ x ≤ 255) : ∀ k, ∀ x ∈ highK a k, 0 ≤ x ∧ x ≤ 255
  | 0 => dig_zer (by omega)
  | k + 1 => dig_set (highK_dig h k) (by have h1 := dig_get h (by omega) (16 + k); have h2 := dig_get h (by omega) (17 + k); omega)
theorem lowF_dig {a : List Int} (h : ∀ x ∈ a, 0 ≤ x ∧ x ≤ 255) : ∀ x ∈ lowF a, 0 ≤ x ∧ x ≤ 255 := dig_set (lowK_dig h 16) (by have h1 := dig_get h (by omega) 16; omega)
theorem addK_get (l g : List Int) : ∀ (k j : Nat), k ≤ j → (addK l g k).getD j 0 = l.getD j 0
  | 0, j, _ => rfl
  | k + 1, j, h => by rw [addK, getD_set_ne (by omega), addK_get l g k j (by omega)]
theorem addK_dig {l g : List Int} (h : ∀ x ∈ l, 0 ≤ x ∧ x ≤ 255) (hg : ∀ x ∈ g, 0 ≤ x ∧ x ≤ 255) : ∀ k, ∀ x ∈ addK l g k, 0 ≤ x ∧ x ≤ 1530
  | 0 => fun x hx => by have := h x hx; omega
  | k + 1 => dig_set (addK_dig h hg k) (by rw [addK_get l g k k (Nat.le_refl _)]; have h1 := dig_get h (by omega) k; have h2 := dig_get hg (by omega) k; omega)
theorem vI_take (l : List Int) : ∀ k, k < l.length → vI (l.take (k + 1)) = vI (l.take k) + 256 ^ k * l.getD k 0 := by
  induction l with
  | nil => intro k h; cases h
  | cons x l ih =>
    intro k h
    cases k with
    | zero => simp [vI]
    | succ k =>
      have := ih k (by simpa using h)
      simp only [List.take_succ_cons, vI, List.getD_cons_succ, Int.pow_succ] at this ⊢
      rw [this]
      grind
theorem addK_val (l g : List Int) (hg : g.length = l.length) : ∀ k, k ≤ l.length → vI (addK l g k) = vI l + 5 * vI (g.take k)
  | 0, _ => by simp [addK, vI]
  | k + 1, h => by
    rw [addK, vI_set _ (by rw [addK_len]; omega), addK_val l g hg k (by omega), vI_take g k (by omega)]
    grind
theorem lowK_val {N : Int} : ∀ k, k ≤ 34 → vI (lowK (putLow 34 N) k) = N % 256 ^ k
  | 0, _ => by rw [Int.pow_zero, Int.emod_one]; exact vI_zeros 34
  | k + 1, h => by
    rw [lowK, vI_set _ (by rw [lowK_len]; omega), lowK_val k (by omega), putLow_getD 34 k N (by omega), lowK_get _ _ _ (Nat.le_refl _), Int.sub_zero, mod_succ]
theorem e130 : (1361129467683753853853498429727072845824 : Int) = 256 ^ 16 * 4 := by decide
theorem highK_val {N : Int} (hN : 0 ≤ N) (hl : N < 256 ^ 34) : ∀ k, k ≤ 18 → vI (highK (putLow 34 N) k) = N / 1361129467683753853853498429727072845824 % 256 ^ k
  | 0, _ => by rw [Int.pow_zero, Int.emod_one]; exact vI_zeros 34
  | k + 1, h => by
    have e1 : (putLow 34 N).getD (16 + k) 0 = N / 256 ^ 16 / 256 ^ k % 256 := by rw [putLow_getD 34 _ N (by omega), Int.pow_add, Int.ediv_ediv_of_nonneg (Int.pow_nonneg (by decide))]
    have e2 : (putLow 34 N).getD (17 + k) 0 = N / 256 ^ 16 / 256 ^ k / 256 % 256 := by
      have e3 : N / 256 ^ 16 / 256 ^ k / 256 = N / 256 ^ (17 + k) := by
        rw [Int.ediv_ediv_of_nonneg (Int.pow_nonneg (by decide)), ← Int.pow_succ, Int.ediv_ediv_of_nonneg (Int.pow_nonneg (by decide)), ← Int.pow_add]
        congr 2
        omega
      rw [e3]
      by_cases h17 : 17 + k < 34
      · rw [putLow_getD 34 _ N h17]
      · have hk : k = 17 := by omega
        subst hk
        rw [List.getD_eq_getElem?_getD, List.getElem?_eq_none (by rw [putLow_len]; omega)]
        rw [Int.ediv_eq_zero_of_lt hN hl]
        rfl
    have e4 : N / 1361129467683753853853498429727072845824 / 256 ^ k = N / 256 ^ 16 / 256 ^ k / 4 := by
      have q1 : (0 : Int) ≤ 256 ^ 16 := by decide
      have q2 : (0 : Int) ≤ 256 ^ k := Int.pow_nonneg (by decide)
      rw [e130, Int.ediv_ediv_of_nonneg (Int.mul_nonneg q1 (by decide)), Int.ediv_ediv_of_nonneg q1, Int.ediv_ediv_of_nonneg (Int.mul_nonneg q1 q2)]
      congr 1
      rw [Int.mul_assoc, Int.mul_assoc, Int.mul_comm 4]
    rw [highK, vI_set _ (by rw [highK_len]; omega), highK_val hN hl k (by omega), highK_get _ _ _ (Nat.le_refl _), Int.sub_zero, mod_succ, e1, e2, e4]
    generalize N / 256 ^ 16 / 256 ^ k = M
    have : M % 256 / 4 + M / 256 % 256 % 4 * 64 = M / 4 % 256 := by omega
    rw [this]
def rdF (N : Int) : Int := N % 1361129467683753853853498429727072845824 + 5 * (N / 1361129467683753853853498429727072845824)
theorem fold_round {N : Int} (hN : 0 ≤ N) (hl : N < 256 ^ 34) : vI (addK (lowF (putLow 34 N)) (highK (putLow 34 N) 18) 34) = rdF N := by
  have e1 := lowK_val (N := N) 16 (by omega)
  have e2 := highK_val hN hl 18 (by omega)
  have e3 : vI (lowF (putLow 34 N)) = N % 1361129467683753853853498429727072845824 := by
    rw [lowF, vI_set _ (by rw [lowK_len]; omega), e1, lowK_get _ _ _ (Nat.le_refl _), putLow_getD 34 16 N (by omega)]
    have p16 : (256 : Int) ^ 16 = 340282366920938463463374607431768211456 := by decide
    rw [p16]
    omega
  have p34 : (256 : Int) ^ 34 = 7588550360256754183279148073529370729071901715047420004889892225542594864082845696 := by decide
  have p18 : (256 : Int) ^ 18 = 22300745198530623141535718272648361505980416 := by decide
  rw [addK_val _ _ (by rw [highK_len, lowF_len]) 34 (by rw [lowF_len]; omega), List.take_of_length_le (by rw [highK_len]; omega), e2, e3, rdF, p18]
  rw [p34] at hl
  omega
theorem rdF_nn {N : Int} (h : 0 ≤ N) : 0 ≤ rdF N := by unfold rdF; omega
theorem rdF_mod {N : Int} : rdF N % 1361129467683753853853498429727072845819 = N % 1361129467683753853853498429727072845819 := by unfold rdF; omega
theorem rdF4 {N : Int} (hN : 0 ≤ N) (hl : N < 256 ^ 34) : rdF (rdF (rdF (rdF N))) < 1361129467683753853853498429727072845824 := by
  have p34 : (256 : Int) ^ 34 = 7588550360256754183279148073529370729071901715047420004889892225542594864082845696 := by decide
  rw [p34] at hl
  have h1 : rdF N < 44601490397061246283071436545296723011960832 := by unfold rdF; omega
  have h0 := rdF_nn hN
  generalize rdF N = A at h1 h0 ⊢
  have h2 : rdF A < 1361129467683753853853498429727073009664 := by unfold rdF; omega
  have h3 := rdF_nn h0
  generalize rdF A = B at h2 h3 ⊢
  have h4 : rdF B < 1361129467683753853853498429727072845824 := by unfold rdF; omega
  have h5 := rdF_nn h3
  generalize rdF B = C at h4 h5 ⊢
  unfold rdF; omega
theorem rdF_lt {N : Int} (hN : 0 ≤ N) (hl : N < 256 ^ 34) : rdF N < 256 ^ 34 := by
  have p34 : (256 : Int) ^ 34 = 7588550360256754183279148073529370729071901715047420004889892225542594864082845696 := by decide
  rw [p34] at hl ⊢
  unfold rdF; omega
def lsK (a b : List Int) : Nat → Bool
  | 0 => false
  | k + 1 => if a.getD k 0 = b.getD k 0 then lsK a b k else decide (a.getD k 0 < b.getD k 0)
theorem vI_take_lt {l : List Int} (h : ∀ x ∈ l, 0 ≤ x ∧ x < 256) : ∀ k, k ≤ l.length → 0 ≤ vI (l.take k) ∧ vI (l.take k) < 256 ^ k
  | 0, _ => by simp [vI]
  | k + 1, hk => by
    have ih := vI_take_lt h k (by omega)
    have hg := getD_mem' (P := fun x => 0 ≤ x ∧ x < 256) h (by decide) k
    rw [vI_take l k (by omega), Int.pow_succ]
    generalize (256 : Int) ^ k = M at *
    have h1 : 0 ≤ M * l.getD k 0 := Int.mul_nonneg (by omega) hg.1
    have h2 : M * l.getD k 0 ≤ M * 255 := Int.mul_le_mul_of_nonneg_left (by omega) (by omega)
    omega
theorem lsK_val {a b : List Int} (ha : ∀ x ∈ a, 0 ≤ x ∧ x < 256) (hb : ∀ x ∈ b, 0 ≤ x ∧ x < 256) : ∀ k, k ≤ a.length → k ≤ b.length → lsK a b k = decide (vI (a.take k) < vI (b.take k))
  | 0, _, _ => by simp [lsK, vI]
  | k + 1, h1, h2 => by
    have i1 := vI_take_lt ha k (by omega)
    have i2 := vI_take_lt hb k (by omega)
    rw [lsK, lsK_val ha hb k (by omega) (by omega), vI_take a k (by omega), vI_take b k (by omega)]
    generalize a.getD k 0 = x
    generalize b.getD k 0 = y
    generalize (256 : Int) ^ k = M at *
    split
    · rename_i e; subst e
      congr 1
      apply propext
      omega
    · rename_i e
      congr 1
      apply propext
      rcases Int.lt_trichotomy x y with hx | hx | hx
      · have : M * (x + 1) ≤ M * y := Int.mul_le_mul_of_nonneg_left (by omega) (by omega)
        rw [Int.mul_add] at this
        constructor <;> intro _ <;> omega
      · exact absurd hx e
      · have : M * (y + 1) ≤ M * x := Int.mul_le_mul_of_nonneg_left (by omega) (by omega)
        rw [Int.mul_add] at this
        constructor <;> intro _ <;> omega
def sbK (a p : List Int) : Nat → List Int
  | 0 => a
  | k + 1 => if (sbK a p k).getD k 0 - p.getD k 0 < 0 then ((sbK a p k).set k ((sbK a p k).getD k 0 - p.getD k 0 + 256)).set (k + 1) ((sbK a p k).getD (k + 1) 0 - 1) else (sbK a p k).set k ((sbK a p k).getD k 0 - p.getD k 0)
theorem sbK_len (a p : List Int) : ∀ k, (sbK a p k).length = a.length
  | 0 => rfl
  | k + 1 => by rw [sbK]; split <;> simp [sbK_len a p k]
theorem sbK_get (a p : List Int) : ∀ (k j : Nat), k < j → (sbK a p k).getD j 0 = a.getD j 0
  | 0, j, _ => rfl
  | k + 1, j, h => by
    rw [sbK]
    split
    · rw [getD_set_ne (by omega), getD_set_ne (by omega), sbK_get a p k j (by omega)]
    · rw [getD_set_ne (by omega), sbK_get a p k j (by omega)]
theorem sbK_at {a p : List Int} (ha : ∀ x ∈ a, 0 ≤ x ∧ x ≤ 255) : ∀ k, -1 ≤ (sbK a p k).getD k 0 ∧ (sbK a p k).getD k 0 ≤ 255
  | 0 => by have := dig_get ha (by omega) 0; rw [sbK]; omega
  | k + 1 => by
    have h1 := dig_get ha (by omega) (k + 1)
    rw [sbK]
    split
    · by_cases hk : k + 1 < a.length
      · rw [getD_set_eq (by rw [List.length_set, sbK_len]; exact hk), sbK_get a p k (k + 1) (by omega)]; omega
      · rw [List.getD_eq_getElem?_getD, List.getElem?_eq_none (by simp [sbK_len]; omega)]; decide
    · rw [getD_set_ne (by omega), sbK_get a p k (k + 1) (by omega)]; omega
theorem sbK_low {a p : List Int} (ha : ∀ x ∈ a, 0 ≤ x ∧ x ≤ 255) (hp : ∀ x ∈ p, 0 ≤ x ∧ x ≤ 255) : ∀ k, k ≤ a.length → ∀ j, j < k → 0 ≤ (sbK a p k).getD j 0 ∧ (sbK a p k).getD j 0 < 256
  | k + 1, hk, j, hj => by
    have h1 := sbK_at (p := p) ha k
    have h2 := dig_get hp (by omega) k
    rw [sbK]
    by_cases hjk : j = k
    · subst hjk
      split
      · rw [getD_set_ne (by omega), getD_set_eq (by rw [sbK_len]; omega)]; omega
      · rw [getD_set_eq (by rw [sbK_len]; omega)]; omega
    · have ih := sbK_low ha hp k (by omega) j (by omega)
      split
      · rw [getD_set_ne (by omega), getD_set_ne (by omega)]; exact ih
      · rw [getD_set_ne (by omega)]; exact ih
theorem sbK_val {a p : List Int} (hp : p.length = a.length) : ∀ k, k < a.length → vI (sbK a p k) = vI a - vI (p.take k)
  | 0, _ => by simp [sbK, vI]
  | k + 1, h => by
    have ih := sbK_val hp k (by omega)
    rw [sbK, vI_take p k (by omega)]
    split
    · rw [vI_set _ (by rw [List.length_set, sbK_len]; omega), vI_set _ (by rw [sbK_len]; omega), getD_set_ne (by omega), ih, Int.pow_succ]
      grind
    · rw [vI_set _ (by rw [sbK_len]; omega), ih]
      grind
theorem vI_split {l : List Int} {n : Nat} (hl : l.length = n + 1) (h : ∀ j, j < n → 0 ≤ l.getD j 0 ∧ l.getD j 0 < 256) : vI l < 256 ^ n * (l.getD n 0 + 1) := by
  have h1 := vI_take l n (by omega)
  rw [List.take_of_length_le (by omega)] at h1
  have h2 := vI_take_lt (l := l.take n) (fun x hx => by
    obtain ⟨j, hj⟩ := List.getElem?_of_mem hx
    have hjl := (List.getElem?_eq_some_iff.1 hj).1
    rw [List.length_take] at hjl
    have := h j (by omega)
    rw [List.getElem?_take] at hj
    split at hj
    · rw [List.getD_eq_getElem?_getD, hj] at this; exact this
    · cases hj) n (by rw [List.length_take]; omega)
  rw [List.take_take, Nat.min_self] at h2
  rw [h1, Int.mul_add]
  omega
theorem sbK_last {a p : List Int} (ha : a.length = 34) (hp : p.length = 34) (h1 : ∀ x ∈ a, 0 ≤ x ∧ x ≤ 255) (h2 : ∀ x ∈ p, 0 ≤ x ∧ x ≤ 255) (hle : vI p ≤ vI a) : 0 ≤ (sbK a p 33).getD 33 0 - p.getD 33 0 := by
  have hv := sbK_val (a := a) (p := p) (by omega) 33 (by omega)
  have hs := vI_split (l := sbK a p 33) (n := 33) (by rw [sbK_len]; exact ha) (sbK_low h1 h2 33 (by omega))
  have ht := vI_take p 33 (by omega)
  rw [List.take_of_length_le (by omega)] at ht
  have hm : (0 : Int) < 256 ^ 33 := Int.pow_pos (by decide)
  by_cases hc : 0 ≤ (sbK a p 33).getD 33 0 - p.getD 33 0
  · exact hc
  · generalize (sbK a p 33).getD 33 0 = x at hs hc ⊢
    generalize p.getD 33 0 = y at ht hc ⊢
    have : (256 : Int) ^ 33 * (x + 1) ≤ 256 ^ 33 * y := Int.mul_le_mul_of_nonneg_left (by omega) (Int.le_of_lt hm)
    omega
theorem sbK_out {a p : List Int} (ha : a.length = 34) (hp : p.length = 34) (h1 : ∀ x ∈ a, 0 ≤ x ∧ x ≤ 255) (h2 : ∀ x ∈ p, 0 ≤ x ∧ x ≤ 255) (hle : vI p ≤ vI a) : sbK a p 34 = putLow 34 (vI a - vI p) := by
  have hl := sbK_last ha hp h1 h2 hle
  have hv := sbK_val (a := a) (p := p) (by omega) 33 (by omega)
  have ht := vI_take p 33 (by omega)
  rw [List.take_of_length_le (by omega)] at ht
  have e : sbK a p 34 = (sbK a p 33).set 33 ((sbK a p 33).getD 33 0 - p.getD 33 0) := by
    show (if (sbK a p 33).getD 33 0 - p.getD 33 0 < 0 then _ else _) = _
    rw [if_neg (by omega)]
  have hval : vI (sbK a p 34) = vI a - vI p := by
    rw [e, vI_set _ (by rw [sbK_len]; omega), hv]
    grind
  have hby : Bytes (sbK a p 34) := fun x hx => by
    obtain ⟨j, hj⟩ := List.getElem?_of_mem hx
    have hjl := (List.getElem?_eq_some_iff.1 hj).1
    rw [sbK_len, ha] at hjl
    have := sbK_low h1 h2 34 (by omega) j hjl
    rw [List.getD_eq_getElem?_getD, hj] at this
    exact this
  have := putLow_vI hby
  rw [sbK_len, ha, hval] at this
  exact this.symm
end Go.Proofs.YtgeepceieckooaaGreatDoor
end

section
namespace Go.Proofs.YtgeepceieckooaaGreatDoor
open Go Go.Ck
set_option maxHeartbeats 1000000
abbrev vi (a : Int) : Value := .int .i64 a
def upI (l : List Int) : List Value := l.map vi
theorem upI_len (l : List Int) : (upI l).length = l.length := by simp [upI]
theorem upI_at {l : List Int} {k : Nat} {x : Int} (h : l[k]? = some x) : (upI l)[k]? = some (vi x) := by
  unfold upI
  rw [List.getElem?_map, h]
  rfl
theorem cell_wi {h : View} {L : List Res} {b k : Nat} {l : List Int} {x : Int} {i : Nat} (c : Cells h L ⟨b, 0, none⟩ (upI l)) (hk : l[k]? = some x) (hi : i = k) : CellAt h L b i (vi x) := by
  subst hi
  have := c.cell (upI_at hk)
  rwa [Nat.zero_add] at this
theorem spl_wi {l : List Int} {x : Int} {i o : Nat} (ho : o = i) (hi : i < l.length) : spl (upI l).toArray.toList o (vi x).cells.toList = upI (l.set i x) := by
  subst ho
  show spl (upI l) o [vi x] = _
  unfold spl upI
  rw [List.map_set, List.set_eq_take_append_cons_drop]
  simp [hi]
theorem fit_wi {l : List Int} {x : Int} {n i o : Nat} (hu : l.length = n) (ho : o = i) (hi : i < n) : o + (vi x).cells.size ≤ (upI l).toArray.size := by
  subst ho
  show o + 1 ≤ (upI l).toArray.size
  simp [upI_len, hu]
  omega
theorem w_szi {l : List Int} {n : Nat} (h : l.length = n) : (Value.agg (upI l).toArray).cells.size = n := by
  show (upI l).toArray.size = n
  simp [upI_len, h]
theorem w_fiti {l : List Int} {cs : Array Value} {n : Nat} (h : l.length = n) (hc : cs.size = n) : 0 + (Value.agg (upI l).toArray).cells.size ≤ cs.size := by rw [w_szi h, hc]; omega
theorem w_alli {l : List Int} {cs : List Value} {n : Nat} (h : l.length = n) (hc : cs.length = n) : (Value.agg (upI l).toArray).cells.toList.length = cs.length := by
  rw [hc]
  show (upI l).length = n
  rw [upI_len, h]
theorem w_onei (l : List Int) : (Value.agg (upI l).toArray).cells.toList.all Value.oneCell' = true := by
  show (upI l).all Value.oneCell' = true
  refine List.all_eq_true.2 fun x hx => ?_
  obtain ⟨a, _, rfl⟩ := List.mem_map.1 hx
  rfl
theorem getD_ati {l : List Int} {i : Nat} (h : i < l.length) : l[i]? = some (l.getD i 0) := by
  rw [List.getD_eq_getElem?_getD, List.getElem?_eq_getElem h]; rfl
theorem upI_szs {l : List Int} {n : Nat} (h : l.length = n) : (upI l).toArray.size = n := by simp [upI_len, h]
theorem rcarry_sp (a : List Int) (N B : Int) (ha : a.length = 34) (hd : ∀ x ∈ a, 0 ≤ x ∧ x ≤ B) (hB : 0 ≤ B ∧ B ≤ 1099511627776) (hv : vI a = N) (hN : N < 256 ^ 34) (h : View) (w : World) (s : St ⟨w, h, []⟩ h [] w) :
    Calls Tryz.prog 129 [.agg (upI a).toArray].toArray w fun e w' => e = .returned (.agg (upI (putLow 34 N)).toArray) ∧ St ⟨w, h, []⟩ h [] w' := by
  have ho := crK_out' ha hd hB.1 hv hN
  refine calls_enter Tryz.func129 rfl Tryz.ntmps129 rfl s ?_
  repeat' (first|refine zw309 ?_|(refine ta_ ?_;intro _)|(refine zk0 ?_ ?_<;>intro ht)|fail)
  rename_i bx br
  refine cx_perm (L' := [Res.blk br (.cells (upI zer34).toArray 184 (0, 0)), Res.blk bx (.cells (upI a).toArray 184 (0, 0))]) (.refl _) ?_
  refine cx_loop (X := Nat) (fun k => [(1, .pointer (some ⟨bx, 0, none⟩)), (2, .pointer (some ⟨br, 0, none⟩)), (3, vi (crK a k).2), (4, .int .i64 (k : Nat))]) (fun _ => h)
    (fun k => [Res.blk br (.cells (upI zer34).toArray 184 (0, 0)), Res.blk bx (.cells (upI (crK a k).1).toArray 184 (0, 0))]) (fun k => k ≤ 34) (fun k => 34 - k) 0 (Nat.zero_le _) ts_ (fun _ s => s) ?_
  intro k hk
  have hkl := crK_len a k
  by_cases hk5 : k < 34
  · have ek : crK a (k + 1) = ((crK a k).1.set k (((crK a k).1.getD k 0 + (crK a k).2) % 256), ((crK a k).1.getD k 0 + (crK a k).2) / 256) := rfl
    have hov := crK_over hd hB.1 k
    have hg : 0 ≤ (crK a k).1.getD k 0 ∧ (crK a k).1.getD k 0 ≤ B := by rw [crK_get a k k (Nat.le_refl _)]; exact dig_get hd hB.1 k
    generalize crK a k = R at hkl ek hov hg ⊢
    have hkl : R.1.length = 34 := by omega
    have c0 := getD_ati (l := R.1) (i := k) (by omega)
    have hr : (R.1.getD k 0 + R.2).tmod 256 = (R.1.getD k 0 + R.2) % 256 := Int.tmod_eq_emod_of_nonneg (by omega)
    have hq : IntKind.i64.wrap ((R.1.getD k 0 + R.2).tdiv 256) = (R.1.getD k 0 + R.2) / 256 := by
      rw [Int.tdiv_eq_ediv_of_nonneg (by omega)]
      exact wrap_i64 (by unfold I64; omega)
    repeat' (first|refine zw310 ?_|(refine ta_ ?_;intro _)|(refine zk0 ?_ ?_<;>intro ht)|fail)
    refine nx_round (k + 1) (by show k + 1 ≤ 34; omega) (by show 34 - (k + 1) < 34 - k; omega) ?_ (fun _ s => ?_)
    · rw [ek]; exact ts_
    · rw [ek]; exact s
  · have ek5 : k = 34 := by omega
    subst ek5
    rw [ho]
    have hl5 : (putLow 34 N).length = 34 := putLow_len _ _
    generalize putLow 34 N = p at hl5 ⊢
    repeat' (first|refine zw311 ?_|(refine ta_ ?_;intro _)|(refine zk0 ?_ ?_<;>intro ht)|fail)
    exact nx_ret1 rfl (rv_cells rfl (yaz 0 rfl) (by rw [← hl5]; exact upI_len p)) (fun w' s' => ⟨rfl, s'.nil⟩)
end Go.Proofs.YtgeepceieckooaaGreatDoor
end

section
namespace Go.Proofs.YtgeepceieckooaaGreatDoor
open Go Go.Ck
set_option maxHeartbeats 1000000
def prD : List Int := [251, 255, 255, 255, 255, 255, 255, 255, 255, 255, 255, 255, 255, 255, 255, 255, 3] ++ List.replicate 17 0
theorem prD_len : prD.length = 34 := rfl
theorem prD_val : vI prD = 1361129467683753853853498429727072845819 := by decide
theorem prD_dig : ∀ x ∈ prD, 0 ≤ x ∧ x ≤ 255 := by decide
def ffK (k : Nat) : List Int := List.replicate k 255 ++ List.replicate (34 - k) 0
theorem ffK_len {k : Nat} (h : k ≤ 34) : (ffK k).length = 34 := by simp [ffK]; omega
theorem ffK_set {k : Nat} (h : k < 34) : (ffK k).set k 255 = ffK (k + 1) := by
  have e : 34 - k = (34 - (k + 1)) + 1 := by omega
  unfold ffK
  rw [e, List.replicate_succ, List.set_append_right _ _ (by simp)]
  simp [List.replicate_succ']
theorem rprime_sp (h : View) (w : World) (s : St ⟨w, h, []⟩ h [] w) :
    Calls Tryz.prog 141 [].toArray w fun e w' => e = .returned (.agg (upI prD).toArray) ∧ St ⟨w, h, []⟩ h [] w' := by
  refine calls_enter Tryz.func141 rfl Tryz.ntmps141 rfl s ?_
  repeat' (first|refine tw_ ?_|(refine ta_ ?_;intro _)|(refine zk0 ?_ ?_<;>intro ht)|fail)
  rename_i br bp
  refine cx_loop (X := Nat) (fun k => [(0, .pointer (some ⟨br, 0, none⟩)), (1, .pointer (some ⟨bp, 0, none⟩)), (2, .int .i64 (k : Nat))]) (fun _ => h)
    (fun k => [Res.blk bp (.cells (upI (ffK k)).toArray 184 (0, 0)), Res.blk br (.cells (upI zer34).toArray 184 (0, 0))]) (fun k => k ≤ 16) (fun k => 16 - k) 0 (Nat.zero_le _) ts_ (fun _ s => s) ?_
  intro k hk
  by_cases hk16 : k < 16
  · have e1 := ffK_set (k := k) (by omega)
    have hl := ffK_len (k := k) (by omega)
    repeat' (first|refine zw312 ?_|(refine ta_ ?_;intro _)|(refine zk0 ?_ ?_<;>intro ht)|fail)
    refine nx_round (k + 1) (by show k + 1 ≤ 16; omega) (by show 16 - (k + 1) < 16 - k; omega) ts_ (fun _ s => s)
  · have ek : k = 16 := by omega
    subst ek
    repeat' (first|refine zw3 ?_|(refine ta_ ?_;intro _)|(refine zk0 ?_ ?_<;>intro ht)|fail)
    exact nx_ret1 rfl (rv_cells rfl (yaz 1 rfl) rfl) (fun w' s' => ⟨rfl, s'.nil⟩)
theorem rless_sp (a b : List Int) (ha : a.length = 34) (hb : b.length = 34) (h : View) (w : World) (s : St ⟨w, h, []⟩ h [] w) :
    Calls Tryz.prog 142 [.agg (upI a).toArray, .agg (upI b).toArray].toArray w fun e w' => e = .returned (.bool (lsK a b 34)) ∧ St ⟨w, h, []⟩ h [] w' := by
  refine calls_enter Tryz.func142 rfl Tryz.ntmps142 rfl s ?_
  repeat' (first|refine zw313 ?_|(refine ta_ ?_;intro _)|(refine zk0 ?_ ?_<;>intro ht)|fail)
  rename_i ba bb
  refine cx_loop (X := Nat) (fun k => [(2, .pointer (some ⟨ba, 0, none⟩)), (3, .pointer (some ⟨bb, 0, none⟩)), (5, .int .i64 ((k : Nat) - 1 : Int))]) (fun _ => h)
    (fun k => [Res.blk bb (.cells (upI b).toArray 184 (0, 0)), Res.blk ba (.cells (upI a).toArray 184 (0, 0))]) (fun k => k ≤ 34 ∧ lsK a b 34 = lsK a b k) (fun k => k) 34 ⟨Nat.le_refl _, rfl⟩ ts_ (fun _ s => s) ?_
  rintro k ⟨hk, he⟩
  rw [he]
  cases k with
  | zero =>
    repeat' (first|refine zw3 ?_|(refine ta_ ?_;intro _)|(refine zk0 ?_ ?_<;>intro ht)|fail)
    exact nx_ret1 rfl (rv_tmp rfl) (fun w' s' => ⟨rfl, s'.nil⟩)
  | succ j =>
    have ej : ((j + 1 : Nat) : Int) - 1 = (j : Int) := by omega
    rw [ej]
    have ca := getD_ati (l := a) (i := j) (by omega)
    have cb := getD_ati (l := b) (i := j) (by omega)
    have el : lsK a b (j + 1) = if a.getD j 0 = b.getD j 0 then lsK a b j else decide (a.getD j 0 < b.getD j 0) := rfl
    generalize a.getD j 0 = x at ca el
    generalize b.getD j 0 = y at cb el
    by_cases hxy : x = y
    · rw [if_pos hxy] at el
      repeat' (first|refine zw314 ?_|(refine ta_ ?_;intro _)|(refine zk0 ?_ ?_<;>intro ht)|fail)
      refine cx_region_draw' rfl (by kernel_rfl) ?_
      repeat' (first|refine zw315 ?_|(refine ycf ?_;(first|(refine zg0 ?_ ?_<;>intro ht)|(refine tb_ ?_ ?_ ?_;(·(exact to_));(·intro _;(exact to_));intro _)))|fail)
      repeat' (first|refine zw3 ?_|(refine ta_ ?_;intro _)|(refine zk0 ?_ ?_<;>intro ht)|fail)
      refine nx_round j ⟨by omega, el⟩ (by show j < j + 1; omega) ts_ (fun _ s => s)
    · rw [if_neg hxy] at el
      rw [el]
      repeat' (first|refine zw314 ?_|(refine ta_ ?_;intro _)|(refine zk0 ?_ ?_<;>intro ht)|fail)
      refine cx_region_draw' rfl (by kernel_rfl) ?_
      repeat' (first|refine zw315 ?_|(refine ycf ?_;(first|(refine zg0 ?_ ?_<;>intro ht)|(refine tb_ ?_ ?_ ?_;(·(exact to_));(·intro _;(exact to_));intro _)))|fail)
      repeat' (first|refine zw314 ?_|(refine ta_ ?_;intro _)|(refine zk0 ?_ ?_<;>intro ht)|fail)
      refine cx_region_draw' rfl (by kernel_rfl) ?_
      repeat' (first|refine zw316 ?_|(refine ycf ?_;(first|(refine zg0 ?_ ?_<;>intro ht)|(refine tb_ ?_ ?_ ?_;(·(exact to_));(·intro _;(exact to_));intro _)))|fail)
      repeat' (first|refine tw_ ?_|(refine ta_ ?_;intro _)|(refine zk0 ?_ ?_<;>intro ht)|fail)
      exact nx_ret1 rfl (rv_tmp rfl) (fun w' s' => ⟨rfl, s'.nil⟩)
end Go.Proofs.YtgeepceieckooaaGreatDoor
end

section
namespace Go.Proofs.YtgeepceieckooaaGreatDoor
open Go Go.Ck
set_option maxHeartbeats 1000000
def rdI (N : Int) : Nat → Int
  | 0 => N
  | k + 1 => rdF (rdI N k)
theorem rdI_bd {N : Int} (h0 : 0 ≤ N) (hN : N < 256 ^ 34) : ∀ k, 0 ≤ rdI N k ∧ rdI N k < 256 ^ 34
  | 0 => ⟨h0, hN⟩
  | k + 1 => ⟨rdF_nn (rdI_bd h0 hN k).1, rdF_lt (rdI_bd h0 hN k).1 (rdI_bd h0 hN k).2⟩
theorem pl255 {n : Nat} {x : Int} : ∀ y ∈ putLow n x, 0 ≤ y ∧ y ≤ 255 := fun y hy => by have := dig_put y hy; omega
theorem rfold_sp (N : Int) (h0 : 0 ≤ N) (hN : N < 256 ^ 34) (h : View) (w : World) (s : St ⟨w, h, []⟩ h [] w) :
    Calls Tryz.prog 130 [.agg (upI (putLow 34 N)).toArray].toArray w fun e w' => e = .returned (.agg (upI (putLow 34 (N % 1361129467683753853853498429727072845819))).toArray) ∧ St ⟨w, h, []⟩ h [] w' := by
  have ha : (putLow 34 N).length = 34 := putLow_len _ _
  refine calls_enter Tryz.func130 rfl Tryz.ntmps130 rfl s ?_
  repeat' (first|refine zw317 ?_|(refine ta_ ?_;intro _)|(refine zk0 ?_ ?_<;>intro ht)|fail)
  rename_i ba br
  refine cx_perm (L' := [Res.blk br (.cells (upI zer34).toArray 184 (0, 0)), Res.blk ba (.cells (upI (putLow 34 (rdI N 0))).toArray 184 (0, 0))]) (.refl _) ?_
  refine cx_loop (X := Nat) (fun k => [(1, .pointer (some ⟨ba, 0, none⟩)), (2, .pointer (some ⟨br, 0, none⟩)), (3, .int .i64 (k : Nat))]) (fun _ => h)
    (fun k => [Res.blk br (.cells (upI zer34).toArray 184 (0, 0)), Res.blk ba (.cells (upI (putLow 34 (rdI N k))).toArray 184 (0, 0))]) (fun k => k ≤ 4) (fun k => 4 - k) 0 (Nat.zero_le _) ts_ (fun _ s => s) ?_
  intro k hk
  have hbd := rdI_bd h0 hN k
  by_cases hk4 : k < 4
  · have en : rdI N (k + 1) = rdF (rdI N k) := rfl
    generalize rdI N k = M at hbd en ⊢
    have hfr := fold_round hbd.1 hbd.2
    have hda : ∀ x ∈ putLow 34 M, 0 ≤ x ∧ x ≤ 255 := pl255
    have hal : (putLow 34 M).length = 34 := putLow_len _ _
    generalize putLow 34 M = a at hfr hda hal ⊢
    repeat' (first|refine zw3 ?_|(refine ta_ ?_;intro _)|(refine zk0 ?_ ?_<;>intro ht)|fail)
    rename_i bl bh
    refine cx_perm (L' := [Res.blk bh (.cells (upI zer34).toArray 184 (0, 0)), Res.blk bl (.cells (upI (lowK a 0)).toArray 184 (0, 0)), Res.blk br (.cells (upI zer34).toArray 184 (0, 0)), Res.blk ba (.cells (upI a).toArray 184 (0, 0))]) (.refl _) ?_
    refine cx_loop (X := Nat) (fun i => [(1, .pointer (some ⟨ba, 0, none⟩)), (2, .pointer (some ⟨br, 0, none⟩)), (3, .int .i64 (k : Nat)), (4, .pointer (some ⟨bl, 0, none⟩)), (5, .pointer (some ⟨bh, 0, none⟩)), (6, .int .i64 (i : Nat))]) (fun _ => h)
      (fun i => [Res.blk bh (.cells (upI zer34).toArray 184 (0, 0)), Res.blk bl (.cells (upI (lowK a i)).toArray 184 (0, 0)), Res.blk br (.cells (upI zer34).toArray 184 (0, 0)), Res.blk ba (.cells (upI a).toArray 184 (0, 0))]) (fun i => i ≤ 16) (fun i => 16 - i) 0 (Nat.zero_le _) ts_ (fun _ s => s) ?_
    intro i hi
    have hll := lowK_len a i
    by_cases hi16 : i < 16
    · have e1 : lowK a (i + 1) = (lowK a i).set i (a.getD i 0) := rfl
      generalize lowK a i = p at hll e1 ⊢
      have ca := getD_ati (l := a) (i := i) (by omega)
      repeat' (first|refine zw318 ?_|(refine ta_ ?_;intro _)|(refine zk0 ?_ ?_<;>intro ht)|fail)
      refine nx_round (i + 1) (by show i + 1 ≤ 16; omega) (by show 16 - (i + 1) < 16 - i; omega) ts_ (fun _ s => s)
    have ei : i = 16 := by omega
    subst ei
    have e1 : lowF a = (lowK a 16).set 16 (a.getD 16 0 % 4) := rfl
    generalize lowK a 16 = p at hll e1 ⊢
    have hdl := lowF_dig hda
    have hlf := lowF_len a
    generalize lowF a = lo at e1 hdl hlf hfr
    have ca := getD_ati (l := a) (i := 16) (by omega)
    have g16 := dig_get hda (by omega) 16
    have hr : (a.getD 16 0).tmod 4 = a.getD 16 0 % 4 := Int.tmod_eq_emod_of_nonneg (by omega)
    repeat' (first|refine zw319 ?_|(refine ta_ ?_;intro _)|(refine zk0 ?_ ?_<;>intro ht)|fail)
    refine cx_perm (L' := [Res.blk bh (.cells (upI (highK a 0)).toArray 184 (0, 0)), Res.blk bl (.cells (upI lo).toArray 184 (0, 0)), Res.blk br (.cells (upI zer34).toArray 184 (0, 0)), Res.blk ba (.cells (upI a).toArray 184 (0, 0))]) (.refl _) ?_
    refine cx_loop (X := Nat) (fun i => [(1, .pointer (some ⟨ba, 0, none⟩)), (2, .pointer (some ⟨br, 0, none⟩)), (3, .int .i64 (k : Nat)), (4, .pointer (some ⟨bl, 0, none⟩)), (5, .pointer (some ⟨bh, 0, none⟩)), (7, .int .i64 (i : Nat))]) (fun _ => h)
      (fun i => [Res.blk bh (.cells (upI (highK a i)).toArray 184 (0, 0)), Res.blk bl (.cells (upI lo).toArray 184 (0, 0)), Res.blk br (.cells (upI zer34).toArray 184 (0, 0)), Res.blk ba (.cells (upI a).toArray 184 (0, 0))]) (fun i => i ≤ 18) (fun i => 18 - i) 0 (Nat.zero_le _) ts_ (fun _ s => s) ?_
    intro i hi
    have hhl := highK_len a i
    by_cases hi18 : i < 18
    · have e1 : highK a (i + 1) = (highK a i).set i (a.getD (16 + i) 0 / 4 + a.getD (17 + i) 0 % 4 * 64) := rfl
      generalize highK a i = p at hhl e1 ⊢
      have ca := getD_ati (l := a) (i := 16 + i) (by omega)
      have g16 := dig_get hda (by omega) (16 + i)
      have g17 := dig_get hda (by omega) (17 + i)
      have hq : IntKind.i64.wrap ((a.getD (16 + i) 0).tdiv 4) = a.getD (16 + i) 0 / 4 := by
        rw [Int.tdiv_eq_ediv_of_nonneg (by omega)]
        exact wrap_i64 (by unfold I64; omega)
      obtain ⟨p1, ep⟩ : ∃ p1, p1 = p.set i (a.getD (16 + i) 0 / 4) := ⟨_, rfl⟩
      have hp1 : p1.length = 34 := by rw [ep, List.length_set, hhl]
      have cp : p1[i]? = some (a.getD (16 + i) 0 / 4) := by rw [ep, List.getElem?_set_self (by omega)]
      by_cases h17 : 17 + i < 34
      · have e2 : p1.set i (a.getD (16 + i) 0 / 4 + a.getD (17 + i) 0 % 4 * 64) = highK a (i + 1) := by rw [ep, List.set_set, e1]
        have cb := getD_ati (l := a) (i := 17 + i) (by omega)
        have hr : (a.getD (17 + i) 0).tmod 4 = a.getD (17 + i) 0 % 4 := Int.tmod_eq_emod_of_nonneg (by omega)
        repeat' (first|refine zw320 ?_|(refine ta_ ?_;intro _)|(refine zk0 ?_ ?_<;>intro ht)|fail)
        refine cx_region_draw' rfl (by kernel_rfl) ?_
        repeat' (first|refine zw321 ?_|(refine ycf ?_;(first|(refine zg0 ?_ ?_<;>intro ht)|(refine tb_ ?_ ?_ ?_;(·(exact to_));(·intro _;(exact to_));intro _)))|fail)
        repeat' (first|refine zw322 ?_|(refine ta_ ?_;intro _)|(refine zk0 ?_ ?_<;>intro ht)|fail)
        refine nx_round (i + 1) (by show i + 1 ≤ 18; omega) (by show 18 - (i + 1) < 18 - i; omega) ts_ (fun _ s => s)
      · have z : a.getD (17 + i) 0 = 0 := by rw [List.getD_eq_getElem?_getD, List.getElem?_eq_none (by omega)]; rfl
        have e2 : p.set i (a.getD (16 + i) 0 / 4) = highK a (i + 1) := by rw [e1, z]; simp
        repeat' (first|refine zw323 ?_|(refine ta_ ?_;intro _)|(refine zk0 ?_ ?_<;>intro ht)|fail)
        refine nx_round (i + 1) (by show i + 1 ≤ 18; omega) (by show 18 - (i + 1) < 18 - i; omega) ts_ (fun _ s => s)
    have ei : i = 18 := by omega
    subst ei
    have hdh := highK_dig hda 18
    generalize highK a 18 = hg at hhl hdh hfr ⊢
    repeat' (first|refine zw3 ?_|(refine ta_ ?_;intro _)|(refine zk0 ?_ ?_<;>intro ht)|fail)
    refine cx_perm (L' := [Res.blk bh (.cells (upI hg).toArray 184 (0, 0)), Res.blk bl (.cells (upI (addK lo hg 0)).toArray 184 (0, 0)), Res.blk br (.cells (upI zer34).toArray 184 (0, 0)), Res.blk ba (.cells (upI a).toArray 184 (0, 0))]) (.refl _) ?_
    refine cx_loop (X := Nat) (fun i => [(1, .pointer (some ⟨ba, 0, none⟩)), (2, .pointer (some ⟨br, 0, none⟩)), (3, .int .i64 (k : Nat)), (4, .pointer (some ⟨bl, 0, none⟩)), (5, .pointer (some ⟨bh, 0, none⟩)), (8, .int .i64 (i : Nat))]) (fun _ => h)
      (fun i => [Res.blk bh (.cells (upI hg).toArray 184 (0, 0)), Res.blk bl (.cells (upI (addK lo hg i)).toArray 184 (0, 0)), Res.blk br (.cells (upI zer34).toArray 184 (0, 0)), Res.blk ba (.cells (upI a).toArray 184 (0, 0))]) (fun i => i ≤ 34) (fun i => 34 - i) 0 (Nat.zero_le _) ts_ (fun _ s => s) ?_
    intro i hi
    have hal := addK_len lo hg i
    have hadd := addK_dig hdl hdh i
    by_cases hi34 : i < 34
    · have e1 : (addK lo hg i).set i ((addK lo hg i).getD i 0 + 5 * hg.getD i 0) = addK lo hg (i + 1) := rfl
      have g1 := dig_get hadd (by omega) i
      have g2 := dig_get hdh (by omega) i
      generalize addK lo hg i = p at hal e1 g1 ⊢
      have ca := getD_ati (l := p) (i := i) (by omega)
      have cb := getD_ati (l := hg) (i := i) (by omega)
      repeat' (first|refine zw3 ?_|(refine ta_ ?_;intro _)|(refine zk0 ?_ ?_<;>intro ht)|fail)
      refine cx_region_draw' rfl (by kernel_rfl) ?_
      repeat' (first|refine zw324 ?_|(refine ycf ?_;(first|(refine zg0 ?_ ?_<;>intro ht)|(refine tb_ ?_ ?_ ?_;(·(exact to_));(·intro _;(exact to_));intro _)))|fail)
      repeat' (first|refine zw325 ?_|(refine ta_ ?_;intro _)|(refine zk0 ?_ ?_<;>intro ht)|fail)
      refine nx_round (i + 1) (by show i + 1 ≤ 34; omega) (by show 34 - (i + 1) < 34 - i; omega) ts_ (fun _ s => s)
    have ei : i = 34 := by omega
    subst ei
    have C := rcarry_sp (addK lo hg 34) (rdF M) 1530 (by omega) hadd (by omega) hfr (rdF_lt hbd.1 hbd.2) h
    rw [← en] at C
    have hpl : (putLow 34 (rdI N (k + 1))).length = 34 := putLow_len _ _
    generalize addK lo hg 34 = p at hal C ⊢
    repeat' (first|refine zw326 ?_|(refine ta_ ?_;intro _)|(refine zk0 ?_ ?_<;>intro ht)|fail)
    (refine ycn (ycp Tryz.func129 rfl (by kernel_rfl) rfl) (C) rfl rfl rfl ?_ ?_; (· (exact to_)))
    repeat' (first|refine zw327 ?_|(refine ta_ ?_;intro _)|(refine zk0 ?_ ?_<;>intro ht)|fail)
    refine nx_round (k + 1) (by show k + 1 ≤ 4; omega) (by show 4 - (k + 1) < 4 - k; omega) ts_ (fun _ s => s.tl.tl)
  have ek : k = 4 := by omega
  subst ek
  have hlt := rdF4 h0 hN
  have hmod : rdI N 4 % 1361129467683753853853498429727072845819 = N % 1361129467683753853853498429727072845819 := (rdF_mod.trans (rdF_mod.trans (rdF_mod.trans rdF_mod)))
  have hlt : rdI N 4 < 1361129467683753853853498429727072845824 := hlt
  rw [← hmod]
  generalize rdI N 4 = M at hbd hlt ⊢
  have hda : ∀ x ∈ putLow 34 M, 0 ≤ x ∧ x ≤ 255 := pl255
  have hal : (putLow 34 M).length = 34 := putLow_len _ _
  have hval := vI_putLow 34 hbd.1 hbd.2
  have hls := lsK_val (a := putLow 34 M) (b := prD) (fun x hx => dig_put x hx) (fun x hx => by have := prD_dig x hx; omega) 34 (by omega) (by rw [prD_len]; omega)
  rw [List.take_of_length_le (by omega), List.take_of_length_le (by rw [prD_len]; omega), hval, prD_val] at hls
  have L1 := rless_sp (putLow 34 M) prD hal prD_len h
  rw [hls] at L1
  repeat' (first|refine zw3 ?_|(refine ta_ ?_;intro _)|(refine zk0 ?_ ?_<;>intro ht)|fail)
  (refine ycn (ycp Tryz.func141 rfl (by kernel_rfl) rfl) (rprime_sp h) rfl rfl rfl ?_ ?_; (· (exact to_)))
  repeat' (first|refine zw328 ?_|(refine ta_ ?_;intro _)|(refine zk0 ?_ ?_<;>intro ht)|fail)
  rename_i bp
  by_cases hM : M < 1361129467683753853853498429727072845819
  · rw [decide_eq_true hM] at L1
    rw [Int.emod_eq_of_lt hbd.1 hM]
    (refine ycn (ycp Tryz.func142 rfl (by kernel_rfl) rfl) (L1) rfl rfl rfl ?_ ?_; (· (exact to_)))
    repeat' (first|refine zw329 ?_|(refine ta_ ?_;intro _)|(refine zk0 ?_ ?_<;>intro ht)|fail)
    exact nx_ret1 rfl (rv_cells rfl (yaz 1 rfl) (by show (upI (putLow 34 M)).length = 34; rw [upI_len]; exact putLow_len _ _)) (fun w' s' => ⟨rfl, s'.nil⟩)
  · rw [decide_eq_false hM] at L1
    (refine ycn (ycp Tryz.func142 rfl (by kernel_rfl) rfl) (L1) rfl rfl rfl ?_ ?_; (· (exact to_)))
    repeat' (first|refine zw3 ?_|(refine ta_ ?_;intro _)|(refine zk0 ?_ ?_<;>intro ht)|fail)
    have ho := sbK_out (a := putLow 34 M) (p := prD) hal prD_len hda prD_dig (by rw [hval, prD_val]; omega)
    have hla := sbK_last (a := putLow 34 M) (p := prD) hal prD_len hda prD_dig (by rw [hval, prD_val]; omega)
    rw [hval, prD_val] at ho
    have hmm : M % 1361129467683753853853498429727072845819 = M - 1361129467683753853853498429727072845819 := by omega
    rw [hmm]
    generalize M - 1361129467683753853853498429727072845819 = X at ho ⊢
    generalize putLow 34 M = a at hda hal ho hla ⊢
    refine cx_perm (L' := [Res.blk bp (.cells (upI prD).toArray 184 (0, 0)), Res.blk br (.cells (upI zer34).toArray 184 (0, 0)), Res.blk ba (.cells (upI (sbK a prD 0)).toArray 184 (0, 0))]) (.refl _) ?_
    refine cx_loop (X := Nat) (fun i => [(1, .pointer (some ⟨ba, 0, none⟩)), (2, .pointer (some ⟨br, 0, none⟩)), (9, .pointer (some ⟨bp, 0, none⟩)), (10, .int .i64 (i : Nat))]) (fun _ => h)
      (fun i => [Res.blk bp (.cells (upI prD).toArray 184 (0, 0)), Res.blk br (.cells (upI zer34).toArray 184 (0, 0)), Res.blk ba (.cells (upI (sbK a prD i)).toArray 184 (0, 0))]) (fun i => i ≤ 34) (fun i => 34 - i) 0 (Nat.zero_le _) ts_ (fun _ s => s) ?_
    intro i hi
    by_cases hi34 : i < 34
    · have el := sbK_len a prD i
      have g1 := sbK_at (p := prD) hda i
      have g2 := dig_get prD_dig (by omega) i
      have g3 : sbK a prD (i + 1) = if (sbK a prD i).getD i 0 - prD.getD i 0 < 0 then ((sbK a prD i).set i ((sbK a prD i).getD i 0 - prD.getD i 0 + 256)).set (i + 1) ((sbK a prD i).getD (i + 1) 0 - 1) else (sbK a prD i).set i ((sbK a prD i).getD i 0 - prD.getD i 0) := rfl
      have hlast : i = 33 → 0 ≤ (sbK a prD i).getD i 0 - prD.getD i 0 := fun e => by rw [e]; exact hla
      have g4 : i < 33 → 0 ≤ (sbK a prD i).getD (i + 1) 0 ∧ (sbK a prD i).getD (i + 1) 0 ≤ 255 := fun _ => by rw [sbK_get a prD i (i + 1) (by omega)]; exact dig_get hda (by omega) _
      generalize sbK a prD i = p at el g1 g3 g4 hlast ⊢
      have ca := getD_ati (l := p) (i := i) (by omega)
      have cb := getD_ati (l := prD) (i := i) (by rw [prD_len]; omega)
      generalize hy : prD.getD i 0 = y at g2 g3 hlast cb
      obtain ⟨p1, ep⟩ : ∃ p1, p1 = p.set i (p.getD i 0 - y) := ⟨_, rfl⟩
      have hp1 : p1.length = 34 := by rw [ep, List.length_set]; omega
      have cp : p1[i]? = some (p.getD i 0 - y) := by rw [ep, List.getElem?_set_self (by omega)]
      repeat' (first|refine zw3 ?_|(refine ta_ ?_;intro _)|(refine zk0 ?_ ?_<;>intro ht)|fail)
      refine cx_region_draw' rfl (by kernel_rfl) ?_
      repeat' (first|refine zw330 ?_|(refine ycf ?_;(first|(refine zg0 ?_ ?_<;>intro ht)|(refine tb_ ?_ ?_ ?_;(·(exact to_));(·intro _;(exact to_));intro _)))|fail)
      by_cases hneg : p.getD i 0 - y < 0
      · rw [if_pos hneg] at g3
        have hi33 : i < 33 := by rcases (by omega : i < 33 ∨ i = 33) with h1 | h1; (· exact h1); (· exact absurd (hlast h1) (by omega))
        obtain ⟨p2, ep2⟩ : ∃ p2, p2 = p1.set i (p.getD i 0 - y + 256) := ⟨_, rfl⟩
        have hp2 : p2.length = 34 := by rw [ep2, List.length_set]; omega
        have cp2 : p2[i + 1]? = some (p.getD (i + 1) 0) := by
          rw [ep2, List.getElem?_set_ne (by omega), ep, List.getElem?_set_ne (by omega)]
          exact getD_ati (by omega)
        have e3 : p2.set (i + 1) (p.getD (i + 1) 0 - 1) = sbK a prD (i + 1) := by rw [g3, ep2, ep, List.set_set]
        have g5 := g4 hi33
        repeat' (first|refine zw331 ?_|(refine ta_ ?_;intro _)|(refine zk0 ?_ ?_<;>intro ht)|fail)
        repeat' (first|refine zw332 ?_|(refine ta_ ?_;intro _)|(refine zk0 ?_ ?_<;>intro ht)|fail)
        refine nx_round (i + 1) (by show i + 1 ≤ 34; omega) (by show 34 - (i + 1) < 34 - i; omega) ts_ (fun _ s => s)
      · rw [if_neg hneg] at g3
        repeat' (first|refine zw333 ?_|(refine ta_ ?_;intro _)|(refine zk0 ?_ ?_<;>intro ht)|fail)
        refine nx_round (i + 1) (by show i + 1 ≤ 34; omega) (by show 34 - (i + 1) < 34 - i; omega) ts_ (fun _ s => ?_)
        rw [g3, ← ep]
        exact s
    have ei : i = 34 := by omega
    subst ei
    rw [ho]
    repeat' (first|refine zw334 ?_|(refine ta_ ?_;intro _)|(refine zk0 ?_ ?_<;>intro ht)|fail)
    exact nx_ret1 rfl (rv_cells rfl (yaz 1 rfl) (by show (upI (putLow 34 X)).length = 34; rw [upI_len]; exact putLow_len _ _)) (fun w' s' => ⟨rfl, s'.nil⟩)
end Go.Proofs.YtgeepceieckooaaGreatDoor
end

section
namespace Go.Proofs.YtgeepceieckooaaGreatDoor
open Go Go.Ck
set_option maxHeartbeats 1000000
def padI (l : List Int) : List Int := l ++ List.replicate (34 - l.length) 0
theorem padI_len {l : List Int} (h : l.length ≤ 34) : (padI l).length = 34 := by simp [padI]; omega
theorem padI_set {l : List Int} {y : Int} {k : Nat} (hk : l.length = k) (h : k < 34) : (padI l).set k y = padI (l ++ [y]) := by
  subst hk
  unfold padI
  have e : 34 - l.length = (34 - (l.length + 1)) + 1 := by omega
  rw [e, List.replicate_succ, List.set_append_right _ _ (Nat.le_refl _), Nat.sub_self, List.set_cons_zero, List.length_append, List.length_singleton, List.append_assoc]
  rfl
def adS (h c : List Int) : Nat → List Int
  | 0 => h
  | k + 1 => (adS h c k).set k ((adS h c k).getD k 0 + c.getD k 0)
theorem adS_len (h c : List Int) : ∀ k, (adS h c k).length = h.length
  | 0 => rfl
  | k + 1 => by rw [adS, List.length_set, adS_len h c k]
theorem adS_get (h c : List Int) : ∀ (k j : Nat), k ≤ j → (adS h c k).getD j 0 = h.getD j 0
  | 0, j, _ => rfl
  | k + 1, j, hj => by rw [adS, getD_set_ne (by omega), adS_get h c k j (by omega)]
theorem adS_dig {h c : List Int} (hh : ∀ x ∈ h, 0 ≤ x ∧ x ≤ 255) (hc : ∀ x ∈ c, 0 ≤ x ∧ x ≤ 255) : ∀ k, ∀ x ∈ adS h c k, 0 ≤ x ∧ x ≤ 510
  | 0 => fun x hx => by have := hh x hx; omega
  | k + 1 => dig_set (adS_dig hh hc k) (by rw [adS_get h c k k (Nat.le_refl _)]; have h1 := dig_get hh (by omega) k; have h2 := dig_get hc (by omega) k; omega)
theorem adS_val (h c : List Int) : ∀ k, k ≤ h.length → k ≤ c.length → vI (adS h c k) = vI h + vI (c.take k)
  | 0, _, _ => by simp [adS, vI]
  | k + 1, h1, h2 => by
    rw [adS, vI_set _ (by rw [adS_len]; omega), adS_val h c k (by omega) (by omega), vI_take c k (by omega)]
    grind
def cvin (x : List Int) (hi : Int) (r : List Int) (i : Nat) : Nat → List Int
  | 0 => x
  | k + 1 => (cvin x hi r i k).set (i + k) ((cvin x hi r i k).getD (i + k) 0 + hi * r.getD k 0)
def cvout (h r : List Int) : Nat → List Int
  | 0 => zer34
  | i + 1 => cvin (cvout h r i) (h.getD i 0) r i 17
theorem cvin_len (x : List Int) (hi : Int) (r : List Int) (i : Nat) : ∀ k, (cvin x hi r i k).length = x.length
  | 0 => rfl
  | k + 1 => by rw [cvin, List.length_set, cvin_len x hi r i k]
theorem cvout_len (h r : List Int) : ∀ i, (cvout h r i).length = 34
  | 0 => rfl
  | i + 1 => by rw [cvout, cvin_len, cvout_len h r i]
theorem cvin_dig {x r : List Int} {hi B : Int} {i : Nat} (hx : ∀ y ∈ x, 0 ≤ y ∧ y ≤ B) (hr : ∀ y ∈ r, 0 ≤ y ∧ y ≤ 255) (hh : 0 ≤ hi ∧ hi ≤ 255) (hB : 0 ≤ B) : ∀ k : Nat, ∀ y ∈ cvin x hi r i k, 0 ≤ y ∧ y ≤ B + 65025 * k
  | 0 => fun y hy => by have := hx y hy; omega
  | k + 1 => fun y hy => by
    have ih := cvin_dig (i := i) hx hr hh hB k
    have h1 := dig_get ih (by omega) (i + k)
    have h2 := dig_get hr (by omega) k
    have h3 : 0 ≤ hi * r.getD k 0 := Int.mul_nonneg hh.1 h2.1
    have h4 : hi * r.getD k 0 ≤ 255 * 255 := Int.mul_le_mul hh.2 h2.2 h2.1 (by omega)
    refine dig_set (fun z hz => ?_) ?_ y hy
    · have := ih z hz; omega
    · omega
theorem cvout_dig {h r : List Int} (hh : ∀ y ∈ h, 0 ≤ y ∧ y ≤ 255) (hr : ∀ y ∈ r, 0 ≤ y ∧ y ≤ 255) : ∀ i : Nat, ∀ y ∈ cvout h r i, 0 ≤ y ∧ y ≤ 65025 * 17 * i
  | 0 => fun y hy => by have := List.eq_of_mem_replicate hy; omega
  | i + 1 => fun y hy => by
    have := cvin_dig (i := i) (cvout_dig hh hr i) hr (dig_get hh (by omega) i) (by omega) 17 y hy
    omega
theorem cvin_val {x r : List Int} {hi : Int} {i : Nat} (hx : x.length = 34) (hr : r.length = 34) (hi17 : i ≤ 17) : ∀ k, k ≤ 17 → vI (cvin x hi r i k) = vI x + 256 ^ i * (hi * vI (r.take k))
  | 0, _ => by simp [cvin, vI]
  | k + 1, hk => by
    rw [cvin, vI_set _ (by rw [cvin_len]; omega), cvin_val hx hr hi17 k (by omega), vI_take r k (by omega), Int.pow_add]
    grind
theorem cvout_val {h r : List Int} (hh : h.length = 34) (hr : r.length = 34) : ∀ i, i ≤ 17 → vI (cvout h r i) = vI (h.take i) * vI (r.take 17)
  | 0, _ => by show vI zer34 = _; rw [zer34, vI_zeros]; simp [vI]
  | i + 1, hi => by
    rw [cvout, cvin_val (cvout_len h r i) hr (by omega) 17 (Nat.le_refl _), cvout_val hh hr i (by omega), vI_take h i (by omega)]
    grind
theorem vI_app (a b : List Int) : vI (a ++ b) = vI a + 256 ^ a.length * vI b := by
  induction a with
  | nil => simp [vI]
  | cons x a ih =>
    simp only [List.cons_append, vI, ih, List.length_cons, Int.pow_succ]
    grind
theorem padI_take (l : List Int) (h : l.length = 16) : vI ((padI l).take 17) = vI l := by
  have e : (padI l).take 17 = l ++ [0] := by
    unfold padI
    rw [List.take_append, List.take_of_length_le (by omega), h]
    rfl
  rw [e, vI_app]
  simp [vI]
theorem putLow_take : ∀ (m n : Nat) (x : Int), m ≤ n → (putLow n x).take m = putLow m x
  | 0, n, x, _ => by simp [putLow]
  | m + 1, n + 1, x, h => by
    rw [putLow, List.take_succ_cons, putLow_take m n _ (by omega), putLow]
theorem vI_put_take {x : Int} (h0 : 0 ≤ x) (h1 : x < 256 ^ 17) : vI ((putLow 34 x).take 17) = x := by
  rw [putLow_take 17 34 x (by omega), vI_putLow 17 h0 h1]
theorem clampB_bd {i : Nat} {c : Int} (h : 0 ≤ c ∧ c < 256) : 0 ≤ clampB i c ∧ clampB i c ≤ 255 := by
  unfold clampB
  dsimp only
  split <;> split <;> omega
theorem clampL_by {key : List Int} (hk : Bytes key) : ∀ k, Bytes (clampL key k)
  | 0 => fun x hx => by cases hx
  | k + 1 => fun x hx => by
    rcases List.mem_append.1 hx with hx | hx
    · exact clampL_by hk k x hx
    · rw [List.mem_singleton.1 hx]
      have := clampB_bd (i := k) (getD_mem' (P := fun x => 0 ≤ x ∧ x < 256) hk (by decide) k)
      omega
theorem padI_dig {l : List Int} (hb : Bytes l) : ∀ x ∈ padI l, 0 ≤ x ∧ x ≤ 255 := fun x hx => by
  rcases List.mem_append.1 hx with hx | hx
  · have := hb x hx; omega
  · have := List.eq_of_mem_replicate hx; omega
theorem tagV_step (r : Nat) (b : List Int) (k : Nat) : ((tagV r b (k + 1) : Nat) : Int) = (((tagV r b k : Nat) : Int) + ((vN ((b.drop (16 * k)).take 16) : Nat) : Int) + 256 ^ ((b.drop (16 * k)).take 16).length) * (r : Int) % 1361129467683753853853498429727072845819 := by
  rw [tagV]
  have e : ((pP : Nat) : Int) = 1361129467683753853853498429727072845819 := rfl
  rw [Int.natCast_emod, e, Int.natCast_mul, Int.natCast_add, Int.natCast_add, Int.natCast_pow, Int.add_assoc]
  rfl
end Go.Proofs.YtgeepceieckooaaGreatDoor
end
