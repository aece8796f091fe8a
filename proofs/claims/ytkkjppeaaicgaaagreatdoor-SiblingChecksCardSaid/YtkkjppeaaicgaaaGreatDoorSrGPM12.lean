/-
  Part 12 of a proof: SbI SbJ SbK SbL.
  Conditions: each theorem states its own.
-/
import Derived.Test.YtkkjppeaaicgaaaGreatDoorSrGPM11
section
namespace Go.Proofs.YtkkjppeaaicgaaaGreatDoor
open Go Go.Ck
set_option maxRecDepth 100000
set_option maxHeartbeats 4000000
set_option linter.unusedVariables false
def seg (l : List Sb) (d t : Nat) : List Sb := (l.drop d).take t
theorem dvd_add_le {k d a : Nat} (h1 : k ∣ d) (h2 : k ∣ a) (h : d < a) : d + k ≤ a := by
  have := Nat.le_of_dvd (by omega) (Nat.dvd_sub h2 h1)
  omega
theorem seg_same {P C D Q : List Sb} {d t : Nat} (hl : C.length = D.length) (h : d + t ≤ P.length ∨ P.length + C.length ≤ d) : seg (P ++ (C ++ Q)) d t = seg (P ++ (D ++ Q)) d t := by
  unfold seg
  rcases h with h | h
  · rw [List.drop_append_of_le_length (by omega), List.drop_append_of_le_length (by omega), List.take_append_of_le_length (by simp; omega), List.take_append_of_le_length (by simp; omega)]
  · rw [← List.append_assoc, ← List.append_assoc]
    have e1 : d = (P ++ C).length + (d - (P ++ C).length) := by simp; omega
    have e2 : d = (P ++ D).length + (d - (P ++ D).length) := by simp; omega
    rw [e1, List.drop_length_add_append, ← e1]
    conv => rhs; rw [e2, List.drop_length_add_append]
    congr 2
    simp; omega
theorem seg_mid {P C Q : List Sb} {t : Nat} (h : t = C.length ∨ (C.length ≤ t ∧ Q = [])) : seg (P ++ (C ++ Q)) P.length t = C := by
  unfold seg
  rw [List.drop_left]
  rcases h with rfl | ⟨h, rfl⟩
  · exact List.take_left
  · rw [List.append_nil, List.take_of_length_le h]
theorem seg_split (l : List Sb) (a b : Nat) (h : a ≤ b) : l = l.take a ++ (seg l a (b - a) ++ l.drop b) := by
  unfold seg
  have : l.drop b = (l.drop a).drop (b - a) := by rw [List.drop_drop]; congr 1; omega
  rw [this, List.take_append_drop, List.take_append_drop]
theorem seg_len {l : List Sb} {d t : Nat} (h : d + t ≤ l.length) : (seg l d t).length = t := by unfold seg; simp; omega
theorem seg_nil {l : List Sb} {d t : Nat} (h : l.length ≤ d) : seg l d t = [] := by unfold seg; rw [List.drop_eq_nil_of_le h, List.take_nil]
theorem seg_split2 (l : List Sb) (a b c : Nat) (h : a ≤ b) (h2 : b ≤ c) : l = l.take a ++ (seg l a (b - a) ++ (seg l b (c - b) ++ l.drop c)) := by
  have e1 := seg_split l a b h
  have e2 : l.drop b = seg l b (c - b) ++ l.drop c := by
    unfold seg
    have : l.drop c = (l.drop b).drop (c - b) := by rw [List.drop_drop]; congr 1; omega
    rw [this, List.take_append_drop]
  rw [← e2, ← e1]
theorem seg_mem {l : List Sb} {d t : Nat} {x : Sb} (h : x ∈ seg l d t) : x ∈ l := List.mem_of_mem_drop (List.mem_of_mem_take h)
def Runs (k : Nat) (l : List Sb) : Prop := ∀ d, k ∣ d → SortS (seg l d k)
theorem stable_sp (g cap m : Nat) (l : List Sb) (hm : l.length = m) (hm62 : m ≤ 100000) (h1 : Ones l) (h : View) (w : World) (s : St ⟨w, h, doms [rowS g cap m l]⟩ h [rowS g cap m l] w) :
    Calls Tryz.prog 120 [.slice (some ⟨g, 0, none⟩) m cap, .int .i64 m, ordV].toArray w fun e w' => ∃ x : Value × List Sb, e = .returned x.1 ∧ St ⟨w, h, doms [rowS g cap m l]⟩ h [rowS g cap m x.2] w' ∧ KF l x.2 ∧ SortS x.2 := by
  have ones : ∀ {cur : List Sb}, KF l cur → Ones cur := fun kf x hx => h1 x ((kf.mem x).2 hx)
  refine calls_enter Tryz.func120 rfl Tryz.ntmps120 rfl s ?_
  repeat' (first|refine tw_ ?_|(refine ta_ ?_;intro _)|((fail_if_success (refine ybi rfl ?_));refine ybj rfl ?_ ?_<;>(intro ht;rw [ht];first|replace ht := oet_ ht|replace ht := oef_ ht|skip))|(refine ych ?_;first|(refine ybw rfl ?_ ?_<;>intro ht)|(refine ybx rfl ?_ ?_<;>intro ht)))
  refine cx_loop (X := Nat × List Sb) (fun x => [(0, .slice (some ⟨g, 0, none⟩) m cap), (1, .int .i64 m), (2, ordV), (6, .int .i64 20), (7, .int .i64 (x.1 : Nat)), (8, .int .i64 (x.1 + 20 : Nat))]) (fun _ => h) (fun x => [rowS g cap m x.2])
    (fun x => x.1 ≤ m ∧ 20 ∣ x.1 ∧ KF l x.2 ∧ ∀ d, 20 ∣ d → d < x.1 → SortS (seg x.2 d 20)) (fun x => m - x.1) (0, l) ⟨Nat.zero_le _, ⟨0, rfl⟩, KF.refl _, fun d _ hd => by cases hd⟩ ts_ (fun _ s => s) ?_
  rintro ⟨a, cur⟩ ⟨ha, hda, kf, hrun⟩
  dsimp only at ha hda kf hrun ⊢
  have hcl : cur.length = m := by rw [← kf.len, hm]
  have step : ∀ b cur', a ≤ b → b ≤ m → b ≤ a + 20 → (b = a + 20 ∨ b = m) → InsR cur a b cur' → KF l cur' ∧ ∀ d, 20 ∣ d → d < a + 20 → SortS (seg cur' d 20) := fun b cur' h1 h2 h3 h4 hr => by
    obtain ⟨S, hSl, k1, t1, rfl⟩ := hr
    have hs := seg_split cur a b h1
    have hsl : (seg cur a (b - a)).length = b - a := seg_len (by omega)
    have hpl : (cur.take a).length = a := by simp; omega
    have hseg : (cur.take b).drop a = seg cur a (b - a) := by unfold seg; rw [List.drop_take]
    rw [hseg] at k1
    refine ⟨kf.trans ?_, fun d hd hda' => ?_⟩
    · conv => lhs; rw [hs]
      exact (KF.refl _).app (k1.app (KF.refl _))
    · by_cases hlt : d < a
      · have := dvd_add_le hd hda hlt
        rw [seg_same (D := seg cur a (b - a)) (by omega) (.inl (by omega)), ← hs]
        exact hrun d hd hlt
      · have hd2 : d = a := by
          by_cases e : d = a
          · exact e
          · have := dvd_add_le hda hd (by omega); omega
        subst hd2
        have := seg_mid (P := cur.take d) (C := S) (Q := cur.drop b) (t := 20) (by
          rcases h4 with h4 | h4
          · left; omega
          · right; exact ⟨by omega, List.drop_eq_nil_of_le (by omega)⟩)
        rw [hpl] at this
        rw [this]
        exact t1
  by_cases hb : a + 20 ≤ m
  · repeat' (first|(refine ycf ?_;apply ybk;(·first|(exact tk_));(·rfl);(·rfl))|refine t1_ ?_|(refine ta_ ?_;intro _)|((fail_if_success (refine ybi rfl ?_));refine ybj rfl ?_ ?_<;>(intro ht;rw [ht];first|replace ht := oet_ ht|replace ht := oef_ ht|skip))|(refine ych ?_;first|(refine ybw rfl ?_ ?_<;>intro ht)|(refine ybx rfl ?_ ?_<;>intro ht)))
    (refine rx_call_m (ycp Tryz.func124 rfl (by kernel_rfl) rfl) (perm_at (k := 0) rfl) (insSort_sp g cap m a (a + 20) cur hcl (by omega) hb (by omega) (ones kf) h) rfl rfl rfl ?_ ?_ ?_; (· (exact to_)); (· intro _ _ hle; (exact to_)); intro x px hle)
    obtain ⟨q1, q2⟩ := step (a + 20) x.2 (by omega) hb (by omega) (.inl rfl) px
    repeat' (first|(refine ycf ?_;apply ybk;(·first|(exact tk_));(·rfl);(·rfl))|refine t1_ ?_|(refine ta_ ?_;intro _)|((fail_if_success (refine ybi rfl ?_));refine ybj rfl ?_ ?_<;>(intro ht;rw [ht];first|replace ht := oet_ ht|replace ht := oef_ ht|skip))|(refine ych ?_;first|(refine ybw rfl ?_ ?_<;>intro ht)|(refine ybx rfl ?_ ?_<;>intro ht)))
    exact nx_round (a + 20, x.2) ⟨hb, by show 20 ∣ a + 20;omega, q1, q2⟩ (by show m - (a + 20) < m - a;omega) (by repeat' (first|exact Sub.nil | refine Sub.cons rfl rfl ?_ | refine Sub.cons rfl (congrArg (Value.int .i64) (by dsimp only;omega)) ?_)) (fun _ s => s)
  · repeat' (first|(refine ycf ?_;apply ybk;(·first|(exact tk_));(·rfl);(·rfl))|refine t1_ ?_|(refine ta_ ?_;intro _)|((fail_if_success (refine ybi rfl ?_));refine ybj rfl ?_ ?_<;>(intro ht;rw [ht];first|replace ht := oet_ ht|replace ht := oef_ ht|skip))|(refine ych ?_;first|(refine ybw rfl ?_ ?_<;>intro ht)|(refine ybx rfl ?_ ?_<;>intro ht)))
    (refine rx_call_m (ycp Tryz.func124 rfl (by kernel_rfl) rfl) (perm_at (k := 0) rfl) (insSort_sp g cap m a m cur hcl ha (Nat.le_refl _) (by omega) (ones kf) h) rfl rfl rfl ?_ ?_ ?_; (· (exact to_)); (· intro _ _ hle; (exact to_)); intro x px hle)
    obtain ⟨q1, q2⟩ := step m x.2 ha (Nat.le_refl _) (by omega) (.inr rfl) px
    have hx2 : x.2.length = m := by rw [← q1.len, hm]
    have hR : Runs 20 x.2 := fun d hd => by
      by_cases hd2 : d < a + 20
      · exact q2 d hd hd2
      · rw [seg_nil (by omega)]; exact List.Pairwise.nil
    generalize x.2 = cur0 at q1 hR hx2 ⊢
    clear px q2 step hrun kf hcl
    repeat' (first|(refine ycf ?_;apply ybk;(·first|(exact tk_));(·rfl);(·rfl))|refine t1_ ?_|(refine ta_ ?_;intro _)|((fail_if_success (refine ybi rfl ?_));refine ybj rfl ?_ ?_<;>(intro ht;rw [ht];first|replace ht := oet_ ht|replace ht := oef_ ht|skip))|(refine ych ?_;first|(refine ybw rfl ?_ ?_<;>intro ht)|(refine ybx rfl ?_ ?_<;>intro ht)))
    refine cx_loop (X := Nat × List Sb) (fun x => [(0, .slice (some ⟨g, 0, none⟩) m cap), (1, .int .i64 m), (2, ordV), (6, .int .i64 (x.1 : Nat))]) (fun _ => h) (fun x => [rowS g cap m x.2])
      (fun x => 0 < x.1 ∧ x.1 ≤ 200000 ∧ KF l x.2 ∧ Runs x.1 x.2) (fun x => m - x.1) (20, cur0) ⟨(by show 0 < 20; decide), (by show 20 ≤ 200000; decide), q1, hR⟩ ts_ (fun _ s => s) ?_
    clear hR q1 hx2
    rintro ⟨bs, cur⟩ ⟨hb0, hb2, kf, hR⟩
    dsimp only at hb0 hb2 kf hR ⊢
    have hcl : cur.length = m := by rw [← kf.len, hm]
    by_cases hlt : bs < m
    · have hmul : IntKind.i64.wrap (2 * (bs : Int)) = ((2 * bs : Nat) : Int) := by rw [IntKind.wrap_i64]; omega
      have hmul' : IntKind.i64.wrap ((bs : Int) * 2) = ((2 * bs : Nat) : Int) := by rw [IntKind.wrap_i64]; omega
      repeat' (first|(refine ycf ?_;apply ybk;(·first|(first|exact tk_|(exact qv_mul' rfl rfl hmul)|(exact qv_mul' rfl rfl hmul')));(·rfl);(·rfl))|refine t1_ ?_|(refine ta_ ?_;intro _)|((fail_if_success (refine ybi rfl ?_));refine ybj rfl ?_ ?_<;>(intro ht;rw [ht];first|replace ht := oet_ ht|replace ht := oef_ ht|skip))|(refine ych ?_;first|(refine ybw rfl ?_ ?_<;>intro ht)|(refine ybx rfl ?_ ?_<;>intro ht)))
      refine cx_loop (X := Nat × List Sb) (fun x => [(0, .slice (some ⟨g, 0, none⟩) m cap), (1, .int .i64 m), (2, ordV), (6, .int .i64 (bs : Nat)), (7, .int .i64 (x.1 : Nat)), (8, .int .i64 (x.1 + 2 * bs : Nat))]) (fun _ => h) (fun x => [rowS g cap m x.2])
        (fun x => x.1 ≤ m ∧ 2 * bs ∣ x.1 ∧ KF l x.2 ∧ (∀ d, 2 * bs ∣ d → d < x.1 → SortS (seg x.2 d (2 * bs))) ∧ ∀ d, bs ∣ d → x.1 ≤ d → SortS (seg x.2 d bs)) (fun x => m - x.1) (0, cur) ⟨Nat.zero_le _, ⟨0, rfl⟩, kf, ⟨fun d _ hd => absurd hd (Nat.not_lt_zero _), fun d hd _ => hR d hd⟩⟩
        (by repeat' (first|exact Sub.nil|refine Sub.cons rfl rfl ?_|refine Sub.cons rfl (congrArg (Value.int .i64) (by dsimp only;omega)) ?_)) (fun _ s => s) ?_
      clear hR kf hcl cur
      rintro ⟨a, cur⟩ ⟨ha, hda, kf, hr1, hr2⟩
      dsimp only at ha hda kf hr1 hr2 ⊢
      have hcl : cur.length = m := by rw [← kf.len, hm]
      have hda1 : bs ∣ a := Nat.dvd_trans ⟨2, by rw [Nat.mul_comm]⟩ hda
      have step : ∀ c C, a + bs ≤ c → c ≤ m → c ≤ a + 2 * bs → (c = a + 2 * bs ∨ c = m) → KF (seg cur a bs ++ seg cur (a + bs) (c - (a + bs))) C → SortS C →
          KF l (cur.take a ++ (C ++ cur.drop c)) ∧ (∀ d, 2 * bs ∣ d → d < a + 2 * bs → SortS (seg (cur.take a ++ (C ++ cur.drop c)) d (2 * bs))) ∧ (∀ d, bs ∣ d → a + 2 * bs ≤ d → SortS (seg (cur.take a ++ (C ++ cur.drop c)) d bs)) := fun c C h1 h2 h3 h4 k1 t1 => by
        have hs := seg_split2 cur a (a + bs) c (by omega) h1
        rw [show a + bs - a = bs by omega, ← List.append_assoc (seg cur a bs)] at hs
        have hlen := k1.len
        have hpl : (cur.take a).length = a := by simp; omega
        have hDl : (seg cur a bs ++ seg cur (a + bs) (c - (a + bs))).length = c - a := by
          rw [List.length_append, seg_len (by omega), seg_len (by omega)]; omega
        generalize seg cur a bs ++ seg cur (a + bs) (c - (a + bs)) = D at hs hlen hDl k1
        refine ⟨kf.trans ?_, fun d hd hda' => ?_, fun d hd hda' => ?_⟩
        · conv => lhs; rw [hs]
          exact (KF.refl _).app (k1.app (KF.refl _))
        · by_cases hlt : d < a
          · have := dvd_add_le hd hda hlt
            rw [seg_same (D := D) hlen.symm (.inl (by omega)), ← hs]
            exact hr1 d hd hlt
          · have hd2 : d = a := by
              by_cases e : d = a
              · exact e
              · have := dvd_add_le hda hd (by omega); omega
            subst hd2
            have := seg_mid (P := cur.take d) (C := C) (Q := cur.drop c) (t := 2 * bs) (by
              rcases h4 with h4 | h4
              · left; omega
              · right; exact ⟨by omega, List.drop_eq_nil_of_le (by omega)⟩)
            rw [hpl] at this
            rw [this]
            exact t1
        · rw [seg_same (D := D) hlen.symm (.inr (by omega)), ← hs]
          exact hr2 d hd (by omega)
      have sA : SortS (seg cur a bs) := hr2 a hda1 (Nat.le_refl _)
      have oo : ∀ d t, Ones (seg cur d t) := fun d t x hx => ones kf x (seg_mem hx)
      by_cases hb : a + 2 * bs ≤ m
      · have sB : SortS (seg cur (a + bs) (a + 2 * bs - (a + bs))) := by
          rw [show a + 2 * bs - (a + bs) = bs by omega]
          exact hr2 (a + bs) (Nat.dvd_add hda1 (Nat.dvd_refl _)) (by omega)
        have lA : (seg cur a bs).length = bs := seg_len (by omega)
        have lB : (seg cur (a + bs) (a + 2 * bs - (a + bs))).length = bs := by rw [seg_len (by omega)]; omega
        have hs := seg_split2 cur a (a + bs) (a + 2 * bs) (by omega) (by omega)
        rw [show a + bs - a = bs by omega] at hs
        have hstep := step (a + 2 * bs)
        repeat' (first|(refine ycf ?_;apply ybk;(·first|(first|exact tk_|(exact qv_mul' rfl rfl hmul)|(exact qv_mul' rfl rfl hmul')));(·rfl);(·rfl))|refine t1_ ?_|(refine ta_ ?_;intro _)|((fail_if_success (refine ybi rfl ?_));refine ybj rfl ?_ ?_<;>(intro ht;rw [ht];first|replace ht := oet_ ht|replace ht := oef_ ht|skip))|(refine ych ?_;first|(refine ybw rfl ?_ ?_<;>intro ht)|(refine ybx rfl ?_ ?_<;>intro ht)))
        (refine rx_call_m (ycp Tryz.func125 rfl (by kernel_rfl) rfl) (perm_at (k := 0) rfl) (symm_sp (a + 2 * bs - a) g cap m a (a + bs) (a + 2 * bs) _ _ _ (cur.take a) _ _ (cur.drop (a + 2 * bs)) cur hs (Nat.le_refl _) rfl (by omega) rfl (by simp; omega) (by omega) (by omega) (by simp; omega) (by omega) (by omega) (by omega) sA sB (oo _ _) (oo _ _) h) rfl rfl rfl ?_ ?_ ?_; (· (exact to_)); (· intro _ _ hle; (exact to_)); intro x px hle)
        obtain ⟨z1, z2, z3⟩ := hstep x.2 (by omega) hb (by omega) (.inl rfl) px.1 px.2
        repeat' (first|(refine ycf ?_;apply ybk;(·first|(first|exact tk_|(exact qv_mul' rfl rfl hmul)|(exact qv_mul' rfl rfl hmul')));(·rfl);(·rfl))|refine t1_ ?_|(refine ta_ ?_;intro _)|((fail_if_success (refine ybi rfl ?_));refine ybj rfl ?_ ?_<;>(intro ht;rw [ht];first|replace ht := oet_ ht|replace ht := oef_ ht|skip))|(refine ych ?_;first|(refine ybw rfl ?_ ?_<;>intro ht)|(refine ybx rfl ?_ ?_<;>intro ht)))
        exact nx_round (a + 2 * bs, _) ⟨hb, Nat.dvd_add hda (Nat.dvd_refl _), z1, z2, z3⟩ (by show m - (a + 2 * bs) < m - a;omega) (by repeat' (first|exact Sub.nil|refine Sub.cons rfl rfl ?_|refine Sub.cons rfl (congrArg (Value.int .i64) (by dsimp only;omega)) ?_)) (fun _ s => s)
      · have fin : ∀ cur', KF l cur' → (∀ d, 2 * bs ∣ d → d < a + 2 * bs → SortS (seg cur' d (2 * bs))) → Runs (2 * bs) cur' := fun cur' k1 h1 d hd => by
          by_cases hd2 : d < a + 2 * bs
          · exact h1 d hd hd2
          · rw [seg_nil (by rw [← k1.len]; omega)]; exact List.Pairwise.nil
        by_cases hb3 : a + bs < m
        · have sB : SortS (seg cur (a + bs) (m - (a + bs))) := by
            have := hr2 (a + bs) (Nat.dvd_add hda1 (Nat.dvd_refl _)) (by omega)
            unfold seg at this ⊢
            rw [List.take_of_length_le (by simp; omega)] at this
            rw [List.take_of_length_le (by simp; omega)]
            exact this
          have lA : (seg cur a bs).length = bs := seg_len (by omega)
          have lB : (seg cur (a + bs) (m - (a + bs))).length = m - (a + bs) := seg_len (by omega)
          have hs := seg_split2 cur a (a + bs) m (by omega) (by omega)
          rw [show a + bs - a = bs by omega] at hs
          have hstep := step m
          repeat' (first|(refine ycf ?_;apply ybk;(·first|(first|exact tk_|(exact qv_mul' rfl rfl hmul)|(exact qv_mul' rfl rfl hmul')));(·rfl);(·rfl))|refine t1_ ?_|(refine ta_ ?_;intro _)|((fail_if_success (refine ybi rfl ?_));refine ybj rfl ?_ ?_<;>(intro ht;rw [ht];first|replace ht := oet_ ht|replace ht := oef_ ht|skip))|(refine ych ?_;first|(refine ybw rfl ?_ ?_<;>intro ht)|(refine ybx rfl ?_ ?_<;>intro ht)))
          (refine rx_call_m (ycp Tryz.func125 rfl (by kernel_rfl) rfl) (perm_at (k := 0) rfl) (symm_sp (m - a) g cap m a (a + bs) m _ _ _ (cur.take a) _ _ (cur.drop m) cur hs (Nat.le_refl _) rfl (by omega) rfl (by simp; omega) (by omega) (by omega) (by simp; omega) (by omega) (by omega) (by omega) sA sB (oo _ _) (oo _ _) h) rfl rfl rfl ?_ ?_ ?_; (· (exact to_)); (· intro _ _ hle; (exact to_)); intro x px hle)
          obtain ⟨z1, z2, z3⟩ := hstep x.2 (by omega) (Nat.le_refl _) (by omega) (.inr rfl) px.1 px.2
          repeat' (first|(refine ycf ?_;apply ybk;(·first|(first|exact tk_|(exact qv_mul' rfl rfl hmul)|(exact qv_mul' rfl rfl hmul')));(·rfl);(·rfl))|refine t1_ ?_|(refine ta_ ?_;intro _)|((fail_if_success (refine ybi rfl ?_));refine ybj rfl ?_ ?_<;>(intro ht;rw [ht];first|replace ht := oet_ ht|replace ht := oef_ ht|skip))|(refine ych ?_;first|(refine ybw rfl ?_ ?_<;>intro ht)|(refine ybx rfl ?_ ?_<;>intro ht)))
          exact nx_round (2 * bs, _) ⟨by show 0 < 2 * bs;omega, by show 2 * bs ≤ 200000;omega, z1, fin _ z1 z2⟩ (by show m - 2 * bs < m - bs;omega) (by repeat' (first|exact Sub.nil|refine Sub.cons rfl rfl ?_|refine Sub.cons rfl (congrArg (Value.int .i64) (by dsimp only;omega)) ?_)) (fun _ s => s)
        · repeat' (first|(refine ycf ?_;apply ybk;(·first|(first|exact tk_|(exact qv_mul' rfl rfl hmul)|(exact qv_mul' rfl rfl hmul')));(·rfl);(·rfl))|refine t1_ ?_|(refine ta_ ?_;intro _)|((fail_if_success (refine ybi rfl ?_));refine ybj rfl ?_ ?_<;>(intro ht;rw [ht];first|replace ht := oet_ ht|replace ht := oef_ ht|skip))|(refine ych ?_;first|(refine ybw rfl ?_ ?_<;>intro ht)|(refine ybx rfl ?_ ?_<;>intro ht)))
          refine nx_round (2 * bs, cur) ⟨by show 0 < 2 * bs;omega, by show 2 * bs ≤ 200000;omega, kf, fin _ kf fun d hd hd2 => ?_⟩ (by show m - 2 * bs < m - bs;omega) (by repeat' (first|exact Sub.nil|refine Sub.cons rfl rfl ?_|refine Sub.cons rfl (congrArg (Value.int .i64) (by dsimp only;omega)) ?_)) (fun _ s => s)
          by_cases hd3 : d < a
          · exact hr1 d hd hd3
          · have hd4 : d = a := by
              by_cases e : d = a
              · exact e
              · have := dvd_add_le hda hd (by omega); omega
            subst hd4
            unfold seg at sA ⊢
            rw [List.take_of_length_le (by simp; omega)] at sA ⊢
            exact sA
    · repeat' (first|(refine ycf ?_;apply ybk;(·first|(first|exact tk_|(exact qv_mul' rfl rfl hmul)|(exact qv_mul' rfl rfl hmul')));(·rfl);(·rfl))|refine t1_ ?_|(refine ta_ ?_;intro _)|((fail_if_success (refine ybi rfl ?_));refine ybj rfl ?_ ?_<;>(intro ht;rw [ht];first|replace ht := oet_ ht|replace ht := oef_ ht|skip))|(refine ych ?_;first|(refine ybw rfl ?_ ?_<;>intro ht)|(refine ybx rfl ?_ ?_<;>intro ht)))
      refine nx_end0 rfl (fun w' s' => ⟨(_, cur), rfl, s', kf, ?_⟩)
      have := hR 0 ⟨0, rfl⟩
      unfold seg at this
      rwa [List.drop_zero, List.take_of_length_le (by omega)] at this
theorem sortStable_sp (g cap m : Nat) (l : List Sb) (hm : l.length = m) (hm62 : m ≤ 100000) (h1 : Ones l) (h : View) (w : World) (s : St ⟨w, h, doms [rowS g cap m l]⟩ h [rowS g cap m l] w) :
    Calls Tryz.prog 101 [.slice (some ⟨g, 0, none⟩) m cap, ordV].toArray w fun e w' => ∃ x : Value × List Sb, e = .returned x.1 ∧ St ⟨w, h, doms [rowS g cap m l]⟩ h [rowS g cap m x.2] w' ∧ KF l x.2 ∧ SortS x.2 := by
  refine calls_enter Tryz.func101 rfl Tryz.ntmps101 rfl s ?_
  repeat' (first|(refine ycf ?_;apply ybk;(·first|(first|exact tk_|(exact qv_mul' rfl rfl hmul)|(exact qv_mul' rfl rfl hmul')));(·rfl);(·rfl))|refine t1_ ?_|(refine ta_ ?_;intro _)|((fail_if_success (refine ybi rfl ?_));refine ybj rfl ?_ ?_<;>(intro ht;rw [ht];first|replace ht := oet_ ht|replace ht := oef_ ht|skip))|(refine ych ?_;first|(refine ybw rfl ?_ ?_<;>intro ht)|(refine ybx rfl ?_ ?_<;>intro ht)))
  (refine rx_call_m (ycp Tryz.func120 rfl (by kernel_rfl) rfl) (perm_at (k := 0) rfl) (stable_sp g cap m l hm hm62 h1 h) rfl rfl rfl ?_ ?_ ?_; (· (exact to_)); (· intro _ _ hle; (exact to_)); intro x px hle)
  repeat' (first|(refine ycf ?_;apply ybk;(·first|(first|exact tk_|(exact qv_mul' rfl rfl hmul)|(exact qv_mul' rfl rfl hmul')));(·rfl);(·rfl))|refine t1_ ?_|(refine ta_ ?_;intro _)|((fail_if_success (refine ybi rfl ?_));refine ybj rfl ?_ ?_<;>(intro ht;rw [ht];first|replace ht := oet_ ht|replace ht := oef_ ht|skip))|(refine ych ?_;first|(refine ybw rfl ?_ ?_<;>intro ht)|(refine ybx rfl ?_ ?_<;>intro ht)))
  exact nx_end0 rfl (fun w' s' => ⟨(_, x.2), rfl, s', px⟩)
end Go.Proofs.YtkkjppeaaicgaaaGreatDoor
end

section
namespace Go.Proofs.YtkkjppeaaicgaaaGreatDoor
open Go Go.Ck
set_option maxRecDepth 100000
set_option maxHeartbeats 4000000
set_option linter.unusedVariables false
abbrev rowX (v : Value) (l : List Sb) : Res := Res.row 57 20 v l.length (l.flatMap sbc)
theorem one_sb {h : View} {l : List Sb} (hs : ∀ x ∈ l, Sv h x) : ∀ u ∈ l.flatMap sbc, u.oneCell' = true := fun u hu => by
  obtain ⟨x, hx, hu⟩ := List.mem_flatMap.1 hu
  have := sbc_one (s := x) (hs x hx).one.1 (hs x hx).one.2
  exact List.all_eq_true.1 this u hu
theorem sGrow_sp (m : Nat) (hm : m ≤ 1000000) (h : View) (w : World) (s : St ⟨w, h, []⟩ h [] w) :
    Calls Tryz.prog 119 [.slice none 0 0, .int .i64 m].toArray w fun e w' => ∃ v, e = .returned v ∧ St ⟨w, h, []⟩ h [rowX v []] w' ∧ True := by
  refine calls_enter Tryz.func119 rfl Tryz.ntmps119 rfl s ?_
  repeat' (first|(refine ycf ?_;apply ybk;(·first|(first|(apply qv_cap;rfl)|(apply qv_slice_to;(·rfl);(·rfl);(·omega);(·omega))));(·rfl);(·rfl))|refine t1_ ?_|(refine ta_ ?_;intro _)|((fail_if_success (refine ybi rfl ?_));refine ybj rfl ?_ ?_<;>(intro ht;rw [ht];first|replace ht := oet_ ht|replace ht := oef_ ht|skip))|(refine ych ?_;first|(refine ybw rfl ?_ ?_<;>intro ht)|(refine ybx rfl ?_ ?_<;>intro ht)))
  · refine rx_row 57 20 ?_
    have hm0 : 0 < m := by omega
    have e1 : (m : Int) - (((0 : Nat) : Int) - ((0 : Nat) : Int)) = m := by omega
    rw [e1]
    refine rx_grow_nil 0 rfl rfl rfl hm0 rfl (by omega) (by unfold maxLen; omega) (by omega) rfl rfl rfl ybf (fun _ _ => ybf) ?_
    intro b cap hc1 hc2
    refine rx_cut 0 0 rfl (Nat.zero_le _) ?_
    repeat' (first|(refine ycf ?_;apply ybk;(·first|(first|(apply qv_cap;rfl)|(apply qv_slice_to;(·rfl);(·rfl);(·omega);(·omega))));(·rfl);(·rfl))|refine t1_ ?_|(refine ta_ ?_;intro _)|((fail_if_success (refine ybi rfl ?_));refine ybj rfl ?_ ?_<;>(intro ht;rw [ht];first|replace ht := oet_ ht|replace ht := oef_ ht|skip))|(refine ych ?_;first|(refine ybw rfl ?_ ?_<;>intro ht)|(refine ybx rfl ?_ ?_<;>intro ht)))
    refine nx_ret1 rfl (rv_tmp rfl) (fun w' s' => ⟨_, rfl, ?_, trivial⟩)
    exact s'
  · refine nx_ret1 rfl (rv_tmp rfl) (fun w' s' => ⟨_, rfl, ?_, trivial⟩)
    exact s'.rowNil _ _
def flatS (parts : List (Value × List Sb)) (k : Nat) : List Sb := (parts.take k).flatMap (·.2)
theorem flatS_succ {parts : List (Value × List Sb)} {k : Nat} (hk : k < parts.length) : flatS parts (k + 1) = flatS parts k ++ parts[k].2 := by
  unfold flatS
  rw [List.take_succ_eq_append_getElem hk, List.flatMap_append]
  simp
theorem flatS_le {parts : List (Value × List Sb)} {k : Nat} (hk : k ≤ parts.length) : (flatS parts k).length ≤ (flatS parts parts.length).length := by
  unfold flatS
  rw [List.take_length]
  conv => rhs; rw [← List.take_append_drop k parts]
  rw [List.flatMap_append, List.length_append]
  omega
theorem sConcat_sp (sv : Value) (parts : List (Value × List Sb)) (h : View) (hs : Sc h 1 sv parts.length (parts.map (·.1))) (hp : ∀ p ∈ parts, Ss h p.1 p.2) (hlen : (flatS parts parts.length).length ≤ 1000000) (hpl : parts.length ≤ 1000000) (w : World) (s : St ⟨w, h, []⟩ h [] w) :
    Calls Tryz.prog 100 [sv].toArray w fun e w' => ∃ v, e = .returned v ∧ St ⟨w, h, []⟩ h [rowX v (flatS parts parts.length)] w' ∧ True := by
  obtain ⟨_, ad, cap, rfl, hcap, _⟩ := id hs
  refine calls_enter Tryz.func100 rfl Tryz.ntmps100 rfl s ?_
  repeat' (first|(refine ycf ?_;apply ybk;(·first|(first|(apply qv_cap;rfl)|(apply qv_slice_to;(·rfl);(·rfl);(·omega);(·omega))));(·rfl);(·rfl))|refine t1_ ?_|(refine ta_ ?_;intro _)|((fail_if_success (refine ybi rfl ?_));refine ybj rfl ?_ ?_<;>(intro ht;rw [ht];first|replace ht := oet_ ht|replace ht := oef_ ht|skip))|(refine ych ?_;first|(refine ybw rfl ?_ ?_<;>intro ht)|(refine ybx rfl ?_ ?_<;>intro ht)))
  refine cx_loop (X := Nat) (fun k => [(0, .slice ad parts.length cap), (3, .int .i64 (flatS parts k).length), (9, .slice ad parts.length cap), (10, .int .i64 parts.length), (11, .int .i64 k)]) (fun _ => h) (fun _ => []) (fun k => k ≤ parts.length) (fun k => parts.length - k) 0 (Nat.zero_le _) ts_ (fun _ s => s) ?_
  intro k hk
  by_cases hkl : k < parts.length
  · obtain ⟨bs, o, rfl⟩ := hs.ad (by omega) (by omega)
    have hel : ∀ L, CellAt h L bs (o + k * 1) parts[k].1 := fun L => (hs.cells (L := L)).cell (by simp [hkl])
    obtain ⟨hd, hsv⟩ := hp _ (List.getElem_mem hkl)
    obtain ⟨_, ad1, cap1, hv1, _, _⟩ := id hd
    have e1 := flatS_succ hkl
    have h1 := flatS_le (parts := parts) (k := k + 1) hkl
    have h2 : (flatS parts (k + 1)).length = (flatS parts k).length + parts[k].2.length := by rw [e1, List.length_append]
    rw [hv1] at hel
    repeat' (first|(refine ycf ?_;apply ybk;(·first|(first|(apply qv_cap;rfl)|(apply qv_slice_to;(·rfl);(·rfl);(·omega);(·omega)))|(apply yae;(·rfl);(·exact hel _)));(·rfl);(·rfl))|refine t1_ ?_|(refine ta_ ?_;intro _)|((fail_if_success (refine ybi rfl ?_));refine ybj rfl ?_ ?_<;>(intro ht;rw [ht];first|replace ht := oet_ ht|replace ht := oef_ ht|skip))|(refine ych ?_;first|(refine ybw rfl ?_ ?_<;>intro ht)|(refine ybx rfl ?_ ?_<;>intro ht)))
    · refine nx_round (k + 1) (by show k + 1 ≤ _; omega) (by show parts.length - (k + 1) < parts.length - k; omega) ?_ (fun _ s => s)
      rw [h2]
      exact ts_
    · omega
  · have ek : k = parts.length := by omega
    subst ek
    repeat' (first|(refine ycf ?_;apply ybk;(·first|(first|(apply qv_cap;rfl)|(apply qv_slice_to;(·rfl);(·rfl);(·omega);(·omega)))|(apply yae;(·rfl);(·exact hel _)));(·rfl);(·rfl))|refine t1_ ?_|(refine ta_ ?_;intro _)|((fail_if_success (refine ybi rfl ?_));refine ybj rfl ?_ ?_<;>(intro ht;rw [ht];first|replace ht := oet_ ht|replace ht := oef_ ht|skip))|(refine ych ?_;first|(refine ybw rfl ?_ ?_<;>intro ht)|(refine ybx rfl ?_ ?_<;>intro ht)))
    · omega
    (refine yco (ycp Tryz.func119 rfl (by kernel_rfl) rfl) (sGrow_sp (flatS parts parts.length).length hlen h) rfl rfl rfl ?_ ?_ ?_; (· (exact to_)); (· intro _ _ hle; (exact to_)); intro x px hle)
    repeat' (first|(refine ycf ?_;apply ybk;(·first|(first|(apply qv_cap;rfl)|(apply qv_slice_to;(·rfl);(·rfl);(·omega);(·omega)))|(apply yae;(·rfl);(·exact hel _)));(·rfl);(·rfl))|refine t1_ ?_|(refine ta_ ?_;intro _)|((fail_if_success (refine ybi rfl ?_));refine ybj rfl ?_ ?_<;>(intro ht;rw [ht];first|replace ht := oet_ ht|replace ht := oef_ ht|skip))|(refine ych ?_;first|(refine ybw rfl ?_ ?_<;>intro ht)|(refine ybx rfl ?_ ?_<;>intro ht)))
    have e0 : flatS parts 0 = [] := rfl
    refine cx_loop (X := Nat × Value) (fun y => [(6, y.2), (25, .slice ad parts.length cap), (26, .int .i64 parts.length), (27, .int .i64 y.1)]) (fun _ => h) (fun y => [rowX y.2 (flatS parts y.1)]) (fun y => y.1 ≤ parts.length) (fun y => parts.length - y.1) (0, x) (Nat.zero_le _) ts_ (fun _ s => s) ?_
    rintro ⟨k, v⟩ hk
    replace hk : k ≤ parts.length := hk
    dsimp only
    by_cases hkl : k < parts.length
    · obtain ⟨bs, o, rfl⟩ := hs.ad (by omega) (by omega)
      have hel : ∀ L, CellAt h L bs (o + k * 1) parts[k].1 := fun L => (hs.cells (L := L)).cell (by simp [hkl])
      obtain ⟨hd, hsv⟩ := hp _ (List.getElem_mem hkl)
      obtain ⟨_, ad1, cap1, hv1, _, _⟩ := id hd
      have e1 := flatS_succ hkl
      have h1 := flatS_le (parts := parts) (k := k + 1) hkl
      have h2 : (flatS parts (k + 1)).length = (flatS parts k).length + parts[k].2.length := by rw [e1, List.length_append]
      rw [hv1] at hel hd
      repeat' (first|(refine ycf ?_;apply ybk;(·first|(first|(apply qv_cap;rfl)|(apply qv_slice_to;(·rfl);(·rfl);(·omega);(·omega)))|(apply yae;(·rfl);(·exact hel _)));(·rfl);(·rfl))|refine t1_ ?_|(refine ta_ ?_;intro _)|((fail_if_success (refine ybi rfl ?_));refine ybj rfl ?_ ?_<;>(intro ht;rw [ht];first|replace ht := oet_ ht|replace ht := oef_ ht|skip))|(refine ych ?_;first|(refine ybw rfl ?_ ?_<;>intro ht)|(refine ybx rfl ?_ ?_<;>intro ht)))
      · refine rx_append_sc (sz := 20) 0 rfl rfl rfl hd (one_sb hsv) rfl (by omega) (by unfold maxLen; omega) (by omega) rfl rfl rfl ybf (fun _ => ybf) ?_
        intro v2 _
        repeat' (first|(refine ycf ?_;apply ybk;(·first|(first|(apply qv_cap;rfl)|(apply qv_slice_to;(·rfl);(·rfl);(·omega);(·omega)))|(apply yae;(·rfl);(·exact hel _)));(·rfl);(·rfl))|refine t1_ ?_|(refine ta_ ?_;intro _)|((fail_if_success (refine ybi rfl ?_));refine ybj rfl ?_ ?_<;>(intro ht;rw [ht];first|replace ht := oet_ ht|replace ht := oef_ ht|skip))|(refine ych ?_;first|(refine ybw rfl ?_ ?_<;>intro ht)|(refine ybx rfl ?_ ?_<;>intro ht)))
        refine nx_round (k + 1, v2) (by show k + 1 ≤ _; omega) (by show parts.length - (k + 1) < parts.length - k; omega) ts_ (fun _ s => ?_)
        dsimp only
        unfold rowX
        rw [h2, e1, List.flatMap_append]
        exact s
      · omega
    · have ek : k = parts.length := by omega
      subst ek
      repeat' (first|(refine ycf ?_;apply ybk;(·first|(first|(apply qv_cap;rfl)|(apply qv_slice_to;(·rfl);(·rfl);(·omega);(·omega)))|(apply yae;(·rfl);(·exact hel _)));(·rfl);(·rfl))|refine t1_ ?_|(refine ta_ ?_;intro _)|((fail_if_success (refine ybi rfl ?_));refine ybj rfl ?_ ?_<;>(intro ht;rw [ht];first|replace ht := oet_ ht|replace ht := oef_ ht|skip))|(refine ych ?_;first|(refine ybw rfl ?_ ?_<;>intro ht)|(refine ybx rfl ?_ ?_<;>intro ht)))
      · omega
      refine nx_ret1 rfl (rv_tmp rfl) (fun w' s' => ⟨_, rfl, ?_, trivial⟩)
      exact s'
end Go.Proofs.YtkkjppeaaicgaaaGreatDoor
end

section
namespace Go.Proofs.YtkkjppeaaicgaaaGreatDoor
open Go Go.Ck
set_option maxRecDepth 100000
set_option maxHeartbeats 4000000
set_option linter.unusedVariables false
theorem flat_takeS {l : List Sb} : ∀ {j : Nat}, (l.flatMap sbc).take (j * 20) = (l.take j).flatMap sbc := by
  induction l with
  | nil => intro j; simp
  | cons d l ih =>
    intro j
    cases j with
    | zero => simp
    | succ j =>
      have : (j + 1) * 20 = (sbc d).length + j * 20 := by rw [sbc_len]; omega
      rw [this]
      simp only [List.flatMap_cons, List.take_succ_cons, List.take_length_add_append, ih]
theorem row_el2 {h : View} {L : List Res} {g o : Nat} {l : List Sb} {i : Nat} {x : Sb} (c : Cells h L ⟨g, 0, none⟩ (l.flatMap sbc)) (hx : l[i]? = some x) (ho : o = i * 20) : Cells h L ⟨g, o, none⟩ (sbc x) := by
  have := row_el c hx (j := i) rfl
  rwa [Nat.zero_add, ← ho] at this
theorem qv_slice_fromv {P : Program} {n : Nat} {F : List (Nat × Value)} {h : View} {L : List Res} {dst : Option Nat} {ty : Nat} {pos : String} {af : Array Edge} {gd : Option (Nat × Bool)} {T e k : Nat} {x y : Operand} {b len cap i : Nat} {ki : IntKind} [tu : TyU P T (.slice e)] [ts : TyS P e k] (hx : ev F x = some (.slice (some ⟨b, 0, none⟩) len cap)) (hy : ev F y = some (.int ki i)) (h1 : i ≤ len) (h2 : i < cap) :
    QV P n F h L ⟨dst, .slice T x (some y) none none, ty, pos, af, gd⟩ (.slice (some ⟨b, i * k, none⟩) (len - i) (cap - i)) := by
  have := qv_slice_from (P := P) (n := n) (h := h) (L := L) (dst := dst) (ty := ty) (pos := pos) (af := af) (gd := gd) (T := T) (e := e) (k := k) hx hy h1
  have e1 : cutF (some ⟨b, 0, none⟩) cap i k = some ⟨b, i * k, none⟩ := by
    unfold cutF
    rw [if_neg (by omega)]
    show some ((⟨b, 0, none⟩ : Addr).add (i * k)) = _
    rw [Addr.add_off, Nat.zero_add]
  rwa [e1] at this
def eqV : Value := .func (.func 103) #[] #[]
theorem eqS_sp (x y : Sb) (h : View) (w : World) (s : St ⟨w, h, []⟩ h [] w) :
    Calls Tryz.prog 103 [sbv x, sbv y].toArray w fun e w' => e = .returned (.bool (decide (x.d = y.d))) ∧ St ⟨w, h, []⟩ h [] w' := by
  refine calls_enter Tryz.func103 rfl Tryz.ntmps103 rfl s ?_
  repeat' (first|(refine ycf ?_;apply ybk;(·first|(first|exact qv_eql_agg rfl rfl (fun w => dot_eq _ _ w)|(apply yad;(·rfl);(·exact sb_dot (yaz 0 rfl));(·rfl))|(apply yad;(·rfl);(·exact sb_dot (yaz 1 rfl));(·rfl))));(·rfl);(·rfl))|refine t1_ ?_|(refine ta_ ?_;intro _)|((fail_if_success (refine ybi rfl ?_));refine ybj rfl ?_ ?_<;>(intro ht;rw [ht];first|replace ht := oet_ ht|replace ht := oef_ ht|skip))|(refine ych ?_;first|(refine ybw rfl ?_ ?_<;>intro ht)|(refine ybx rfl ?_ ?_<;>intro ht)))
  exact nx_ret1 rfl (rv_tmp rfl) (fun w' s' => ⟨rfl, s'.nil⟩)
def dAt (l : List Sb) (i : Nat) : Option Dt := l[i]?.map (·.d)
def ddk (l : List Sb) (k : Nat) : List Sb := (List.range k).filterMap fun i => if i ≠ 0 ∧ dAt l i = dAt l (i - 1) then none else l[i]?
theorem ddk_succ {l : List Sb} {k : Nat} {x y : Sb} (hx : l[k]? = some x) (hy : l[k - 1]? = some y) (h0 : k ≠ 0) : ddk l (k + 1) = ddk l k ++ (if x.d = y.d then [] else [x]) := by
  unfold ddk
  rw [List.range_succ, List.filterMap_append]
  congr 1
  have e1 : dAt l k = some x.d := by unfold dAt; rw [hx]; rfl
  have e2 : dAt l (k - 1) = some y.d := by unfold dAt; rw [hy]; rfl
  simp only [List.filterMap_cons, List.filterMap_nil, e1, e2, hx, Option.some.injEq]
  by_cases h : x.d = y.d
  · simp [h, h0]
  · simp [h]
theorem ddk_one {l : List Sb} {x : Sb} (hx : l[0]? = some x) : ddk l 1 = [x] := by
  unfold ddk
  simp [hx]
theorem compact_sp (g cap m : Nat) (l : List Sb) (hm : l.length = m) (hm62 : m ≤ 100000) (h1 : Ones l) (h : View) (w : World) (s : St ⟨w, h, doms [rowS g cap m l]⟩ h [rowS g cap m l] w) :
    Calls Tryz.prog 102 [.slice (some ⟨g, 0, none⟩) m cap, eqV].toArray w fun e w' => ∃ x : Value, e = .returned x ∧ St ⟨w, h, doms [rowS g cap m l]⟩ h [rowX x (ddk l m)] w' ∧ True := by
  refine calls_enter Tryz.func102 rfl Tryz.ntmps102 rfl s ?_
  by_cases h2 : m < 2
  · repeat' (first|(refine ycf ?_;apply ybk;(·first|(exact tk_));(·rfl);(·rfl))|refine t1_ ?_|(refine ta_ ?_;intro _)|((fail_if_success (refine ybi rfl ?_));refine ybj rfl ?_ ?_<;>(intro ht;rw [ht];first|replace ht := oet_ ht|replace ht := oef_ ht|skip))|(refine ych ?_;first|(refine ybw rfl ?_ ?_<;>intro ht)|(refine ybx rfl ?_ ?_<;>intro ht)))
    have e : ddk l m = l := by
      match l, hm with
      | [], hm => subst hm; rfl
      | [x], hm => subst hm; exact ddk_one rfl
      | x :: y :: r, hm => simp at hm; omega
    refine nx_ret1 rfl (rv_tmp rfl) (fun w' s' => ⟨_, rfl, ?_, trivial⟩)
    rw [e]
    show St _ _ [Res.row _ _ _ l.length _] _
    rw [hm]
    exact s'
  · refine cx_rowcap 0 rfl fun hcap => ?_
    repeat' (first|(refine ycf ?_;apply ybk;(·first|(exact tk_));(·rfl);(·rfl))|refine t1_ ?_|(refine ta_ ?_;intro _)|((fail_if_success (refine ybi rfl ?_));refine ybj rfl ?_ ?_<;>(intro ht;rw [ht];first|replace ht := oet_ ht|replace ht := oef_ ht|skip))|(refine ych ?_;first|(refine ybw rfl ?_ ?_<;>intro ht)|(refine ybx rfl ?_ ?_<;>intro ht)))
    refine cx_loop (X := Nat) (fun k => [(0, .slice (some ⟨g, 0, none⟩) m cap), (1, eqV), (5, .int .i64 (k : Nat))]) (fun _ => h) (fun _ => [rowS g cap m l]) (fun k => 1 ≤ k ∧ k ≤ m ∧ ddk l k = l.take k) (fun k => m - k) 1
      ⟨Nat.le_refl _, by omega, by
        obtain ⟨x, hx⟩ : ∃ x, l[0]? = some x := ⟨_, List.getElem?_eq_getElem (by omega)⟩
        rw [ddk_one hx, List.take_one, List.head?_eq_getElem?, hx]; rfl⟩ ts_ (fun _ s => s) ?_
    rintro k ⟨hk1, hkm, hdd⟩
    by_cases hk : k < m
    · obtain ⟨x, hx⟩ : ∃ x, l[k]? = some x := ⟨_, List.getElem?_eq_getElem (by omega)⟩
      obtain ⟨y, hy⟩ : ∃ y, l[k - 1]? = some y := ⟨_, List.getElem?_eq_getElem (by omega)⟩
      have hstep := ddk_succ hx hy (by omega)
      have hxl := sbc_len x
      have hyl := sbc_len y
      have helx := fun (L : List Res) (c : Cells h L ⟨g, 0, none⟩ (l.flatMap sbc)) => row_el c hx (show ((k : Int)).toNat = k by omega)
      have hely := fun (L : List Res) (c : Cells h L ⟨g, 0, none⟩ (l.flatMap sbc)) => row_el c hy (show ((k : Int) - 1).toNat = k - 1 by omega)
      have hE := eqS_sp x y h
      by_cases hxy : x.d = y.d
      · rw [decide_eq_true hxy] at hE
        repeat' (first|(refine ycf ?_;apply ybk;(·first|(first|exact tk_|(apply yad;(·rfl);(·exact helx _ (row_cells 0 rfl));(·exact hxl))|(apply yad;(·rfl);(·exact hely _ (row_cells 0 rfl));(·exact hyl))));(·rfl);(·rfl))|refine t1_ ?_|(refine ta_ ?_;intro _)|((fail_if_success (refine ybi rfl ?_));refine ybj rfl ?_ ?_<;>(intro ht;rw [ht];first|replace ht := oet_ ht|replace ht := oef_ ht|skip))|(refine ych ?_;first|(refine ybw rfl ?_ ?_<;>intro ht)|(refine ybx rfl ?_ ?_<;>intro ht)))
        refine cx_region_draw' rfl (by kernel_rfl) ?_
        repeat' (refine ycf ?_;(first|(first|(apply ybm;(·(first|(first|exact tk_|(apply yad;(·rfl);(·exact helx _ (row_cells 0 rfl));(·exact hxl))|(apply yad;(·rfl);(·exact hely _ (row_cells 0 rfl));(·exact hyl)))|exact tq_));(·rfl);(·rfl);(·(exact th_)))|refine ybl rfl rfl ?_|((fail_if_success (refine ybi rfl ?_));refine ybj rfl ?_ ?_<;>(intro ht;rw [ht];first|replace ht := oet_ ht|replace ht := oef_ ht|skip))|(refine tb_ ?_ ?_ ?_;(·(exact to_));(·intro _;(exact to_));intro _)|(first|(refine tqs_ ?_ ?_ ?_;(·(exact to_));(·(exact to_))))|(apply ybn;(·(first|(first|exact tk_|(apply yad;(·rfl);(·exact helx _ (row_cells 0 rfl));(·exact hxl))|(apply yad;(·rfl);(·exact hely _ (row_cells 0 rfl));(·exact hyl)))|exact tq_));(·rfl);(·rfl);(·rfl);(·(exact to_))))|refine ycg ?_))
        (refine ycn (call_val rfl Tryz.func103 rfl (by kernel_rfl) rfl) hE rfl rfl rfl ?_ ?_; (· (exact to_)))
        repeat' (refine ycf ?_;(first|(first|(apply ybm;(·(first|(first|exact tk_|(refine qv_slice_fromv rfl rfl ?_ ?_<;>omega))|exact tq_));(·rfl);(·rfl);(·(exact th_)))|refine ybl rfl rfl ?_|((fail_if_success (refine ybi rfl ?_));refine ybj rfl ?_ ?_<;>(intro ht;rw [ht];first|replace ht := oet_ ht|replace ht := oef_ ht|skip))|(refine tb_ ?_ ?_ ?_;(·(exact to_));(·intro _;(exact to_));intro _)|(first|(refine tqs_ ?_ ?_ ?_;(·(exact to_));(·(exact to_))))|(apply ybn;(·(first|(first|exact tk_|(refine qv_slice_fromv rfl rfl ?_ ?_<;>omega))|exact tq_));(·rfl);(·rfl);(·rfl);(·(exact to_))))|refine ycg ?_))
        repeat' (first|(refine ycf ?_;apply ybk;(·first|(first|exact tk_|(refine qv_slice_fromv rfl rfl ?_ ?_<;>omega)));(·rfl);(·rfl))|refine t1_ ?_|(refine ta_ ?_;intro _)|((fail_if_success (refine ybi rfl ?_));refine ybj rfl ?_ ?_<;>(intro ht;rw [ht];first|replace ht := oet_ ht|replace ht := oef_ ht|skip))|(refine ych ?_;first|(refine ybw rfl ?_ ?_<;>intro ht)|(refine ybx rfl ?_ ?_<;>intro ht)))
        rw [if_pos hxy, List.append_nil] at hstep
        obtain ⟨k0, hk0⟩ : ∃ k0, k0 = k := ⟨_, rfl⟩
        refine cx_loop (X := Nat × Nat × List Sb) (fun z => [(0, .slice (some ⟨g, 0, none⟩) m cap), (1, eqV), (5, .int .i64 (z.2.1 : Nat)), (6, .slice (some ⟨g, k * 20, none⟩) (m - k) (cap - k)), (7, .int .i64 (z.1 : Nat))]) (fun _ => h) (fun z => [rowS g cap m z.2.2])
          (fun z => 1 ≤ z.1 ∧ k + z.1 ≤ m ∧ z.2.1 + 1 ≤ k + z.1 ∧ z.2.2.length = m ∧ z.2.2.take z.2.1 = ddk l (k + z.1) ∧ (∀ j, k + z.1 ≤ j + 1 → z.2.2[j]? = l[j]?)) (fun z => m - z.1) (1, k, l)
          ⟨Nat.le_refl _, by show k + 1 ≤ m; omega, Nat.le_refl _, hm, by show l.take k = ddk l (k + 1); rw [hstep, hdd], fun j _ => rfl⟩ ts_ (fun _ s => s) ?_
        rintro ⟨k2, K, cur⟩ ⟨z1, z2, z3, z4, z5, z6⟩
        dsimp only at z1 z2 z3 z4 z5 z6 ⊢
        by_cases hk2 : k + k2 < m
        · obtain ⟨x', hx'⟩ : ∃ x, l[k + k2]? = some x := ⟨_, List.getElem?_eq_getElem (by omega)⟩
          obtain ⟨y', hy'⟩ : ∃ y, l[k + k2 - 1]? = some y := ⟨_, List.getElem?_eq_getElem (by omega)⟩
          have hstep' := ddk_succ hx' hy' (by omega)
          have cx' : cur[k + k2]? = some x' := by rw [z6 _ (by omega), hx']
          have cy' : cur[k + k2 - 1]? = some y' := by rw [z6 _ (by omega), hy']
          have hxl' := sbc_len x'
          have hyl' := sbc_len y'
          have ox' := h1 x' (List.mem_of_getElem? hx')
          have helx' := fun (L : List Res) (c : Cells h L ⟨g, 0, none⟩ (cur.flatMap sbc)) => row_el2 (o := k * 20 + ((k2 : Int)).toNat * 20) c cx' (by omega)
          have hely' := fun (L : List Res) (c : Cells h L ⟨g, 0, none⟩ (cur.flatMap sbc)) => row_el2 (o := k * 20 + ((k2 : Int) - 1).toNat * 20) c cy' (by omega)
          have hE' := eqS_sp x' y' h
          by_cases hxy' : x'.d = y'.d
          · rw [decide_eq_true hxy'] at hE'
            repeat' (first|(refine ycf ?_;apply ybk;(·first|(first|exact tk_|(apply yad;(·rfl);(·exact helx' _ (row_cells 0 rfl));(·exact hxl'))|(apply yad;(·rfl);(·exact hely' _ (row_cells 0 rfl));(·exact hyl'))));(·rfl);(·rfl))|(refine rx_rowstore 0 rfl rfl rfl (sbc_sz x') (by rw [sbc_sz];omega) (sbc_one ox'.1 ox'.2) (spl_flat (j := K) (by omega) (by omega)) rfl rfl ?_ ?_ ?_;(·(exact to_));(·(exact to_)))|refine t1_ ?_|(refine ta_ ?_;intro _)|((fail_if_success (refine ybi rfl ?_));refine ybj rfl ?_ ?_<;>(intro ht;rw [ht];first|replace ht := oet_ ht|replace ht := oef_ ht|skip))|(refine ych ?_;first|(refine ybw rfl ?_ ?_<;>intro ht)|(refine ybx rfl ?_ ?_<;>intro ht)))
            refine cx_region_draw' rfl (by kernel_rfl) ?_
            repeat' (refine ycf ?_;(first|(first|(apply ybm;(·(first|(first|exact tk_|(apply yad;(·rfl);(·exact helx' _ (row_cells 0 rfl));(·exact hxl'))|(apply yad;(·rfl);(·exact hely' _ (row_cells 0 rfl));(·exact hyl')))|exact tq_));(·rfl);(·rfl);(·(exact th_)))|refine ybl rfl rfl ?_|((fail_if_success (refine ybi rfl ?_));refine ybj rfl ?_ ?_<;>(intro ht;rw [ht];first|replace ht := oet_ ht|replace ht := oef_ ht|skip))|(refine tb_ ?_ ?_ ?_;(·(exact to_));(·intro _;(exact to_));intro _)|(first|(refine rx_rowstore 0 rfl rfl rfl (sbc_sz x') (by rw [sbc_sz];omega) (sbc_one ox'.1 ox'.2) (spl_flat (j := K) (by omega) (by omega)) rfl rfl ?_ ?_ ?_;(·(exact to_));(·(exact to_)))|(refine tqs_ ?_ ?_ ?_;(·(exact to_));(·(exact to_))))|(apply ybn;(·(first|(first|exact tk_|(apply yad;(·rfl);(·exact helx' _ (row_cells 0 rfl));(·exact hxl'))|(apply yad;(·rfl);(·exact hely' _ (row_cells 0 rfl));(·exact hyl')))|exact tq_));(·rfl);(·rfl);(·rfl);(·(exact to_))))|refine ycg ?_))
            (refine ycn (call_val rfl Tryz.func103 rfl (by kernel_rfl) rfl) hE' rfl rfl rfl ?_ ?_; (· (exact to_)))
            repeat' (refine ycf ?_;(first|(first|(apply ybm;(·(first|(first|exact tk_|(apply yad;(·rfl);(·exact helx' _ (row_cells 0 rfl));(·exact hxl'))|(apply yad;(·rfl);(·exact hely' _ (row_cells 0 rfl));(·exact hyl')))|exact tq_));(·rfl);(·rfl);(·(exact th_)))|refine ybl rfl rfl ?_|((fail_if_success (refine ybi rfl ?_));refine ybj rfl ?_ ?_<;>(intro ht;rw [ht];first|replace ht := oet_ ht|replace ht := oef_ ht|skip))|(refine tb_ ?_ ?_ ?_;(·(exact to_));(·intro _;(exact to_));intro _)|(first|(refine rx_rowstore 0 rfl rfl rfl (sbc_sz x') (by rw [sbc_sz];omega) (sbc_one ox'.1 ox'.2) (spl_flat (j := K) (by omega) (by omega)) rfl rfl ?_ ?_ ?_;(·(exact to_));(·(exact to_)))|(refine tqs_ ?_ ?_ ?_;(·(exact to_));(·(exact to_))))|(apply ybn;(·(first|(first|exact tk_|(apply yad;(·rfl);(·exact helx' _ (row_cells 0 rfl));(·exact hxl'))|(apply yad;(·rfl);(·exact hely' _ (row_cells 0 rfl));(·exact hyl')))|exact tq_));(·rfl);(·rfl);(·rfl);(·(exact to_))))|refine ycg ?_))
            repeat' (first|(refine ycf ?_;apply ybk;(·first|(first|exact tk_|(apply yad;(·rfl);(·exact helx' _ (row_cells 0 rfl));(·exact hxl'))|(apply yad;(·rfl);(·exact hely' _ (row_cells 0 rfl));(·exact hyl'))));(·rfl);(·rfl))|(refine rx_rowstore 0 rfl rfl rfl (sbc_sz x') (by rw [sbc_sz];omega) (sbc_one ox'.1 ox'.2) (spl_flat (j := K) (by omega) (by omega)) rfl rfl ?_ ?_ ?_;(·(exact to_));(·(exact to_)))|refine t1_ ?_|(refine ta_ ?_;intro _)|((fail_if_success (refine ybi rfl ?_));refine ybj rfl ?_ ?_<;>(intro ht;rw [ht];first|replace ht := oet_ ht|replace ht := oef_ ht|skip))|(refine ych ?_;first|(refine ybw rfl ?_ ?_<;>intro ht)|(refine ybx rfl ?_ ?_<;>intro ht)))
            refine nx_round (k2 + 1, K, cur) ⟨by show 1 ≤ k2 + 1; omega, by show k + (k2 + 1) ≤ m; omega, by show K + 1 ≤ k + (k2 + 1); omega, z4, ?_, fun j hj => z6 j (by dsimp only at hj; omega)⟩ (by show m - (k2 + 1) < m - k2; omega) ts_ (fun _ s => s)
            show cur.take K = ddk l (k + k2 + 1)
            rw [hstep', if_pos hxy', List.append_nil, z5]
          · rw [decide_eq_false hxy'] at hE'
            repeat' (first|(refine ycf ?_;apply ybk;(·first|(first|exact tk_|(apply yad;(·rfl);(·exact helx' _ (row_cells 0 rfl));(·exact hxl'))|(apply yad;(·rfl);(·exact hely' _ (row_cells 0 rfl));(·exact hyl'))));(·rfl);(·rfl))|(refine rx_rowstore 0 rfl rfl rfl (sbc_sz x') (by rw [sbc_sz];omega) (sbc_one ox'.1 ox'.2) (spl_flat (j := K) (by omega) (by omega)) rfl rfl ?_ ?_ ?_;(·(exact to_));(·(exact to_)))|refine t1_ ?_|(refine ta_ ?_;intro _)|((fail_if_success (refine ybi rfl ?_));refine ybj rfl ?_ ?_<;>(intro ht;rw [ht];first|replace ht := oet_ ht|replace ht := oef_ ht|skip))|(refine ych ?_;first|(refine ybw rfl ?_ ?_<;>intro ht)|(refine ybx rfl ?_ ?_<;>intro ht)))
            refine cx_region_draw' rfl (by kernel_rfl) ?_
            repeat' (refine ycf ?_;(first|(first|(apply ybm;(·(first|(first|exact tk_|(apply yad;(·rfl);(·exact helx' _ (row_cells 0 rfl));(·exact hxl'))|(apply yad;(·rfl);(·exact hely' _ (row_cells 0 rfl));(·exact hyl')))|exact tq_));(·rfl);(·rfl);(·(exact th_)))|refine ybl rfl rfl ?_|((fail_if_success (refine ybi rfl ?_));refine ybj rfl ?_ ?_<;>(intro ht;rw [ht];first|replace ht := oet_ ht|replace ht := oef_ ht|skip))|(refine tb_ ?_ ?_ ?_;(·(exact to_));(·intro _;(exact to_));intro _)|(first|(refine rx_rowstore 0 rfl rfl rfl (sbc_sz x') (by rw [sbc_sz];omega) (sbc_one ox'.1 ox'.2) (spl_flat (j := K) (by omega) (by omega)) rfl rfl ?_ ?_ ?_;(·(exact to_));(·(exact to_)))|(refine tqs_ ?_ ?_ ?_;(·(exact to_));(·(exact to_))))|(apply ybn;(·(first|(first|exact tk_|(apply yad;(·rfl);(·exact helx' _ (row_cells 0 rfl));(·exact hxl'))|(apply yad;(·rfl);(·exact hely' _ (row_cells 0 rfl));(·exact hyl')))|exact tq_));(·rfl);(·rfl);(·rfl);(·(exact to_))))|refine ycg ?_))
            (refine ycn (call_val rfl Tryz.func103 rfl (by kernel_rfl) rfl) hE' rfl rfl rfl ?_ ?_; (· (exact to_)))
            repeat' (refine ycf ?_;(first|(first|(apply ybm;(·(first|(first|exact tk_|(apply yad;(·rfl);(·exact helx' _ (row_cells 0 rfl));(·exact hxl'))|(apply yad;(·rfl);(·exact hely' _ (row_cells 0 rfl));(·exact hyl')))|exact tq_));(·rfl);(·rfl);(·(exact th_)))|refine ybl rfl rfl ?_|((fail_if_success (refine ybi rfl ?_));refine ybj rfl ?_ ?_<;>(intro ht;rw [ht];first|replace ht := oet_ ht|replace ht := oef_ ht|skip))|(refine tb_ ?_ ?_ ?_;(·(exact to_));(·intro _;(exact to_));intro _)|(first|(refine rx_rowstore 0 rfl rfl rfl (sbc_sz x') (by rw [sbc_sz];omega) (sbc_one ox'.1 ox'.2) (spl_flat (j := K) (by omega) (by omega)) rfl rfl ?_ ?_ ?_;(·(exact to_));(·(exact to_)))|(refine tqs_ ?_ ?_ ?_;(·(exact to_));(·(exact to_))))|(apply ybn;(·(first|(first|exact tk_|(apply yad;(·rfl);(·exact helx' _ (row_cells 0 rfl));(·exact hxl'))|(apply yad;(·rfl);(·exact hely' _ (row_cells 0 rfl));(·exact hyl')))|exact tq_));(·rfl);(·rfl);(·rfl);(·(exact to_))))|refine ycg ?_))
            repeat' (first|(refine ycf ?_;apply ybk;(·first|(first|exact tk_|(apply yad;(·rfl);(·exact helx' _ (row_cells 0 rfl));(·exact hxl'))|(apply yad;(·rfl);(·exact hely' _ (row_cells 0 rfl));(·exact hyl'))));(·rfl);(·rfl))|(refine rx_rowstore 0 rfl rfl rfl (sbc_sz x') (by rw [sbc_sz];omega) (sbc_one ox'.1 ox'.2) (spl_flat (j := K) (by omega) (by omega)) rfl rfl ?_ ?_ ?_;(·(exact to_));(·(exact to_)))|refine t1_ ?_|(refine ta_ ?_;intro _)|((fail_if_success (refine ybi rfl ?_));refine ybj rfl ?_ ?_<;>(intro ht;rw [ht];first|replace ht := oet_ ht|replace ht := oef_ ht|skip))|(refine ych ?_;first|(refine ybw rfl ?_ ?_<;>intro ht)|(refine ybx rfl ?_ ?_<;>intro ht)))
            refine nx_round (k2 + 1, K + 1, cur.set K x') ⟨by show 1 ≤ k2 + 1;omega, by show k + (k2 + 1) ≤ m;omega, by show K + 1 + 1 ≤ k + (k2 + 1);omega, by show (cur.set K x').length = m;rw [List.length_set, z4], ?_, fun j hj => ?_⟩ (by show m - (k2 + 1) < m - k2;omega) (by repeat' (first|exact Sub.nil|refine Sub.cons rfl rfl ?_|refine Sub.cons rfl (congrArg (Value.int .i64) (by dsimp only;omega)) ?_)) (fun _ s => s)
            · show (cur.set K x').take (K + 1) = ddk l (k + k2 + 1)
              rw [hstep', if_neg hxy', ← z5, List.take_succ_eq_append_getElem (by rw [List.length_set]; omega), List.getElem_set_self, List.take_set_of_le (Nat.le_refl _)]
            · show (cur.set K x')[j]? = l[j]?
              rw [List.getElem?_set_ne (by dsimp only at hj; omega)]
              exact z6 j (by dsimp only at hj; omega)
        · have hk2' : k + k2 = m := by omega
          have hdl : (ddk l m).length = K := by rw [← hk2', ← z5]; simp; omega
          repeat' (first|(refine ycf ?_;apply ybk;(·first|(first|exact tk_|(refine qv_slice_fromv rfl rfl ?_ ?_<;>omega)|(apply qv_slice_to;(·rfl);(·rfl);(·omega);(·omega))));(·rfl);(·rfl))|(refine rx_rowstore 0 rfl rfl rfl (sbc_sz x') (by rw [sbc_sz];omega) (sbc_one ox'.1 ox'.2) (spl_flat (j := K) (by omega) (by omega)) rfl rfl ?_ ?_ ?_;(·(exact to_));(·(exact to_)))|refine t1_ ?_|(refine ta_ ?_;intro _)|((fail_if_success (refine ybi rfl ?_));refine ybj rfl ?_ ?_<;>(intro ht;rw [ht];first|replace ht := oet_ ht|replace ht := oef_ ht|skip))|(refine ych ?_;first|(refine ybw rfl ?_ ?_<;>intro ht)|(refine ybx rfl ?_ ?_<;>intro ht)))
          refine rx_clear (sz := 20) 0 rfl rfl (by omega) rfl (by omega) rfl rfl rfl rfl ybf (fun _ => ybf) fun xs' hxs' => ?_
          refine rx_cut (m := m) 0 K rfl (by omega) ?_
          repeat' (first|(refine ycf ?_;apply ybk;(·first|(first|exact tk_|(refine qv_slice_fromv rfl rfl ?_ ?_<;>omega)|(apply qv_slice_to;(·rfl);(·rfl);(·omega);(·omega))));(·rfl);(·rfl))|(refine rx_rowstore 0 rfl rfl rfl (sbc_sz x') (by rw [sbc_sz];omega) (sbc_one ox'.1 ox'.2) (spl_flat (j := K) (by omega) (by omega)) rfl rfl ?_ ?_ ?_;(·(exact to_));(·(exact to_)))|refine t1_ ?_|(refine ta_ ?_;intro _)|((fail_if_success (refine ybi rfl ?_));refine ybj rfl ?_ ?_<;>(intro ht;rw [ht];first|replace ht := oet_ ht|replace ht := oef_ ht|skip))|(refine ych ?_;first|(refine ybw rfl ?_ ?_<;>intro ht)|(refine ybx rfl ?_ ?_<;>intro ht)))
          refine nx_ret1 rfl (rv_tmp rfl) (fun w' s' => ⟨_, rfl, ?_, trivial⟩)
          rw [flat_takeS, z5, hk2'] at hxs'
          have s2 : St ⟨w, h, doms [rowS g cap m l]⟩ h [Res.row 57 20 (.slice (some ⟨g, 0, none⟩) K cap) K (xs'.take (K * 20))] w' := s'
          rw [hxs'] at s2
          show St _ _ [Res.row _ _ _ (ddk l m).length _] _
          rw [hdl]
          exact s2
      · rw [decide_eq_false hxy] at hE
        repeat' (first|(refine ycf ?_;apply ybk;(·first|(first|exact tk_|(apply yad;(·rfl);(·exact helx _ (row_cells 0 rfl));(·exact hxl))|(apply yad;(·rfl);(·exact hely _ (row_cells 0 rfl));(·exact hyl))));(·rfl);(·rfl))|(refine rx_rowstore 0 rfl rfl rfl (sbc_sz x') (by rw [sbc_sz];omega) (sbc_one ox'.1 ox'.2) (spl_flat (j := K) (by omega) (by omega)) rfl rfl ?_ ?_ ?_;(·(exact to_));(·(exact to_)))|refine t1_ ?_|(refine ta_ ?_;intro _)|((fail_if_success (refine ybi rfl ?_));refine ybj rfl ?_ ?_<;>(intro ht;rw [ht];first|replace ht := oet_ ht|replace ht := oef_ ht|skip))|(refine ych ?_;first|(refine ybw rfl ?_ ?_<;>intro ht)|(refine ybx rfl ?_ ?_<;>intro ht)))
        refine cx_region_draw' rfl (by kernel_rfl) ?_
        repeat' (refine ycf ?_;(first|(first|(apply ybm;(·(first|(first|exact tk_|(apply yad;(·rfl);(·exact helx _ (row_cells 0 rfl));(·exact hxl))|(apply yad;(·rfl);(·exact hely _ (row_cells 0 rfl));(·exact hyl)))|exact tq_));(·rfl);(·rfl);(·(exact th_)))|refine ybl rfl rfl ?_|((fail_if_success (refine ybi rfl ?_));refine ybj rfl ?_ ?_<;>(intro ht;rw [ht];first|replace ht := oet_ ht|replace ht := oef_ ht|skip))|(refine tb_ ?_ ?_ ?_;(·(exact to_));(·intro _;(exact to_));intro _)|(first|(refine rx_rowstore 0 rfl rfl rfl (sbc_sz x') (by rw [sbc_sz];omega) (sbc_one ox'.1 ox'.2) (spl_flat (j := K) (by omega) (by omega)) rfl rfl ?_ ?_ ?_;(·(exact to_));(·(exact to_)))|(refine tqs_ ?_ ?_ ?_;(·(exact to_));(·(exact to_))))|(apply ybn;(·(first|(first|exact tk_|(apply yad;(·rfl);(·exact helx _ (row_cells 0 rfl));(·exact hxl))|(apply yad;(·rfl);(·exact hely _ (row_cells 0 rfl));(·exact hyl)))|exact tq_));(·rfl);(·rfl);(·rfl);(·(exact to_))))|refine ycg ?_))
        (refine ycn (call_val rfl Tryz.func103 rfl (by kernel_rfl) rfl) hE rfl rfl rfl ?_ ?_; (· (exact to_)))
        repeat' (refine ycf ?_;(first|(first|(apply ybm;(·(first|(first|exact tk_|(apply yad;(·rfl);(·exact helx _ (row_cells 0 rfl));(·exact hxl))|(apply yad;(·rfl);(·exact hely _ (row_cells 0 rfl));(·exact hyl)))|exact tq_));(·rfl);(·rfl);(·(exact th_)))|refine ybl rfl rfl ?_|((fail_if_success (refine ybi rfl ?_));refine ybj rfl ?_ ?_<;>(intro ht;rw [ht];first|replace ht := oet_ ht|replace ht := oef_ ht|skip))|(refine tb_ ?_ ?_ ?_;(·(exact to_));(·intro _;(exact to_));intro _)|(first|(refine rx_rowstore 0 rfl rfl rfl (sbc_sz x') (by rw [sbc_sz];omega) (sbc_one ox'.1 ox'.2) (spl_flat (j := K) (by omega) (by omega)) rfl rfl ?_ ?_ ?_;(·(exact to_));(·(exact to_)))|(refine tqs_ ?_ ?_ ?_;(·(exact to_));(·(exact to_))))|(apply ybn;(·(first|(first|exact tk_|(apply yad;(·rfl);(·exact helx _ (row_cells 0 rfl));(·exact hxl))|(apply yad;(·rfl);(·exact hely _ (row_cells 0 rfl));(·exact hyl)))|exact tq_));(·rfl);(·rfl);(·rfl);(·(exact to_))))|refine ycg ?_))
        repeat' (first|(refine ycf ?_;apply ybk;(·first|(first|exact tk_|(apply yad;(·rfl);(·exact helx _ (row_cells 0 rfl));(·exact hxl))|(apply yad;(·rfl);(·exact hely _ (row_cells 0 rfl));(·exact hyl))));(·rfl);(·rfl))|(refine rx_rowstore 0 rfl rfl rfl (sbc_sz x') (by rw [sbc_sz];omega) (sbc_one ox'.1 ox'.2) (spl_flat (j := K) (by omega) (by omega)) rfl rfl ?_ ?_ ?_;(·(exact to_));(·(exact to_)))|refine t1_ ?_|(refine ta_ ?_;intro _)|((fail_if_success (refine ybi rfl ?_));refine ybj rfl ?_ ?_<;>(intro ht;rw [ht];first|replace ht := oet_ ht|replace ht := oef_ ht|skip))|(refine ych ?_;first|(refine ybw rfl ?_ ?_<;>intro ht)|(refine ybx rfl ?_ ?_<;>intro ht)))
        refine nx_round (k + 1) ⟨by omega, by omega, ?_⟩ (by omega) ts_ (fun _ s => s)
        rw [hstep, if_neg hxy, hdd]
        obtain ⟨hkl, rfl⟩ := List.getElem?_eq_some_iff.1 hx
        exact (List.take_succ_eq_append_getElem hkl).symm
    · have hk2 : k = m := by omega
      subst hk2
      repeat' (first|(refine ycf ?_;apply ybk;(·first|(exact tk_));(·rfl);(·rfl))|(refine rx_rowstore 0 rfl rfl rfl (sbc_sz x') (by rw [sbc_sz];omega) (sbc_one ox'.1 ox'.2) (spl_flat (j := K) (by omega) (by omega)) rfl rfl ?_ ?_ ?_;(·(exact to_));(·(exact to_)))|refine t1_ ?_|(refine ta_ ?_;intro _)|((fail_if_success (refine ybi rfl ?_));refine ybj rfl ?_ ?_<;>(intro ht;rw [ht];first|replace ht := oet_ ht|replace ht := oef_ ht|skip))|(refine ych ?_;first|(refine ybw rfl ?_ ?_<;>intro ht)|(refine ybx rfl ?_ ?_<;>intro ht)))
      refine nx_ret1 rfl (rv_tmp rfl) (fun w' s' => ⟨_, rfl, ?_, trivial⟩)
      rw [hdd, List.take_of_length_le (by omega)]
      show St _ _ [Res.row _ _ _ l.length _] _
      rw [hm]
      exact s'
end Go.Proofs.YtkkjppeaaicgaaaGreatDoor
end

section
namespace Go.Proofs.YtkkjppeaaicgaaaGreatDoor
open Go Go.Ck
set_option maxRecDepth 100000
set_option maxHeartbeats 4000000
set_option linter.unusedVariables false
theorem sbc_more (x : Sb) : (sbc x)[18]? = some x.mv := by
  show (cxc x.u x.mv ++ [x.bv])[16]? = _
  rw [List.getElem?_append_left (by rw [ycj x.hu]; omega)]
  exact cxc_more x.hu
theorem sb_more {h : View} {L : List Res} {b : Nat} {x : Sb} {v : Value} (c : Cells h L ⟨b, 0, none⟩ (sbc x)) (e : x.mv = v) : CellAt h L b (0 + 2 + 16) v := by
  subst e
  exact c.cell (j := 18) (sbc_more x)
theorem sb_body0 {h : View} {L : List Res} {b : Nat} {x : Sb} {v : Value} (c : Cells h L ⟨b, 0, none⟩ (sbc x)) (e : x.bv = v) : CellAt h L b (0 + 19) v := sb_body' c e
theorem spl_more_s {x : Sb} {v : Value} : spl (sbc x) (0 + 2 + 16) [v] = sbc { x with mv := v } := by
  obtain ⟨a0, a1, a2, a3, a4, a5, a6, a7, a8, a9, a10, a11, a12, a13, a14, a15, e⟩ := list16 x.u x.hu
  unfold sbc spl
  simp only [e, cxc, up]
  rfl
theorem spl_body_s {x : Sb} {v : Value} : spl (sbc x) (0 + 19) [v] = sbc { x with bv := v } := by
  obtain ⟨a0, a1, a2, a3, a4, a5, a6, a7, a8, a9, a10, a11, a12, a13, a14, a15, e⟩ := list16 x.u x.hu
  unfold sbc spl
  simp only [e, cxc, up]
  rfl
theorem sbv_fit {x : Sb} {o : Nat} (h : o ≤ 19) : o + 1 ≤ (sbc x).toArray.size := by
  have := sbc_len x
  simp
  omega
theorem copied_sp (y : Sb) (h : View) (hy : Sv h y) (hl : y.l.length ≤ 1000000) (hb : y.b.length ≤ 1000000) (w : World) (s : St ⟨w, h, []⟩ h [] w) :
    Calls Tryz.prog 104 [sbv y].toArray w fun e w' => ∃ z : View × Sb, e = .returned (sbv z.2) ∧ St ⟨w, h, []⟩ z.1 [] w' ∧ Sv z.1 z.2 ∧ z.2.a = y.a := by
  refine calls_enter Tryz.func104 rfl Tryz.ntmps104 rfl s ?_
  repeat' (first|(refine ycf ?_;apply ybk;(·first|(apply yae;(·rfl);(·(first|exact sb_more (yaz 0 rfl) rfl|exact sb_more (yaz 1 rfl) rfl|exact sb_body0 (yaz 0 rfl) rfl|exact sb_body0 (yaz 1 rfl) rfl))));(·rfl);(·rfl))|refine t1_ ?_|(refine ta_ ?_;intro _)|((fail_if_success (refine ybi rfl ?_));refine ybj rfl ?_ ?_<;>(intro ht;rw [ht];first|replace ht := oet_ ht|replace ht := oef_ ht|skip))|(refine ych ?_;first|(refine ybw rfl ?_ ?_<;>intro ht)|(refine ybx rfl ?_ ?_<;>intro ht)))
  (refine yco (ycp Tryz.func66 rfl (by kernel_rfl) rfl) (clone_sp y.mv y.l h hy.ds hl) rfl rfl rfl ?_ ?_ ?_; (· (exact to_)); (· intro _ _ hle; (exact to_)); intro x px hle)
  clear px hle
  refine rx_persist rfl fun h1 hle1 hs1 => ?_
  have d1 : Ds h1 x y.l := hs1
  obtain ⟨_, ad1, cap1, rfl, _, _⟩ := id d1
  obtain ⟨y1, hy1⟩ : ∃ y1 : Sb, y1 = { y with mv := .slice ad1 y.l.length cap1 } := ⟨_, rfl⟩
  have e1 : spl (sbc y) (0 + 2 + 16) [.slice ad1 y.l.length cap1] = sbc y1 := by rw [hy1]; exact spl_more_s
  have b1 : y1.bv = y.bv := by rw [hy1]
  repeat' (first|(refine ycf ?_;apply ybk;(·first|(apply yae;(·rfl);(·(first|exact sb_more (yaz 0 rfl) rfl|exact sb_more (yaz 1 rfl) rfl|exact sb_body0 (yaz 0 rfl) rfl|exact sb_body0 (yaz 1 rfl) rfl))));(·rfl);(·rfl))|(refine ybg 1 rfl rfl rfl rfl (sbv_fit (by omega)) rfl e1 rfl rfl ?_ ?_ ?_;(·(exact to_));(·(exact to_)))|refine t1_ ?_|(refine ta_ ?_;intro _)|((fail_if_success (refine ybi rfl ?_));refine ybj rfl ?_ ?_<;>(intro ht;rw [ht];first|replace ht := oet_ ht|replace ht := oef_ ht|skip))|(refine ych ?_;first|(refine ybw rfl ?_ ?_<;>intro ht)|(refine ybx rfl ?_ ?_<;>intro ht)))
  (refine yco (ycp Tryz.func57 rfl (by kernel_rfl) rfl) (BClone_sp y1.bv y.b h1 (by rw [b1]; exact hy.bs.mono hle1) hb) rfl rfl rfl ?_ ?_ ?_; (· (exact to_)); (· intro _ _ hle; (exact to_)); intro x px hle)
  clear px hle
  refine rx_persist rfl fun h2 hle2 hs2 => ?_
  have d2 : Bs8 h2 x y.b := hs2
  obtain ⟨_, ad2, cap2, rfl, _, _⟩ := id d2
  obtain ⟨y2, hy2⟩ : ∃ y2 : Sb, y2 = { y1 with bv := .slice ad2 y.b.length cap2 } := ⟨_, rfl⟩
  have e2 : spl (sbc y1) (0 + 19) [.slice ad2 y.b.length cap2] = sbc y2 := by rw [hy2]; exact spl_body_s
  have hl2 := sbc_len y2
  repeat' (first|(refine ycf ?_;apply ybk;(·first|(apply yad;(·rfl);(·exact yaz 1 rfl);(·exact hl2))|(apply yae;(·rfl);(·(first|exact sb_more (yaz 0 rfl) rfl|exact sb_more (yaz 1 rfl) rfl|exact sb_body0 (yaz 0 rfl) rfl|exact sb_body0 (yaz 1 rfl) rfl))));(·rfl);(·rfl))|(first|(refine ybg 1 rfl rfl rfl rfl (sbv_fit (by omega)) rfl e2 rfl rfl ?_ ?_ ?_;(·(exact to_));(·(exact to_)))|(refine ybg 0 rfl rfl rfl (sbc_sz y2) (sbc_fit rfl) (sbc_one (by rw [hy2, hy1];rfl) (by rw [hy2];rfl)) (ybh (sbc_all rfl)) rfl rfl ?_ ?_ ?_;(·(exact to_));(·(exact to_))))|refine t1_ ?_|(refine ta_ ?_;intro _)|((fail_if_success (refine ybi rfl ?_));refine ybj rfl ?_ ?_<;>(intro ht;rw [ht];first|replace ht := oet_ ht|replace ht := oef_ ht|skip))|(refine ych ?_;first|(refine ybw rfl ?_ ?_<;>intro ht)|(refine ybx rfl ?_ ?_<;>intro ht)))
  refine nx_ret1 rfl (rv_cells rfl (yaz 0 rfl) hl2) (fun w' s' => ⟨(h2, y2), rfl, s'.nil, ⟨?_, ?_, ?_⟩, ?_⟩)
  · rw [hy2, hy1]; exact d1.mono hle2
  · rw [hy2, hy1]; exact d2
  · rw [hy2, hy1]; exact hy.by8
  · rw [hy2, hy1]; rfl
end Go.Proofs.YtkkjppeaaicgaaaGreatDoor
end
