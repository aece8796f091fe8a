/-
  Part 9 of a proof: CkAny CkFlA CkFlB TwC TrK.
  Conditions: each theorem states its own.
-/
import Derived.Test.YtndpclcbobgdlaaGreatDoorTwGPM8
set_option maxRecDepth 100000
set_option linter.unusedVariables false
set_option linter.unusedSimpArgs false
section
namespace Go.Ck
open Go
theorem swap2 {P : Program} {ops : Array Oper} {Si Sj : World → Prop} {loi loj : Bool} {oi oj : Oper} (hap : oj.apart ops oi = true) (hsi : ∀ cs b, oi.op ≠ .select cs b) (hsj : ∀ cs b, oj.op ≠ .select cs b)
    (hlo : (loi && loj) = false) (hij : loi = true → ∀ w, Si w → Sj w) (hji : loj = true → ∀ w, Sj w → Si w) {K : Act → World → Prop} {a : Act} {w : World}
    (h : R1 P ops Sj loj false oj (fun a w => R1 P ops Si loi false oi K a w) a w) : R1 P ops Si loi false oi (fun a w => R1 P ops Sj loj false oj K a w) a w := by
  obtain ⟨h1, h2, h3⟩ := Oper.apart_spec hap
  have h2' : ∀ d, oi.dst = some d → oj.dst ≠ some d := fun d hd hj => h2 d hj hd
  have wi : ∀ (a : Act) u, Region.wanted oi (yielded ops (a.put oj.dst u).tmps) = Region.wanted oi (yielded ops a.tmps) := fun a u => wanted_put oi a oj.dst u h1
  have wj : ∀ (a : Act) u, Region.wanted oj (yielded ops (a.put oi.dst u).tmps) = Region.wanted oj (yielded ops a.tmps) := fun a u => wanted_put oj a oi.dst u h3
  have ei : ∀ (a : Act) u, execOp (a.put oj.dst u).eval oi = execOp a.eval oi := fun a u => execOp_put oi hsi a oj.dst u h1
  have ej : ∀ (a : Act) u, execOp (a.put oi.dst u).eval oj = execOp a.eval oj := fun a u => execOp_put oj hsj a oi.dst u h3
  have cm : ∀ (a : Act) u v, (a.put oj.dst u).put oi.dst v = (a.put oi.dst v).put oj.dst u := fun a u v => put_comm' a v u h2
  rcases h with ⟨g0, g1⟩ | ⟨g0, g1, u, g2, g3⟩ | ⟨g0, g1, g2, g3⟩
  · rcases g1 with ⟨k0, k1⟩ | ⟨k0, k1, v, k2, k3⟩ | ⟨k0, k1, k2, k3⟩
    · rw [wi] at k0
      exact .inl ⟨k0, .inl ⟨by rw [wj]; exact g0, by rw [← cm]; exact k1⟩⟩
    · rw [wi] at k0; rw [ei] at k2
      exact .inr (.inl ⟨k0, k1, v, k2, .inl ⟨by rw [wj]; exact g0, by rw [← cm]; exact k3⟩⟩)
    · rw [wi] at k0
      refine .inr (.inr ⟨k0, k1, k2, ?_⟩)
      rw [wp_put (ops := ops) hsi h1 (fun t ht => h2 t ht)] at k3
      refine Oper.wp_mono (fun a' w' hh => ?_) (wp_tag k3)
      obtain ⟨⟨hS, hK⟩, ds, v, rfl⟩ := hh
      exact ⟨hS, .inl ⟨by rw [wj]; exact g0, hK⟩⟩
  · rcases g3 with ⟨k0, k1⟩ | ⟨k0, k1, v, k2, k3⟩ | ⟨k0, k1, k2, k3⟩
    · rw [wi] at k0
      exact .inl ⟨k0, .inr (.inl ⟨by rw [wj]; exact g0, g1, u, by rw [ej]; exact g2, by rw [← cm]; exact k1⟩)⟩
    · rw [wi] at k0; rw [ei] at k2
      exact .inr (.inl ⟨k0, k1, v, k2, .inr (.inl ⟨by rw [wj]; exact g0, g1, u, by rw [ej]; exact g2, by rw [← cm]; exact k3⟩)⟩)
    · rw [wi] at k0
      refine .inr (.inr ⟨k0, k1, k2, ?_⟩)
      rw [wp_put (ops := ops) hsi h1 (fun t ht => h2 t ht)] at k3
      refine Oper.wp_mono (fun a' w' hh => ?_) (wp_tag k3)
      obtain ⟨⟨hS, hK⟩, ds, v, rfl⟩ := hh
      have hS' : Si w' := hS.resolve_right (by simp)
      refine ⟨hS, .inr (.inl ⟨by rw [wj]; exact g0, hij k1 w' hS', u, ?_, hK⟩)⟩
      rw [ej]; exact g2
  · have hli : loi = false := by cases loi <;> simp_all
    have hSw : Sj w := g2.resolve_right (by simp)
    have tg := wp_tag g3
    by_cases k0 : Region.wanted oi (yielded ops a.tmps) = true
    · obtain ⟨a1, w1, ⟨⟨hS1, hR1⟩, ds, u1, rfl⟩⟩ := wp_ex tg
      have hS1 : Sj w1 := hS1.resolve_right (by simp)
      have hw1 : Region.wanted oi (yielded ops ((Act.mk a.tmps ds).put oj.dst u1).tmps) = true := by rw [wi]; exact k0
      rcases hR1 with ⟨q0, _⟩ | ⟨_, _, v, q2, _⟩ | ⟨_, q1, _⟩
      · rw [hw1] at q0; cases q0
      · have hev : execOp (Act.mk a.tmps ds).eval oi = execOp a.eval oi := rfl
        rw [ei, hev] at q2
        refine .inr (.inl ⟨k0, hji g1 w hSw, v, q2, .inr (.inr ⟨by rw [wj]; exact g0, g1, g2, ?_⟩)⟩)
        rw [wp_put (ops := ops) hsj h3 (fun t ht => h2' t ht)]
        refine Oper.wp_mono (fun a' w' hh => ?_) tg
        obtain ⟨⟨hS, hR⟩, ds', u', rfl⟩ := hh
        refine ⟨hS, ?_⟩
        have hw2 : Region.wanted oi (yielded ops ((Act.mk a.tmps ds').put oj.dst u').tmps) = true := by rw [wi]; exact k0
        rcases hR with ⟨q0, _⟩ | ⟨_, _, v', q2', q3'⟩ | ⟨_, q1, _⟩
        · rw [hw2] at q0; cases q0
        · have hev' : execOp (Act.mk a.tmps ds').eval oi = execOp a.eval oi := rfl
          rw [ei, hev'] at q2'
          have : v' = v := by
            have e1 := q2' w1 (hji g1 w1 hS1)
            rw [q2 w1 (hji g1 w1 hS1)] at e1
            cases e1; rfl
          subst this
          exact q3'
        · rw [hli] at q1; cases q1
      · rw [hli] at q1; cases q1
    · have k0 : Region.wanted oi (yielded ops a.tmps) = false := by simpa using k0
      refine .inl ⟨k0, .inr (.inr ⟨by rw [wj]; exact g0, g1, g2, ?_⟩)⟩
      rw [wp_put (ops := ops) hsj h3 (fun t ht => h2' t ht)]
      refine Oper.wp_mono (fun a' w' hh => ?_) tg
      obtain ⟨⟨hS, hR⟩, ds', u', rfl⟩ := hh
      refine ⟨hS, ?_⟩
      have hw2 : Region.wanted oi (yielded ops ((Act.mk a.tmps ds').put oj.dst u').tmps) = false := by rw [wi]; exact k0
      rcases hR with ⟨_, q1⟩ | ⟨q0, _⟩ | ⟨q0, _⟩
      · exact q1
      · rw [hw2] at q0; cases q0
      · rw [hw2] at q0; cases q0
section
variable {P : Program} {ops : Array Oper} {S0 S1 : World → Prop} {lo wk : Nat → Bool} {ms : List Nat}
def Sx (S0 S1 : World → Prop) (wk : Nat → Bool) (i : Nat) : World → Prop := if wk i then S0 else S1
def rdyI (ms l : List Nat) (i : Nat) : Bool := l.all fun j => !(ms.getD i 0).testBit j
def fqI (ms : List Nat) (lo : Nat → Bool) (l : List Nat) : Option Nat := l.find? fun i => !lo i && rdyI ms l i
def era (i : Nat) (l : List Nat) : List Nat := l.filter fun j => !Nat.beq j i
def wpT (P : Program) (ops : Array Oper) (S0 S1 : World → Prop) (lo wk : Nat → Bool) (ms : List Nat) (Q : Act → World → Prop) : Nat → List Nat → Act → World → Prop
  | _, [], a, w => Q a w
  | 0, _ :: _, _, _ => False
  | n + 1, x :: r, a, w => match fqI ms lo (x :: r) with
    | some q => R1 P ops (Sx S0 S1 wk q) (lo q) false (nthO ops.toList q) (wpT P ops S0 S1 lo wk ms Q n (era q (x :: r))) a w
    | none => ∀ i ∈ x :: r, rdyI ms (x :: r) i = true → R1 P ops (Sx S0 S1 wk i) (lo i) false (nthO ops.toList i) (wpT P ops S0 S1 lo wk ms Q n (era i (x :: r))) a w
def anyOk (ops : Array Oper) (ms : List Nat) (lo wk : Nat → Bool) : Bool :=
  maskOk ops ms && Region.noSelect ops && (List.range ops.size).all fun j => lo j || ((List.range ops.size).all fun i => Nat.beq i j || (ms.getD i 0).testBit j || (ms.getD j 0).testBit i ||
    ((wk j || !wk i || !lo i) && match ops[j]?, ops[i]? with
      | some oj, some oi => oj.apart ops oi
      | _, _ => true))
theorem nbeq_f {i j : Nat} : Nat.beq j i = false ↔ j ≠ i := by
  rw [← Bool.not_eq_true]
  exact not_congr ⟨Nat.eq_of_beq_eq_true, fun e => by rw [e]; exact Nat.beq_refl i⟩
theorem era_mem {i j : Nat} {l : List Nat} : j ∈ era i l ↔ j ∈ l ∧ j ≠ i := by
  unfold era
  rw [List.mem_filter]
  refine and_congr_right fun _ => ?_
  rw [Bool.not_eq_true', nbeq_f]
theorem era_comm (i j : Nat) (l : List Nat) : era i (era j l) = era j (era i l) := by
  unfold era
  rw [List.filter_filter, List.filter_filter]
  congr 1
  funext k
  exact Bool.and_comm _ _
theorem era_nodup {i : Nat} {l : List Nat} (h : l.Nodup) : (era i l).Nodup := h.sublist List.filter_sublist
theorem era_none {i : Nat} {l : List Nat} (h : i ∉ l) : era i l = l := by
  unfold era
  rw [List.filter_eq_self]
  intro a ha
  have : a ≠ i := fun e => h (e ▸ ha)
  rw [nbeq_f.2 this]; rfl
theorem era_len {i : Nat} : ∀ {l : List Nat}, l.Nodup → i ∈ l → (era i l).length + 1 = l.length
  | [], _, h => by cases h
  | x :: l, hn, h => by
    have hn' := List.nodup_cons.1 hn
    by_cases hx : x = i
    · subst hx
      have e : era x (x :: l) = era x l := by simp [era]
      rw [e, era_none hn'.1]
      rfl
    · have e : era i (x :: l) = x :: era i l := by
        unfold era
        rw [List.filter_cons_of_pos (by rw [nbeq_f.2 hx]; rfl)]
      rw [e, List.length_cons, List.length_cons]
      have := era_len hn'.2 ((List.mem_cons.1 h).resolve_left (fun e => hx e.symm))
      omega
theorem rdy_era {i j : Nat} {l : List Nat} (h : rdyI ms l i = true) : rdyI ms (era j l) i = true := by
  unfold rdyI at *
  rw [List.all_eq_true] at *
  exact fun k hk => h k (era_mem.1 hk).1
theorem rdy_bit {i j : Nat} {l : List Nat} (h : rdyI ms l i = true) (hj : j ∈ l) : (ms.getD i 0).testBit j = false := by
  have := List.all_eq_true.1 h j hj
  simpa using this
theorem nthO_at {l : List Oper} {i : Nat} (h : i < l.length) : l[i]? = some (nthO l i) := by
  induction l generalizing i with
  | nil => simp at h
  | cons o l ih =>
    cases i with
    | zero => rfl
    | succ i => simpa [nthO] using ih (by simpa using h)
theorem any_pass (hS : ∀ w, S1 w → S0 w) (hB : anyOk ops ms lo wk = true) {i j : Nat} (hi : i < ops.size) (hj : j < ops.size) (hne : i ≠ j) (hq : lo j = false) (b1 : (ms.getD i 0).testBit j = false) (b2 : (ms.getD j 0).testBit i = false) {K : Act → World → Prop} {a : Act} {w : World}
    (h : R1 P ops (Sx S0 S1 wk j) (lo j) false (nthO ops.toList j) (fun a w => R1 P ops (Sx S0 S1 wk i) (lo i) false (nthO ops.toList i) K a w) a w) : R1 P ops (Sx S0 S1 wk i) (lo i) false (nthO ops.toList i) (fun a w => R1 P ops (Sx S0 S1 wk j) (lo j) false (nthO ops.toList j) K a w) a w := by
  simp only [anyOk, Bool.and_eq_true] at hB
  obtain ⟨⟨hm, hsel⟩, hp⟩ := hB
  have h1 := List.all_eq_true.1 hp j (List.mem_range.2 hj)
  rw [hq, Bool.false_or] at h1
  have h2 := List.all_eq_true.1 h1 i (List.mem_range.2 hi)
  have hib : Nat.beq i j = false := by
    cases hb : Nat.beq i j with
    | false => rfl
    | true => exact absurd (Nat.eq_of_beq_eq_true hb) hne
  have oi : ops[i]? = some (nthO ops.toList i) := by rw [← Array.getElem?_toList]; exact nthO_at (by simpa using hi)
  have oj : ops[j]? = some (nthO ops.toList j) := by rw [← Array.getElem?_toList]; exact nthO_at (by simpa using hj)
  rw [hib, b1, b2, oi, oj] at h2
  simp only [Bool.false_or, Bool.and_eq_true, Bool.or_eq_true, Bool.not_eq_true'] at h2
  obtain ⟨g1, g3⟩ := h2
  refine swap2 g3 (fun cs b => Region.noSelect_spec hsel i _ cs b oi) (fun cs b => Region.noSelect_spec hsel j _ cs b oj) (by rw [hq, Bool.and_false]) (fun hl w hs => ?_) (fun hl => by rw [hq] at hl; cases hl) h
  unfold Sx at hs ⊢
  rcases g1 with (g | g) | g
  · rw [if_pos g]
    split at hs
    · exact hs
    · exact hS w hs
  · rw [if_neg (by rw [g]; simp)] at hs
    split
    · exact hS w hs
    · exact hs
  · rw [hl] at g; cases g
theorem wpT_pos {Q : Act → World → Prop} {n : Nat} {l : List Nat} (hne : l ≠ []) {a : Act} {w : World} : wpT P ops S0 S1 lo wk ms Q (n + 1) l a w ↔ (match fqI ms lo l with
    | some q => R1 P ops (Sx S0 S1 wk q) (lo q) false (nthO ops.toList q) (wpT P ops S0 S1 lo wk ms Q n (era q l)) a w
    | none => ∀ i ∈ l, rdyI ms l i = true → R1 P ops (Sx S0 S1 wk i) (lo i) false (nthO ops.toList i) (wpT P ops S0 S1 lo wk ms Q n (era i l)) a w) := by
  cases l with
  | nil => exact absurd rfl hne
  | cons x r => rfl
theorem fq_some {l : List Nat} {q : Nat} (h : fqI ms lo l = some q) : q ∈ l ∧ lo q = false ∧ rdyI ms l q = true := by
  have h1 := List.find?_some h
  have h2 := List.mem_of_find?_eq_some h
  simp only [Bool.and_eq_true, Bool.not_eq_true'] at h1
  exact ⟨h2, h1.1, h1.2⟩
theorem fq_none {l : List Nat} (h : fqI ms lo l = none) {q : Nat} (hq : q ∈ l) (hl : lo q = false) : rdyI ms l q = false := by
  have := List.find?_eq_none.1 h q hq
  simpa [hl] using this
theorem wpT_AB (hS : ∀ w, S1 w → S0 w) (hB : anyOk ops ms lo wk = true) {Q : Act → World → Prop} : ∀ n : Nat,
    (∀ l : List Nat, l.length = n + 1 → l.Nodup → (∀ i ∈ l, i < ops.size) → ∀ a w, wpT P ops S0 S1 lo wk ms Q (n + 1) l a w → ∀ i ∈ l, rdyI ms l i = true → R1 P ops (Sx S0 S1 wk i) (lo i) false (nthO ops.toList i) (wpT P ops S0 S1 lo wk ms Q n (era i l)) a w) ∧
    (∀ l : List Nat, l.length = n + 1 → l.Nodup → (∀ i ∈ l, i < ops.size) → ∀ q ∈ l, lo q = false → rdyI ms l q = true → ∀ a w, R1 P ops (Sx S0 S1 wk q) (lo q) false (nthO ops.toList q) (wpT P ops S0 S1 lo wk ms Q n (era q l)) a w → wpT P ops S0 S1 lo wk ms Q (n + 1) l a w) := by
  intro n
  induction n with
  | zero =>
    have one : ∀ l : List Nat, l.length = 0 + 1 → ∀ i ∈ l, ∀ q ∈ l, i = q := fun l hl i hi q hq => by
      match l, hl with
      | [x], _ => rw [List.mem_singleton.1 hi, List.mem_singleton.1 hq]
    refine ⟨fun l hl hn hs a w h i hi hr => ?_, fun l hl hn hs q hq hlo hr a w h => ?_⟩
    · rw [wpT_pos (List.ne_nil_of_mem hi)] at h
      cases hf : fqI ms lo l with
      | none => rw [hf] at h; exact h i hi hr
      | some q =>
        rw [hf] at h
        obtain rfl := one l hl i hi q (fq_some hf).1
        exact h
    · rw [wpT_pos (List.ne_nil_of_mem hq)]
      cases hf : fqI ms lo l with
      | none => exact absurd hr (by rw [fq_none hf hq hlo]; simp)
      | some q' =>
        obtain rfl := one l hl q hq q' (fq_some hf).1
        exact h
  | succ n ih =>
    obtain ⟨ihA, ihB⟩ := ih
    have rest : ∀ l : List Nat, l.length = n + 1 + 1 → l.Nodup → (∀ i ∈ l, i < ops.size) → ∀ i ∈ l, (era i l).length = n + 1 ∧ (era i l).Nodup ∧ ∀ k ∈ era i l, k < ops.size := fun l hl hn hs i hi =>
      ⟨by have := era_len hn hi; omega, era_nodup hn, fun k hk => hs k (era_mem.1 hk).1⟩
    have B : ∀ l : List Nat, l.length = n + 1 + 1 → l.Nodup → (∀ i ∈ l, i < ops.size) → ∀ q ∈ l, lo q = false → rdyI ms l q = true → ∀ a w, R1 P ops (Sx S0 S1 wk q) (lo q) false (nthO ops.toList q) (wpT P ops S0 S1 lo wk ms Q (n + 1) (era q l)) a w → wpT P ops S0 S1 lo wk ms Q (n + 1 + 1) l a w := by
      intro l hl hn hs q hq hlo hr a w h
      rw [wpT_pos (List.ne_nil_of_mem hq)]
      cases hf : fqI ms lo l with
      | none => exact absurd hr (by rw [fq_none hf hq hlo]; simp)
      | some p =>
        obtain ⟨p1, p2, p3⟩ := fq_some hf
        by_cases hpq : p = q
        · subst hpq; exact h
        · obtain ⟨r1, r2, r3⟩ := rest l hl hn hs q hq
          have hpe : p ∈ era q l := era_mem.2 ⟨p1, hpq⟩
          have hqe : q ∈ era p l := era_mem.2 ⟨hq, fun e => hpq e.symm⟩
          have h1 := R1.mono (fun a w hh => ihA (era q l) r1 r2 r3 a w hh p hpe (rdy_era p3)) h
          have h2 := any_pass hS hB (hs p p1) (hs q hq) hpq hlo (rdy_bit p3 hq) (rdy_bit hr p1) h1
          obtain ⟨t1, t2, t3⟩ := rest l hl hn hs p p1
          refine R1.mono (fun a w hh => ?_) h2
          rw [era_comm] at hh
          exact ihB (era p l) t1 t2 t3 q hqe hlo (rdy_era hr) a w hh
    refine ⟨fun l hl hn hs a w h i hi hr => ?_, B⟩
    rw [wpT_pos (List.ne_nil_of_mem hi)] at h
    cases hf : fqI ms lo l with
    | none => rw [hf] at h; exact h i hi hr
    | some q =>
      rw [hf] at h
      obtain ⟨q1, q2, q3⟩ := fq_some hf
      by_cases hiq : i = q
      · subst hiq; exact h
      · obtain ⟨r1, r2, r3⟩ := rest l hl hn hs q q1
        have hie : i ∈ era q l := era_mem.2 ⟨hi, hiq⟩
        have hqe : q ∈ era i l := era_mem.2 ⟨q1, fun e => hiq e.symm⟩
        have h1 := R1.mono (fun a w hh => ihA (era q l) r1 r2 r3 a w hh i hie (rdy_era hr)) h
        have h2 := any_pass hS hB (hs i hi) (hs q q1) hiq q2 (rdy_bit hr q1) (rdy_bit q3 hi) h1
        obtain ⟨t1, t2, t3⟩ := rest l hl hn hs i hi
        refine R1.mono (fun a w hh => ?_) h2
        rw [era_comm] at hh
        exact ihB (era i l) t1 t2 t3 q hqe q2 (rdy_era q3) a w hh
theorem era_split {i : Nat} : ∀ {l1 l2 : List Nat}, (l1 ++ i :: l2).Nodup → era i (l1 ++ i :: l2) = l1 ++ l2 := fun {l1 l2} hn => by
  rw [List.nodup_append] at hn
  obtain ⟨_, h2, h3⟩ := hn
  have h4 := List.nodup_cons.1 h2
  have e1 : era i (l1 ++ i :: l2) = era i l1 ++ era i (i :: l2) := by simp [era]
  have e2 : era i (i :: l2) = era i l2 := by simp [era]
  rw [e1, e2, era_none (fun h => h3 i h i (List.mem_cons_self ..) rfl), era_none h4.1]
theorem pickL_split {o : List Oper} : ∀ {l : List Nat} {m1 m2 : List (Nat × Oper)} {i : Nat} {oi : Oper}, pickL o l = m1 ++ (i, oi) :: m2 → ∃ l1 l2, l = l1 ++ i :: l2 ∧ m1 = pickL o l1 ∧ m2 = pickL o l2
  | [], m1, m2, i, oi, h => by simp [pickL] at h
  | x :: l, [], m2, i, oi, h => by
    simp only [pickL, List.nil_append, List.cons.injEq, Prod.mk.injEq] at h
    obtain ⟨⟨rfl, _⟩, rfl⟩ := h
    exact ⟨[], l, rfl, rfl, rfl⟩
  | x :: l, y :: m1, m2, i, oi, h => by
    simp only [pickL, List.cons_append, List.cons.injEq] at h
    obtain ⟨rfl, h⟩ := h
    obtain ⟨l1, l2, rfl, rfl, rfl⟩ := pickL_split h
    exact ⟨x :: l1, l2, rfl, rfl, rfl⟩
theorem tree_any {Q : Exit → Act → World → Prop} (hS : ∀ w, S1 w → S0 w) (hB : anyOk ops ms lo wk = true) :
    ∀ (fuel : Nat) (l : List Nat) (listed : Array Bool) (a : Act) (w : World), l.length ≤ fuel → l.Nodup → Inv ops listed (pickL ops.toList l) →
      wpT P ops S0 S1 lo wk ms (Q .normal) l.length l a w → wpAny P .any ops Q fuel listed a w := by
  have hB' := hB
  simp only [anyOk, Bool.and_eq_true] at hB'
  obtain ⟨⟨hm, hsel⟩, _⟩ := hB'
  have hszI : ∀ {l : List Nat} {listed : Array Bool}, Inv ops listed (pickL ops.toList l) → ∀ i ∈ l, i < ops.size := fun {l listed} inv i hi =>
    (Array.getElem?_eq_some_iff.1 (inv.pr (i, nthO ops.toList i) (pickL_mem.2 ⟨hi, rfl⟩))).1
  have head : ∀ (l : List Nat) (listed : Array Bool), Inv ops listed (pickL ops.toList l) → Region.ready .any ops listed = [] → l = [] := by
    intro l listed inv hr
    cases l with
    | nil => rfl
    | cons i r =>
      have hio : ops[i]? = some (nthO ops.toList i) := inv.pr (i, nthO ops.toList i) (List.mem_cons_self ..)
      have hlt : i < ops.size := (Array.getElem?_eq_some_iff.1 hio).1
      have : i ∈ Region.ready .any ops listed := by
        refine mem_ready.2 ⟨(inv.left i hlt).2 ⟨_, List.mem_cons_self ..⟩, _, hio, fun e he hb => ?_⟩
        have hei := (maskOk_spec hm hio).2 e he hb
        have hel : e.on < ops.size := by omega
        rw [← getD_tf (by rw [inv.size]; exact hel)]
        cases hg : listed.getD e.on true with
        | true => rfl
        | false =>
          obtain ⟨o2, hm2⟩ := (inv.left _ hel).1 hg
          rcases List.mem_cons.1 hm2 with hm2 | hm2
          · cases hm2; omega
          · have h9 : i < e.on := (List.pairwise_cons.1 inv.sorted).1 _ hm2
            omega
      rw [hr] at this
      cases this
  intro fuel
  induction fuel with
  | zero =>
    intro l listed a w hl hn inv h
    have : l = [] := List.eq_nil_of_length_eq_zero (by omega)
    subst this
    refine ⟨?_, h⟩
    cases hr : Region.ready .any ops listed with
    | nil => rfl
    | cons i r =>
      have hi : i ∈ Region.ready .any ops listed := by rw [hr]; exact List.mem_cons_self ..
      obtain ⟨hun, o, ho, _⟩ := mem_ready.1 hi
      obtain ⟨_, hm2⟩ := (inv.left i (Array.getElem?_eq_some_iff.1 ho).1).1 hun
      cases hm2
  | succ fuel ih =>
    intro l listed a w hl hn inv h
    refine ⟨fun hr => by rw [head l listed inv hr] at h; exact h, fun i hi => ?_⟩
    obtain ⟨hun, o, ho, hall⟩ := mem_ready.1 hi
    have hlt := (Array.getElem?_eq_some_iff.1 ho).1
    obtain ⟨o', hm2⟩ := (inv.left i hlt).1 hun
    obtain ⟨m1, m2, he⟩ := List.append_of_mem hm2
    have inv' := inv
    rw [he] at inv'
    obtain ⟨l1, l2, rfl, rfl, rfl⟩ := pickL_split he
    have hmem : i ∈ l1 ++ i :: l2 := by simp
    have hr : rdyI ms (l1 ++ i :: l2) i = true := by
      unfold rdyI
      rw [List.all_eq_true]
      intro j hj
      cases hb : (ms.getD i 0).testBit j with
      | false => rfl
      | true =>
        exfalso
        have hlj := mask_listed hm inv.closed i o ho hall j hb
        have hjs := hszI inv j hj
        have := (inv.left j hjs).2 ⟨nthO ops.toList j, pickL_mem.2 ⟨hj, rfl⟩⟩
        rw [getD_tf (by rw [inv.size]; exact hjs)] at this
        rw [this] at hlj
        cases hlj
    have hlen : (l1 ++ i :: l2).length = (l1 ++ l2).length + 1 := by simp; omega
    rw [hlen] at h
    have h1 := (wpT_AB hS hB (l1 ++ l2).length).1 _ hlen hn (hszI inv) a w h i hmem hr
    rw [era_split hn] at h1
    have hoo : ops[i]? = some (nthO ops.toList i) := by rw [← Array.getElem?_toList]; exact nthO_at (by simpa using hlt)
    refine (R1.mono (fun a' w' h' => ih (l1 ++ l2) (listed.setIfInBounds i true) a' w' (by omega) ?_ ?_ h') h1).op hoo
    · have := era_split hn
      rw [← this]
      exact era_nodup hn
    · rw [pickL_append]
      exact inv'.step hi
theorem wp_region_tree {id : Nat} {Q : Exit → Act → World → Prop} {a : Act} {w : World} (hS : ∀ w, S1 w → S0 w) (hm : P.follows .mixedOrders = true) (hB : anyOk ops (masks ops) lo wk = true)
    (h : wpT P ops S0 S1 lo wk (masks ops) (Q .normal) (List.range ops.size).length (List.range ops.size) a w.drew) : (Code.region id ops true).wp P Q a w := by
  have hmem : ∀ i o, (i, o) ∈ pickL ops.toList (List.range ops.size) ↔ i < ops.size ∧ o = nthO ops.toList i := fun i o => by rw [pickL_mem]; simp
  refine wp_region_any hm (tree_any hS hB _ (List.range ops.size) _ a _ (by simp) List.nodup_range ⟨?_, ?_, ?_, ?_, ?_⟩ h)
  · rintro ⟨i, o⟩ hp
    obtain ⟨h1, rfl⟩ := (hmem i o).1 hp
    rw [← Array.getElem?_toList]
    exact nthO_at (by simpa using h1)
  · exact pickL_pair List.pairwise_lt_range
  · intro i hi
    simp only [Array.getD_eq_getD_getElem?, Array.getElem?_replicate, hi, if_true, Option.getD_some, true_iff]
    exact ⟨_, (hmem i _).2 ⟨hi, rfl⟩⟩
  · intro i o ho hl
    simp only [Array.getD_eq_getD_getElem?, Array.getElem?_replicate] at hl
    split at hl <;> simp at hl
  · simp
end
structure Tg where
  ops : Array Oper
  h : View
  LS : List Res
  lo : Nat → Bool
  wk : Nat → Bool
def Tg.at (g : Tg) (f : Bool) : Rg := ⟨g.ops, Hd g.h (if f then [] else g.LS), g.lo, fun _ => false⟩
section
variable {P : Program} {n : Nat} {K : Bs} {g : Tg} {F : List (Nat × Value)} {h : View} {L : List Res} {Q : Exit → Act → World → Prop}
abbrev wpU (P : Program) (g : Tg) (Q : Act → World → Prop) : Nat → List Nat → Act → World → Prop := wpT P g.ops (Hd g.h []) (Hd g.h g.LS) g.lo g.wk (masks g.ops) Q
theorem hd_weak {h : View} {L : List Res} (w : World) (s : Hd h L w) : Hd h [] w := Hd.sub s (Le.refl h) (fun r hr => by cases hr)
theorem at_S {f : Bool} {i : Nat} (hf : g.wk i = f) : (g.at f).S = Sx (Hd g.h []) (Hd g.h g.LS) g.wk i := by
  subst hf
  unfold Sx Tg.at
  dsimp only
  cases g.wk i <;> rfl
theorem r1_at {f : Bool} {i : Nat} (hf : g.wk i = f) {b : Bool} {o : Oper} {K' : Act → World → Prop} {a : Act} {w : World} (hh : R1 P g.ops (g.at f).S b false o K' a w) : R1 P g.ops (Sx (Hd g.h []) (Hd g.h g.LS) g.wk i) b false o K' a w := by
  rw [← at_S hf]
  exact hh
def TX (P : Program) (n : Nat) (K : Bs) (g : Tg) (l : List Nat) (F : List (Nat × Value)) (h : View) (L : List Res) (Q : Exit → Act → World → Prop) : Prop :=
  ∀ a w, Fr n F a → St K h L w → wpU P g (Q .normal) l.length l a w
def TQ (P : Program) (g : Tg) (l : List Nat) (Q : Exit → Act → World → Prop) : Exit → Act → World → Prop := fun _ a w =>
  wpU P g (Q .normal) l.length l a w
def runI (ms : List Nat) (lo : Nat → Bool) : Nat → List Nat → List Nat × List Nat
  | 0, l => ([], l)
  | k + 1, l => match fqI ms lo l with
    | some q => (q :: (runI ms lo k (era q l)).1, (runI ms lo k (era q l)).2)
    | none => ([], l)
def runOk (g : Tg) (f : Bool) (l qs r : List Nat) : Bool := runI (masks g.ops) g.lo qs.length l == (qs, r) && decide l.Nodup && qs.all fun i => g.wk i == f
theorem run_wp {Q : Act → World → Prop} {f : Bool} : ∀ (k : Nat) (l qs r : List Nat), l.Nodup → runI (masks g.ops) g.lo k l = (qs, r) → (∀ i ∈ qs, g.wk i = f) → ∀ a w,
    wpX P g.ops (g.at f).S g.lo (g.at f).bar (wpU P g Q r.length r) (pickL g.ops.toList qs) a w → wpU P g Q l.length l a w
  | 0, l, qs, r, hn, h, hf, a, w, hx => by cases h; exact hx
  | k + 1, l, qs, r, hn, h, hf, a, w, hx => by
    unfold runI at h
    cases hq : fqI (masks g.ops) g.lo l with
    | none => rw [hq] at h; cases h; exact hx
    | some q =>
      rw [hq] at h
      obtain ⟨q1, q2, q3⟩ := fq_some hq
      cases h
      have hl := era_len hn q1
      unfold wpU at *
      rw [← hl, wpT_pos (List.ne_nil_of_mem q1), hq]
      have h1 : R1 P g.ops (g.at f).S (g.lo q) false (nthO g.ops.toList q) _ a w := hx
      replace h1 := r1_at (hf q (List.mem_cons_self ..)) h1
      refine R1.mono (fun a w hh => run_wp k (era q l) _ _ (era_nodup hn) rfl (fun i hi => hf i (List.mem_cons_of_mem _ hi)) a w hh) h1
theorem cx_region_any {id : Nat} {ops : Array Oper} (LS : List Res) (lou wks : List Nat) (l : List Nat) (hm : P.follows .mixedOrders = true) (hB : (anyOk ops (masks ops) (fun i => lou.contains i) (fun i => wks.contains i) && l == List.range ops.size) = true)
    (hx : TX P n K ⟨ops, h, LS, fun i => lou.contains i, fun i => wks.contains i⟩ l F h L Q) : CX P n K (.region id ops true) F h L Q := by
  simp only [Bool.and_eq_true, beq_iff_eq] at hB
  obtain ⟨hB, rfl⟩ := hB
  unfold CX
  unfold TX at hx
  exact fun a w f s => wp_region_tree (S0 := Hd h []) (S1 := Hd h LS) hd_weak hm hB (hx a w.drew ⟨f.size, f.dfs, f.get⟩ s.drew)
theorem tx_run {l : List Nat} (f : Bool) (qs r : List Nat) (hr : runOk g f l qs r = true) (hx : RX P n K (g.at f) (pickL g.ops.toList qs) F h L (TQ P g r Q)) : TX P n K g l F h L Q := by
  simp only [runOk, Bool.and_eq_true, beq_iff_eq, decide_eq_true_eq] at hr
  unfold TX
  unfold RX at hx
  exact fun a w fr s => run_wp _ _ _ _ hr.1.2 hr.1.1 (fun i hi => by have := List.all_eq_true.1 hr.2 i hi; simpa using this) a w (hx a w fr s)
theorem nx_tq {l : List Nat} (hx : TX P n K g l F h L Q) : NX n K .normal F h L (TQ P g l Q) := by
  unfold NX
  exact hx
theorem tx_end (hx : NX n K .normal F h L Q) : TX P n K g [] F h L Q := by
  unfold TX
  unfold NX at hx
  exact hx
theorem tx_to {l : List Nat} {F' : List (Nat × Value)} {L' : List Res} (hF : Sub F' F) (hL : ∀ w, St K h L w → St K h L' w) (hx : TX P n K g l F' h L' Q) : TX P n K g l F h L Q := by
  unfold TX at *
  exact fun a w f s => hx a w (f.sub hF) (hL w s)
def brOk (g : Tg) (l : List Nat) (bs : List (Nat × List Nat)) : Bool :=
  (fqI (masks g.ops) g.lo l).isNone && !l.isEmpty && decide l.Nodup && l.all fun i => !rdyI (masks g.ops) l i || bs.any fun b => Nat.beq b.1 i && b.2 == era i l
theorem tx_br {l : List Nat} {bs : List (Nat × List Nat)} (hb : brOk g l bs = true) (hx : ∀ b ∈ bs, RX P n K (g.at (g.wk b.1)) (pickL g.ops.toList [b.1]) F h L (TQ P g b.2 Q)) : TX P n K g l F h L Q := by
  simp only [brOk, Bool.and_eq_true, decide_eq_true_eq, Bool.not_eq_true', Option.isNone_iff_eq_none] at hb
  obtain ⟨⟨⟨h1, h2⟩, h3⟩, h4⟩ := hb
  have hne : l ≠ [] := fun e => by rw [e] at h2; cases h2
  unfold TX
  intro a w f s
  obtain ⟨m, hm⟩ : ∃ m, l.length = m + 1 := ⟨l.length - 1, by
    have : 0 < l.length := List.length_pos_iff.2 hne
    omega⟩
  unfold wpU
  rw [hm, wpT_pos hne, h1]
  intro i hi hr
  have h5 := List.all_eq_true.1 h4 i hi
  rw [hr] at h5
  simp only [Bool.not_true, Bool.false_or, List.any_eq_true, Bool.and_eq_true, beq_iff_eq] at h5
  obtain ⟨⟨j, r⟩, hb, hj, rfl⟩ := h5
  have hj : j = i := Nat.eq_of_beq_eq_true hj
  subst hj
  have h6 := hx _ hb
  unfold RX at h6
  have hl := era_len h3 hi
  have : (era j l).length = m := by omega
  have h7 : R1 P g.ops (g.at (g.wk j)).S (g.lo j) false (nthO g.ops.toList j) _ a w := h6 a w f s
  replace h7 := r1_at rfl h7
  rw [← this]
  exact h7
theorem tx_1 {l : List Nat} (f : Bool) (i : Nat) (r : List Nat) (hb : (brOk g l [(i, r)] && (g.wk i == f)) = true) (hx : RX P n K (g.at f) (pickL g.ops.toList [i]) F h L (TQ P g r Q)) : TX P n K g l F h L Q := by
  simp only [Bool.and_eq_true, beq_iff_eq] at hb
  obtain ⟨hb, rfl⟩ := hb
  exact tx_br hb fun b hb => by rw [List.mem_singleton.1 hb]; exact hx
end
end Go.Ck
end

section
namespace Go.Ck
open Go
structure Flg where
  i : Nat
  s : Nat
  p : Value → Res → Prop
abbrev Dng := List (Flg × (Value × Res))
def FDg (D : Dng) : List (Nat × Value) := D.map fun d => (d.1.s, d.2.1)
def LDg (D : Dng) : List Res := D.map fun d => d.2.2
def Okg (D : Dng) : Prop := ∀ d ∈ D, d.1.p d.2.1 d.2.2
section
variable {P : Program} {n : Nat} {K : Bs} {g : Tg} {Y : List Flg} {F F0 : List (Nat × Value)} {h h0 : View} {L : List Res} {Q : Exit → Act → World → Prop}
structure FlgOk (P : Program) (n : Nat) (K : Bs) (g : Tg) (F0 : List (Nat × Value)) (h0 : View) (y : Flg) : Prop where
  dst : (nthO g.ops.toList y.i).dst = some y.s
  okd : okd n (some y.s) = true
  gd : (nthO g.ops.toList y.i).guard = none
  lo : g.lo y.i = true
  wp : ∀ h L, Le h0 h → ∀ a w, Fr n F0 a → St K h L w → (nthO g.ops.toList y.i).wp P a w (fun a' w' => ∃ v R, a' = a.put (some y.s) v ∧ y.p v R ∧ St K h (R :: L) w') NoQ
structure Flts (P : Program) (n : Nat) (K : Bs) (g : Tg) (F0 : List (Nat × Value)) (h0 : View) (Y : List Flg) : Prop where
  ok : ∀ y ∈ Y, FlgOk P n K g F0 h0 y
  ns : (Y.map (·.s)).Nodup
  ni : (Y.map (·.i)).Nodup
theorem flts3 {a b c : Flg} (ha : FlgOk P n K g F0 h0 a) (hb : FlgOk P n K g F0 h0 b) (hc : FlgOk P n K g F0 h0 c) (hd : (decide ([a.s, b.s, c.s].Nodup) && decide ([a.i, b.i, c.i].Nodup)) = true) : Flts P n K g F0 h0 [a, b, c] := by
  simp only [Bool.and_eq_true, decide_eq_true_eq] at hd
  exact ⟨fun y hy => by
    rcases List.mem_cons.1 hy with rfl | hy
    · exact ha
    · rcases List.mem_cons.1 hy with rfl | hy
      · exact hb
      · rw [List.mem_singleton.1 hy]; exact hc, hd.1, hd.2⟩
def Flt (Y : List Flg) (D : Dng) (ys : List Flg) : Prop := (D.map (·.1) ++ ys).Perm Y ∧ Okg D
def mg (l l0 : List Nat) (ys : List Flg) : List Nat := l.filter fun i => l0.contains i || ys.any fun y => Nat.beq y.i i
theorem mg_mem {l l0 : List Nat} {ys : List Flg} {i : Nat} : i ∈ mg l l0 ys ↔ i ∈ l ∧ (i ∈ l0 ∨ ∃ y ∈ ys, y.i = i) := by
  unfold mg
  rw [List.mem_filter]
  refine and_congr_right fun _ => ?_
  simp [List.any_eq_true]
theorem era_mg_y {l l0 : List Nat} {ys1 ys2 : List Flg} {y : Flg} (h0 : y.i ∉ l0) (hn : ((ys1 ++ y :: ys2).map (·.i)).Nodup) : era y.i (mg l l0 (ys1 ++ y :: ys2)) = mg l l0 (ys1 ++ ys2) := by
  unfold era mg
  rw [List.filter_filter]
  refine List.filter_congr fun i _ => ?_
  rw [Bool.eq_iff_iff]
  simp only [Bool.and_eq_true, Bool.not_eq_true', nbeq_f, Bool.or_eq_true, List.any_eq_true, List.mem_append, List.mem_cons, List.contains_iff_mem]
  rw [List.map_append, List.map_cons, List.nodup_append] at hn
  obtain ⟨n1, n2, n3⟩ := hn
  have n4 := (List.nodup_cons.1 n2).1
  constructor
  · rintro ⟨h1, h2 | ⟨z, hz, hb⟩⟩
    · exact .inl h2
    · have hb' := Nat.eq_of_beq_eq_true hb
      refine .inr ⟨z, ?_, hb⟩
      rcases hz with hz | rfl | hz
      · exact .inl hz
      · exact absurd hb'.symm h1
      · exact .inr hz
  · rintro (h2 | ⟨z, hz, hb⟩)
    · exact ⟨fun e => h0 (e ▸ h2), .inl h2⟩
    · have hb' := Nat.eq_of_beq_eq_true hb
      refine ⟨fun e => ?_, .inr ⟨z, hz.imp id .inr, hb⟩⟩
      rcases hz with hz | hz
      · exact n3 z.i (List.mem_map_of_mem hz) y.i (List.mem_cons_self ..) (by rw [hb', e])
      · exact n4 (List.mem_map.2 ⟨z, hz, by rw [hb', e]⟩)
theorem era_mg_c {l l0 : List Nat} {ys : List Flg} {c : Nat} (hc : ∀ y ∈ ys, y.i ≠ c) : era c (mg l l0 ys) = mg l (era c l0) ys := by
  unfold mg
  have : ∀ i, (!Nat.beq i c && (l0.contains i || ys.any fun y => Nat.beq y.i i)) = ((era c l0).contains i || ys.any fun y => Nat.beq y.i i) := fun i => by
    rw [Bool.eq_iff_iff]
    simp only [Bool.and_eq_true, Bool.not_eq_true', nbeq_f, Bool.or_eq_true, List.any_eq_true, List.contains_iff_mem, era_mem]
    constructor
    · rintro ⟨h1, h2 | h2⟩
      · exact .inl ⟨h2, h1⟩
      · exact .inr h2
    · rintro (⟨h1, h2⟩ | ⟨y, hy, hb⟩)
      · exact ⟨h2, .inl h1⟩
      · exact ⟨fun e => hc y hy ((Nat.eq_of_beq_eq_true hb).trans e), .inr ⟨y, hy, hb⟩⟩
  show (l.filter _).filter _ = _
  rw [List.filter_filter]
  exact List.filter_congr fun i _ => this i
theorem flg_step {D : Dng} {y : Flg} (hy : FlgOk P n K g F0 h0 y) (hh : Le h0 h) (hF0 : Sub F0 F) (fresh : lk (F ++ FDg D) y.s = none) (hO : ∀ D w, Hd h (L ++ LDg D) w → Hd g.h g.LS w) {a : Act} {w : World} (f : Fr n (F ++ FDg D) a) (s : St K h (L ++ LDg D) w) {K' : Act → World → Prop}
    (hk : ∀ v R a' w', y.p v R → Fr n (F ++ FDg (D ++ [(y, v, R)])) a' → St K h (L ++ LDg (D ++ [(y, v, R)])) w' → K' a' w') : R1 P g.ops (Sx (Hd g.h []) (Hd g.h g.LS) g.wk y.i) (g.lo y.i) false (nthO g.ops.toList y.i) K' a w := by
  have hw : Region.wanted (nthO g.ops.toList y.i) (yielded g.ops a.tmps) = true := by simp [Region.wanted, hy.gd]
  have hS : ∀ w, Hd g.h g.LS w → Sx (Hd g.h []) (Hd g.h g.LS) g.wk y.i w := fun w s => by
    unfold Sx
    split
    · exact hd_weak w s
    · exact s
  have f0 : Fr n F0 a := ⟨f.size, f.dfs, fun s v hs => f.get s v (by rw [lk_app, hF0 s v hs]; rfl)⟩
  refine .inr (.inr ⟨hw, hy.lo, .inl (hS _ (hO D w s.hd)), Oper.wp_mono ?_ (hy.wp h _ hh a w f0 s)⟩)
  rintro a' w' ⟨v, R, rfl, hp, s1⟩
  have eL : L ++ LDg (D ++ [(y, v, R)]) = (L ++ LDg D) ++ [R] := by simp [LDg]
  have s2 : St K h (L ++ LDg (D ++ [(y, v, R)])) w' := by
    rw [eL]
    exact s1.perm (List.perm_append_singleton _ _).symm
  refine ⟨.inl (hS _ (hO _ _ s2.hd)), hk v R _ _ hp ?_ s2⟩
  have f' := f.put (dst := some y.s) hy.okd v
  have eF : F ++ FDg (D ++ [(y, v, R)]) = (F ++ FDg D) ++ [(y.s, v)] := by simp [FDg]
  rw [eF]
  refine fr_app.2 ⟨⟨f'.size, f'.dfs, fun t u ht => f'.get t u ?_⟩, fun t u hn ht => f'.get t u ?_⟩
  · show (bif Nat.beq y.s t then some _ else lk (F ++ FDg D) t) = some u
    cases hb : Nat.beq y.s t with
    | true =>
      have := Nat.eq_of_beq_eq_true hb
      rw [← this, fresh] at ht; cases ht
    | false => exact ht
  · show (bif Nat.beq y.s t then some _ else lk (F ++ FDg D) t) = some u
    unfold lk at ht
    cases hb : Nat.beq y.s t with
    | true => rw [hb] at ht; exact ht
    | false => rw [hb] at ht; cases ht
theorem flg_fresh {D : Dng} {ys : List Flg} {y : Flg} (hD : Flt Y D ys) (hn : (Y.map (·.s)).Nodup) (hfree : ∀ y ∈ Y, lk F y.s = none) (hy : y ∈ ys) : lk (F ++ FDg D) y.s = none := by
  have hyY : y ∈ Y := hD.1.mem_iff.1 (List.mem_append_right _ hy)
  rw [lk_app, hfree y hyY, Option.none_or]
  refine lk_none fun v hm => ?_
  obtain ⟨p, hp, he⟩ := List.mem_map.1 hm
  have hn' : ((D.map (·.1) ++ ys).map (·.s)).Nodup := (hD.1.map _).nodup_iff.2 hn
  rw [List.map_append] at hn'
  have := (List.nodup_append.1 hn').2.2 p.1.s (List.mem_map_of_mem (List.mem_map_of_mem hp)) y.s (List.mem_map_of_mem hy)
  exact this (congrArg Prod.fst he)
theorem Flt.go {D : Dng} {y1 y2 : List Flg} {y : Flg} {v : Value} {R : Res} (hD : Flt Y D (y1 ++ y :: y2)) (hp : y.p v R) : Flt Y (D ++ [(y, v, R)]) (y1 ++ y2) := by
  refine ⟨List.Perm.trans ?_ hD.1, fun d hd => ?_⟩
  · simp only [List.map_append, List.map_cons, List.map_nil, List.append_assoc, List.cons_append, List.nil_append]
    exact List.Perm.append_left _ List.perm_middle.symm
  · rcases List.mem_append.1 hd with hd | hd
    · exact hD.2 d hd
    · rw [List.mem_singleton.1 hd]; exact hp
def flsOk (g : Tg) (Y : List Nat) (l l0 : List Nat) (c : Nat) : Bool :=
  decide l.Nodup && l0.contains c && g.lo c && !Y.contains c && (l0.all fun i => l.contains i && !Y.contains i) && (Y.all fun y => l.contains y && g.lo y && rdyI (masks g.ops) (l0 ++ Y) y) && rdyI (masks g.ops) (l0 ++ Y) c &&
  l0.all fun i => Nat.beq i c || !rdyI (masks g.ops) l0 i
theorem rdyI_sub {ms l m : List Nat} {i : Nat} (h : rdyI ms m i = true) (hs : ∀ j ∈ l, j ∈ m) : rdyI ms l i = true := by
  unfold rdyI at *
  rw [List.all_eq_true] at *
  exact fun j hj => h j (hs j hj)
theorem tx_fl {l l0 : List Nat} (fw : Bool) (c : Nat) (hfl : Flts P n K g F0 h0 Y) (hh : Le h0 h) (hF0 : Sub F0 F) (hB : (flsOk g (Y.map (·.i)) l l0 c && (g.wk c == fw)) = true) (hfree' : (Y.all fun y => (lk F y.s).isNone) = true) (hO : ∀ D w, Hd h (L ++ LDg D) w → Hd g.h g.LS w)
    (hx : ∀ D ys, Flt Y D ys → RX P n K (g.at fw) (pickL g.ops.toList [c]) (F ++ FDg D) h (L ++ LDg D) (TQ P g (mg l (era c l0) ys) Q)) :
    ∀ D ys, Flt Y D ys → TX P n K g (mg l l0 ys) (F ++ FDg D) h (L ++ LDg D) Q := by
  obtain ⟨hok, hn, hni⟩ := hfl
  simp only [flsOk, Bool.and_eq_true, decide_eq_true_eq, List.contains_iff_mem, Bool.not_eq_true', beq_iff_eq] at hB
  obtain ⟨⟨⟨⟨⟨⟨⟨⟨b1, b2⟩, b3⟩, b4⟩, b5⟩, b6⟩, b7⟩, b8⟩, rfl⟩ := hB
  have hfree : ∀ y ∈ Y, lk F y.s = none := fun y hy => by simpa using List.all_eq_true.1 hfree' y hy
  have h5 : ∀ i ∈ l0, i ∈ l ∧ i ∉ Y.map (·.i) := fun i hi => by
    have := List.all_eq_true.1 b5 i hi
    simpa [List.contains_iff_mem] using this
  have h6 : ∀ y ∈ Y, y.i ∈ l ∧ g.lo y.i = true ∧ rdyI (masks g.ops) (l0 ++ Y.map (·.i)) y.i = true := fun y hy => by
    have := List.all_eq_true.1 b6 y.i (List.mem_map_of_mem hy)
    simp only [Bool.and_eq_true, List.contains_iff_mem] at this
    exact ⟨this.1.1, this.1.2, this.2⟩
  have key : ∀ m D ys, ys.length = m → Flt Y D ys → TX P n K g (mg l l0 ys) (F ++ FDg D) h (L ++ LDg D) Q := by
    intro m
    induction m with
    | zero =>
      intro D ys hm hD a w f s
      have hys : ys = [] := List.eq_nil_of_length_eq_zero hm
      subst hys
      have h1 := hx D [] hD
      unfold RX at h1
      have h2 : R1 P g.ops (g.at (g.wk c)).S (g.lo c) false (nthO g.ops.toList c) _ a w := h1 a w f s
      replace h2 := r1_at rfl h2
      have hcm : c ∈ mg l l0 [] := mg_mem.2 ⟨(h5 c b2).1, .inl b2⟩
      have hnd : (mg l l0 []).Nodup := b1.sublist List.filter_sublist
      have hlen := era_len hnd hcm
      unfold wpU
      rw [← hlen, wpT_pos (List.ne_nil_of_mem hcm)]
      have hf : fqI (masks g.ops) g.lo (mg l l0 []) = none := by
        unfold fqI
        rw [List.find?_eq_none]
        intro i hi
        obtain ⟨_, hi0 | ⟨y, hy, _⟩⟩ := mg_mem.1 hi
        · have := List.all_eq_true.1 b8 i hi0
          simp only [Bool.or_eq_true, Bool.not_eq_true'] at this
          rcases this with e | e
          · rw [Nat.eq_of_beq_eq_true e, b3]; simp
          · cases hr : rdyI (masks g.ops) (mg l l0 []) i with
            | false => simp
            | true =>
              rw [rdyI_sub hr (fun j hj => mg_mem.2 ⟨(h5 j hj).1, .inl hj⟩)] at e
              cases e
        · cases hy
      rw [hf]
      intro i hi hr
      obtain ⟨_, hi0 | ⟨y, hy, _⟩⟩ := mg_mem.1 hi
      · have := List.all_eq_true.1 b8 i hi0
        simp only [Bool.or_eq_true, Bool.not_eq_true'] at this
        rcases this with e | e
        · obtain rfl := Nat.eq_of_beq_eq_true e
          rw [era_mg_c (fun y hy => by cases hy)]
          exact h2
        · rw [rdyI_sub hr (fun j hj => mg_mem.2 ⟨(h5 j hj).1, .inl hj⟩)] at e
          cases e
      · cases hy
    | succ m ih =>
      intro D ys hm hD a w f s
      have hysY : ∀ y ∈ ys, y ∈ Y := fun y hy => hD.1.mem_iff.1 (List.mem_append_right _ hy)
      have h1 := hx D ys hD
      unfold RX at h1
      have h2 : R1 P g.ops (g.at (g.wk c)).S (g.lo c) false (nthO g.ops.toList c) _ a w := h1 a w f s
      replace h2 := r1_at rfl h2
      have hcm : c ∈ mg l l0 ys := mg_mem.2 ⟨(h5 c b2).1, .inl b2⟩
      have hnd : (mg l l0 ys).Nodup := b1.sublist List.filter_sublist
      have hlen := era_len hnd hcm
      have hcy : ∀ y ∈ ys, y.i ≠ c := fun y hy e => (h5 c b2).2 (e ▸ List.mem_map_of_mem (hysY y hy))
      have hf : fqI (masks g.ops) g.lo (mg l l0 ys) = none := by
        unfold fqI
        rw [List.find?_eq_none]
        intro i hi
        obtain ⟨_, hi0 | ⟨y, hy, rfl⟩⟩ := mg_mem.1 hi
        · have := List.all_eq_true.1 b8 i hi0
          simp only [Bool.or_eq_true, Bool.not_eq_true'] at this
          rcases this with e | e
          · rw [Nat.eq_of_beq_eq_true e, b3]; simp
          · cases hr : rdyI (masks g.ops) (mg l l0 ys) i with
            | false => simp
            | true =>
              rw [rdyI_sub hr (fun j hj => mg_mem.2 ⟨(h5 j hj).1, .inl hj⟩)] at e
              cases e
        · rw [(h6 y (hysY y hy)).2.1]; simp
      unfold wpU
      rw [← hlen, wpT_pos (List.ne_nil_of_mem hcm), hf]
      intro i hi hr
      obtain ⟨_, hi0 | ⟨y, hy, rfl⟩⟩ := mg_mem.1 hi
      · have := List.all_eq_true.1 b8 i hi0
        simp only [Bool.or_eq_true, Bool.not_eq_true'] at this
        rcases this with e | e
        · obtain rfl := Nat.eq_of_beq_eq_true e
          rw [era_mg_c hcy]
          rw [era_mg_c hcy] at hlen
          exact h2
        · rw [rdyI_sub hr (fun j hj => mg_mem.2 ⟨(h5 j hj).1, .inl hj⟩)] at e
          cases e
      · obtain ⟨y1, y2, rfl⟩ := List.append_of_mem hy
        have hyi : ((y1 ++ y :: y2).map (·.i)).Nodup := by
          have := (hD.1.map (·.i)).nodup_iff.2 hni
          rw [List.map_append] at this
          exact (List.nodup_append.1 this).2.1
        have hy0 : y.i ∉ l0 := fun e => (h5 _ e).2 (List.mem_map_of_mem (hysY y hy))
        rw [era_mg_y hy0 hyi]
        refine flg_step (hok y (hysY y hy)) hh hF0 (flg_fresh hD hn hfree hy) hO f s fun v R a' w' hp f' s' => ?_
        have h3 := ih (D ++ [(y, v, R)]) (y1 ++ y2) (by simp at hm ⊢; omega) (hD.go hp) a' w' f' s'
        have h4 := era_len hnd (mg_mem.2 ⟨(h6 y (hysY y hy)).1, .inr ⟨y, hy, rfl⟩⟩)
        rw [era_mg_y hy0 hyi] at h4
        have h5 : (era c (mg l l0 (y1 ++ y :: y2))).length = (mg l l0 (y1 ++ y2)).length := by omega
        rw [h5]
        exact h3
  exact fun D ys hD => key _ D ys rfl hD
def fleOk (g : Tg) (Y : List Nat) (l l0 : List Nat) : Bool :=
  decide l.Nodup && (l0.all fun i => l.contains i && !Y.contains i) && (Y.all fun y => l.contains y && g.lo y && rdyI (masks g.ops) (l0 ++ Y) y) && (l0.all fun i => !rdyI (masks g.ops) l0 i || Y.all fun y => ((masks g.ops).getD i 0).testBit y) && (l.all fun i => l0.contains i || Y.contains i || true)
theorem fdg_perm {D D' : Dng} (hp : D.Perm D') (hn : (D.map fun d => d.1.s).Nodup) {a : Act} (f : Fr n (F ++ FDg D) a) : Fr n (F ++ FDg D') a := by
  obtain ⟨f1, f2⟩ := fr_app.1 f
  refine fr_app.2 ⟨f1, fun t v hl hv => f2 t v hl ?_⟩
  have hm1 : (t, v) ∈ FDg D := (hp.map _).mem_iff.2 (lk_mem hv)
  have : ∀ G : List (Nat × Value), (G.map (·.1)).Nodup → (t, v) ∈ G → lk G t = some v := by
    intro G
    induction G with
    | nil => intro _ hm; cases hm
    | cons q G ihG =>
      obtain ⟨k, u⟩ := q
      intro hG hm
      have hG' := List.nodup_cons.1 hG
      show (bif Nat.beq k t then some u else lk G t) = some v
      rcases List.mem_cons.1 hm with e | hm
      · cases e; simp
      · have : Nat.beq k t = false := by
          cases hb : Nat.beq k t with
          | false => rfl
          | true =>
            have := Nat.eq_of_beq_eq_true hb
            exact absurd (List.mem_map.2 ⟨(t, v), hm, this.symm⟩) hG'.1
        rw [this]
        exact ihG hG'.2 hm
  refine this _ ?_ hm1
  unfold FDg
  rw [List.map_map]
  exact hn
theorem tx_fle {l l0 : List Nat} (hfl : Flts P n K g F0 h0 Y) (hh : Le h0 h) (hF0 : Sub F0 F) (hB : fleOk g (Y.map (·.i)) l l0 = true) (hfree' : (Y.all fun y => (lk F y.s).isNone) = true) (hO : ∀ D w, Hd h (L ++ LDg D) w → Hd g.h g.LS w)
    (hx : ∀ D, D.map (·.1) = Y → Okg D → TX P n K g (mg l l0 []) (F ++ FDg D) h (L ++ LDg D) Q) :
    ∀ D ys, Flt Y D ys → TX P n K g (mg l l0 ys) (F ++ FDg D) h (L ++ LDg D) Q := by
  obtain ⟨hok, hn, hni⟩ := hfl
  simp only [fleOk, Bool.and_eq_true, decide_eq_true_eq] at hB
  obtain ⟨⟨⟨⟨b1, b5⟩, b6⟩, b8⟩, _⟩ := hB
  have hfree : ∀ y ∈ Y, lk F y.s = none := fun y hy => by simpa using List.all_eq_true.1 hfree' y hy
  have h5 : ∀ i ∈ l0, i ∈ l ∧ i ∉ Y.map (·.i) := fun i hi => by
    have := List.all_eq_true.1 b5 i hi
    simpa [List.contains_iff_mem] using this
  have h6 : ∀ y ∈ Y, y.i ∈ l ∧ g.lo y.i = true ∧ rdyI (masks g.ops) (l0 ++ Y.map (·.i)) y.i = true := fun y hy => by
    have := List.all_eq_true.1 b6 y.i (List.mem_map_of_mem hy)
    simp only [Bool.and_eq_true, List.contains_iff_mem] at this
    exact ⟨this.1.1, this.1.2, this.2⟩
  have key : ∀ m D ys, ys.length = m → Flt Y D ys → TX P n K g (mg l l0 ys) (F ++ FDg D) h (L ++ LDg D) Q := by
    intro m
    induction m with
    | zero =>
      intro D ys hm hD a w f s
      have hys : ys = [] := List.eq_nil_of_length_eq_zero hm
      subst hys
      have hD1 := hD.1
      rw [List.append_nil] at hD1
      obtain ⟨D0, p1, p2⟩ := perm_lift hD1 D rfl
      have hnd : (D.map fun d => d.1.s).Nodup := by
        have := (hD1.map (·.s)).nodup_iff.2 hn
        rwa [List.map_map] at this
      exact hx D0 p2 (fun d hd => hD.2 d (p1.mem_iff.1 hd)) a w (fdg_perm p1.symm hnd f) (s.perm (List.Perm.append_left _ (p1.map _).symm))
    | succ m ih =>
      intro D ys hm hD a w f s
      have hysY : ∀ y ∈ ys, y ∈ Y := fun y hy => hD.1.mem_iff.1 (List.mem_append_right _ hy)
      have hnd : (mg l l0 ys).Nodup := b1.sublist List.filter_sublist
      obtain ⟨y0, hy0⟩ : ∃ y, y ∈ ys := by
        cases ys with
        | nil => cases hm
        | cons y ys => exact ⟨y, List.mem_cons_self ..⟩
      have hm0 : y0.i ∈ mg l l0 ys := mg_mem.2 ⟨(h6 y0 (hysY y0 hy0)).1, .inr ⟨y0, hy0, rfl⟩⟩
      have notr : ∀ i ∈ l0, rdyI (masks g.ops) (mg l l0 ys) i = false := fun i hi => by
        have := List.all_eq_true.1 b8 i hi
        simp only [Bool.or_eq_true, Bool.not_eq_true'] at this
        rcases this with e | e
        · cases hr : rdyI (masks g.ops) (mg l l0 ys) i with
          | false => rfl
          | true =>
            rw [rdyI_sub hr (fun j hj => mg_mem.2 ⟨(h5 j hj).1, .inl hj⟩)] at e
            cases e
        · cases hr : rdyI (masks g.ops) (mg l l0 ys) i with
          | false => rfl
          | true =>
            have h1 := List.all_eq_true.1 e y0.i (List.mem_map_of_mem (hysY y0 hy0))
            rw [rdy_bit hr hm0] at h1
            cases h1
      have hf : fqI (masks g.ops) g.lo (mg l l0 ys) = none := by
        unfold fqI
        rw [List.find?_eq_none]
        intro i hi
        obtain ⟨_, hi0 | ⟨y, hy, rfl⟩⟩ := mg_mem.1 hi
        · rw [notr i hi0]; simp
        · rw [(h6 y (hysY y hy)).2.1]; simp
      have hlen := era_len hnd hm0
      unfold wpU
      rw [← hlen, wpT_pos (List.ne_nil_of_mem hm0), hf]
      intro i hi hr
      obtain ⟨_, hi0 | ⟨y, hy, rfl⟩⟩ := mg_mem.1 hi
      · rw [notr i hi0] at hr; cases hr
      · obtain ⟨y1, y2, rfl⟩ := List.append_of_mem hy
        have hyi : ((y1 ++ y :: y2).map (·.i)).Nodup := by
          have := (hD.1.map (·.i)).nodup_iff.2 hni
          rw [List.map_append] at this
          exact (List.nodup_append.1 this).2.1
        have hyl : y.i ∉ l0 := fun e => (h5 _ e).2 (List.mem_map_of_mem (hysY y hy))
        rw [era_mg_y hyl hyi]
        refine flg_step (hok y (hysY y hy)) hh hF0 (flg_fresh hD hn hfree hy) hO f s fun v R a' w' hp f' s' => ?_
        have h3 := ih (D ++ [(y, v, R)]) (y1 ++ y2) (by simp at hm ⊢; omega) (hD.go hp) a' w' f' s'
        have h4 := era_len hnd hi
        rw [era_mg_y hyl hyi] at h4
        have h5 : (era y0.i (mg l l0 (y1 ++ y :: y2))).length = (mg l l0 (y1 ++ y2)).length := by omega
        rw [h5]
        exact h3
  exact fun D ys hD => key _ D ys rfl hD
theorem tx_fls {l : List Nat} (l0 : List Nat) (Y : List Flg) (F0 : List (Nat × Value)) (he : (mg l l0 Y == l) = true) (hf : Flts P n K g F0 h Y) (hx : Flts P n K g F0 h Y → ∀ D ys, Flt Y D ys → TX P n K g (mg l l0 ys) (F ++ FDg D) h (L ++ LDg D) Q) : TX P n K g l F h L Q := by
  have h1 := hx hf [] Y ⟨List.Perm.refl _, fun d hd => by cases hd⟩
  have e1 : F ++ FDg [] = F := List.append_nil _
  have e2 : L ++ LDg [] = L := List.append_nil _
  rw [e1, e2, eq_of_beq he] at h1
  exact h1
theorem tx_is {l l' : List Nat} (he : (l == l') = true) (hx : TX P n K g l' F h L Q) : TX P n K g l F h L Q := by
  rw [eq_of_beq he]; exact hx
theorem nx_mg {c : Nat} {l l0 l1 : List Nat} {ys : List Flg} (he : (era c l0 == l1) = true) (hx : TX P n K g (mg l l1 ys) F h L Q) : NX n K .normal F h L (TQ P g (mg l (era c l0) ys) Q) := by
  rw [eq_of_beq he]
  exact nx_tq hx
theorem dng3 {y1 y2 y3 : Flg} {D : Dng} (h : D.map (·.1) = [y1, y2, y3]) : ∃ b1 b2 b3, D = [(y1, b1), (y2, b2), (y3, b3)] := by
  obtain ⟨p1, D1, rfl, h1, h2⟩ := List.map_eq_cons_iff.1 h
  obtain ⟨p2, D2, rfl, h3, h4⟩ := List.map_eq_cons_iff.1 h2
  obtain ⟨p3, D3, rfl, h5, h6⟩ := List.map_eq_cons_iff.1 h4
  obtain rfl := List.map_eq_nil_iff.1 h6
  exact ⟨p1.2, p2.2, p3.2, by rw [← h1, ← h3, ← h5]⟩
theorem dngp3 {y1 y2 y3 : Flg} {D : Dng} (h : D.map (·.1) = [y1, y2, y3]) (hp : Okg D) : ∃ v1 R1 v2 R2 v3 R3, D = [(y1, v1, R1), (y2, v2, R2), (y3, v3, R3)] ∧ y1.p v1 R1 ∧ y2.p v2 R2 ∧ y3.p v3 R3 := by
  obtain ⟨⟨v1, R1⟩, ⟨v2, R2⟩, ⟨v3, R3⟩, rfl⟩ := dng3 h
  exact ⟨v1, R1, v2, R2, v3, R3, rfl, hp _ (List.mem_cons_self ..), hp _ (List.mem_cons_of_mem _ (List.mem_cons_self ..)), hp _ (List.mem_cons_of_mem _ (List.mem_cons_of_mem _ (List.mem_cons_self ..)))⟩
end
end Go.Ck
end

section
namespace Go.Ck
open Go
section
variable {P : Program} {n : Nat} {K : Bs} {g : Tg} {F : List (Nat × Value)} {h : View} {L : List Res} {Q : Exit → Act → World → Prop}
def srP (e : Nat) (xs : List Value) (v : Value) (R : Res) : Prop := R = Res.srow e v xs.length xs
theorem flg_bytes {i s : Nat} {S D e ty : Nat} {pos : String} {af : Array Edge} {x : Operand} {str : ByteArray} {xs : List Value} [tS : TyU P S .string] [tD : TyU P D (.slice e)] [te : TyU P e (.int .u8)] (ho : nthO g.ops.toList i = ⟨some s, .convert S D x, ty, pos, af, none⟩)
    (hx : ev F x = some (.string str)) (hxs : (str.data.map fun b => Value.int .u8 b.toNat).toList = xs) (hsz : str.size ≤ maxLen) (hd : okd n (some s) = true) (hl : g.lo i = true) : FlgOk P n K g F h ⟨i, s, srP e xs⟩ := by
  refine ⟨by rw [ho], hd, by rw [ho], hl, fun h' L _ a w f s0 => ?_⟩
  dsimp only
  rw [ho]
  have hlen : xs.length = str.size := by rw [← hxs]; simp
  have hrun := run_bytes_of_string (P := P) w S D e str tS.u tD.u te.u
  obtain ⟨cap, hcap⟩ : ∃ cap, cap = grownCap w str.size 0 e := ⟨_, rfl⟩
  have hge : str.size ≤ cap := by rw [hcap]; exact grownCap_ge ..
  have hcm : cap ≤ maxLen := by rw [hcap]; exact grownCap_le_maxLen w str.size 0 e hsz
  rw [← hcap] at hrun
  have hbs : (bytesRow str cap).size = cap := by
    simp only [bytesRow, Array.size_append, Array.size_map, Array.size_replicate]
    have : str.data.size = str.size := rfl
    omega
  have s1 := s0.drew.alloc (.cells (bytesRow str cap) e ((bytesRow str cap).size, (bytesRow str cap).size + 1))
  have he : (execOp a.eval ⟨some s, .convert S D x, ty, pos, af, none⟩).run P w = .ok (.value (.slice (some ⟨w.heap.size, 0, none⟩) str.size cap)) (w.drew.alloc (.cells (bytesRow str cap) e ((bytesRow str cap).size, (bytesRow str cap).size + 1))) := by
    simp only [execOp, f.ev hx, Sem.run_bind, hrun]
    rfl
  have s2 : St K h' (Res.srow e (.slice (some ⟨w.heap.size, 0, none⟩) str.size cap) xs.length xs :: L) (w.drew.alloc (.cells (bytesRow str cap) e ((bytesRow str cap).size, (bytesRow str cap).size + 1))) := by
    refine ⟨s1.os, s1.tape, s1.output, s1.drawn, s1.size, s1.keep, ⟨s1.hd.view, fun r hr => ?_⟩, ?_, ?_, s1.grow, s1.new, ?_⟩
    · rcases List.mem_cons.1 hr with rfl | hr
      · refine ⟨rfl, .inr ⟨w.heap.size, cap, _, _, by rw [hlen], heap_alloc_new w.drew _, by omega, hcm, hbs, ?_, .inr (Nat.le_refl _)⟩⟩
        rw [← hxs]
        simp only [bytesRow, Array.toList_append, List.length_map, Array.length_toList, Array.toList_map]
        rw [List.take_append_of_le_length (by simp)]
        exact List.take_of_length_le (by simp)
      · exact s1.hd.own r (List.mem_cons_of_mem _ hr)
    · have := s1.nd
      simpa [doms_cons, Res.srow, Res.blk, Value.ownBlock] using this
    · intro b hb
      refine s1.src b ?_
      simpa [doms_cons, Res.srow, Res.blk, Value.ownBlock] using hb
    · intro b hb
      refine s1.dis b ?_
      simpa [doms_cons, Res.srow, Res.blk, Value.ownBlock] using hb
  unfold Oper.wp
  rw [he]
  exact ⟨_, _, rfl, rfl, s2⟩
end
end Go.Ck
namespace Go.Ck
open Go
section
variable {P : Program} {n : Nat} {K : Bs} {g : Tg} {F : List (Nat × Value)} {h : View} {L : List Res} {Q : Exit → Act → World → Prop} {l : List Nat} {dst : Option Nat} {v : Value} {D : Dng}
theorem tx_putg {R : Res} (hx : TX P n K g l (putF dst v F ++ FDg D) h ((R :: L) ++ LDg D) Q) : TX P n K g l (putF dst v (F ++ FDg D)) h (R :: (L ++ LDg D)) Q := by
  cases dst <;> exact hx
theorem tx_setg {R : Res} {k : Nat} (hk : decide (k < L.length) = true) (hx : TX P n K g l (putF dst v F ++ FDg D) h (L.set k R ++ LDg D) Q) : TX P n K g l (putF dst v (F ++ FDg D)) h ((L ++ LDg D).set k R) Q := by
  rw [List.set_append_left k R (oet_ hk)]
  cases dst <;> exact hx
theorem cx_st {c : Code} {L' : List Res} (hs : ∀ w, St K h L w → St K h L' w) (hx : CX P n K c F h L' Q) : CX P n K c F h L Q := by
  unfold CX at *
  exact fun a w f s => hx a w f (hs w s)
theorem hd_m {h h' : View} {L LS : List Res} (hl : Le h h') (hm : ∀ r ∈ LS, r ∈ L) : ∀ w, Hd h' L w → Hd h LS w := fun w s => Hd.sub s hl hm
theorem all_m1 {A : Res} {L : List Res} (h : A ∈ L) : ∀ r ∈ [A], r ∈ L := fun r hr => by rw [List.mem_singleton.1 hr]; exact h
theorem tmh_ {p : Prop} (h : p := by (first|exact List.mem_of_getElem? (i := 0) rfl | exact List.mem_of_getElem? (i := 1) rfl | exact List.mem_of_getElem? (i := 2) rfl | exact List.mem_of_getElem? (i := 3) rfl | exact List.mem_of_getElem? (i := 4) rfl | exact List.mem_of_getElem? (i := 5) rfl | exact List.mem_of_getElem? (i := 6) rfl | exact List.mem_of_getElem? (i := 7) rfl)) : p := h
theorem st_srowsl {w : World} {e m : Nat} {v : Value} {xs : List Value} {k : Nat} (s : St K h L w) (hk : L[k]? = some (Res.srow e v m xs)) : ∃ ad cap, v = .slice ad m cap := by
  have ho : OwnsB w e v m xs := s.hd.own _ (List.mem_of_getElem? hk)
  rcases ho.2 with ⟨q1, q2⟩ | ⟨g, cap, cur, fz, q1, _⟩
  · exact ⟨none, 0, by rw [q1, q2]⟩
  · exact ⟨_, cap, q1⟩
theorem tx_rowsl {e sz m : Nat} {v : Value} {xs : List Value} (k : Nat) (hk : L[k]? = some (Res.row e sz v m xs)) (h2 : ∀ ad cap, v = .slice ad m cap → TX P n K g l F h L Q) : TX P n K g l F h L Q := by
  unfold TX at *
  intro a w f s
  have ho : w.ownsRow 0 e sz v m xs := s.hd.own _ (List.mem_of_getElem? hk)
  rcases ho.2 with ⟨q1, q2⟩ | ⟨g, cap, cur, q1, _⟩
  · exact h2 none 0 (by rw [q1, q2]) a w f s
  · exact h2 _ cap q1 a w f s
theorem tx_srowsl {e m : Nat} {v : Value} {xs : List Value} (k : Nat) (hk : L[k]? = some (Res.srow e v m xs)) (h2 : ∀ ad cap, v = .slice ad m cap → TX P n K g l F h L Q) : TX P n K g l F h L Q := by
  unfold TX at *
  intro a w f s
  obtain ⟨ad, cap, e⟩ := st_srowsl s hk
  exact h2 ad cap e a w f s
end
end Go.Ck
end

section
namespace Go.Proofs.YtndpclcbobgdlaaGreatDoor
open Go Go.Ck
set_option maxHeartbeats 4000000
theorem to34_sp (x : Ts) (h : View) (hx : Rtv h x) (hb : Bytes x.a.name ∧ Bytes x.a.value ∧ Bytes x.a.raw) (hl : x.a.name.length ≤ 900000 ∧ x.a.value.length ≤ 900000 ∧ x.a.raw.length ≤ 900000 ∧ x.a.stay.length ≤ 900000) (w : World) (s : St ⟨w, h, []⟩ h [] w) :
    Calls Tryz.prog 14 [.agg (rtc x).toArray].toArray w fun e w' => ∃ z : View × Ts, e = .returned (.agg (tsc z.2).toArray) ∧ St ⟨w, h, []⟩ z.1 [] w' ∧ Tsv z.1 z.2 ∧ z.2.a = x.a := by
  obtain ⟨⟨ki, cl, ha, bo, kk, nm, va, st, ra⟩, nv, vv, sv, rv⟩ := x
  obtain ⟨g1, g2, g3, g4⟩ := hx
  dsimp only at g1 g2 g3 g4 hb hl
  subst g1 g2 g4
  obtain ⟨_, ads, caps, rfl, _, _⟩ := id g3
  refine calls_enter Tryz.func14 rfl Tryz.ntmps14 rfl s ?_
  repeat' (first|refine tw_ ?_|(refine ta_ ?_;intro _)|((fail_if_success (refine ybi rfl ?_));refine ybj rfl ?_ ?_<;>(intro ht;rw [ht];first|replace ht := oet_ ht|replace ht := oef_ ht|skip))|(refine ych ?_;first|(refine ybw rfl ?_ ?_<;>intro ht)|(refine ybx rfl ?_ ?_<;>intro ht)))
  rename_i b1 b2
  refine cx_region_any [Res.blk b1 (.cells (rtc ⟨⟨ki, cl, ha, bo, kk, nm, va, st, ra⟩, .string (bstr nm), .string (bstr va), .slice ads st.length caps, .string (bstr ra)⟩).toArray 36 (0, 0))] [12, 15, 16, 19, 22, 24] [] [0, 1, 2, 3, 4, 5, 6, 7, 8, 9, 10, 11, 12, 13, 14, 15, 16, 17, 18, 19, 20, 21, 22, 23, 24] rfl (by kernel_rfl) ?_
  refine tx_run false [0, 1, 2, 3, 4, 5, 6, 7, 8, 9, 10, 11, 13, 14, 17, 18, 20, 21] [12, 15, 16, 19, 22, 23, 24] (by kernel_rfl) ?_
  repeat' (refine ycf ?_;(first|refine tz_ ?_|((fail_if_success (refine ybi rfl ?_));refine ybj rfl ?_ ?_<;>(intro ht;rw [ht];first|replace ht := oet_ ht|replace ht := oef_ ht|skip))|(refine tb_ ?_ ?_ ?_;(·exact to_);(·intro _;exact to_);intro _)|refine ycg ?_))
  refine nx_tq ?_
  refine tx_to (F' := [(2, .pointer (some ⟨b2, 0, none⟩)), (4, .int .i64 ki), (6, .int .i64 cl), (8, .int .i64 ha), (10, .int .i64 bo), (12, .int .i64 kk), (14, .string (bstr nm)), (17, .string (bstr va)), (24, .string (bstr ra)), (21, .slice ads st.length caps)]) ts_ (fun _ s => s) ?_
  refine tx_fls [16, 19, 23, 24] [⟨12, 15, srP 5 (bcs nm)⟩, ⟨15, 18, srP 5 (bcs va)⟩, ⟨22, 25, srP 5 (bcs ra)⟩] [(14, .string (bstr nm)), (17, .string (bstr va)), (24, .string (bstr ra))] (by kernel_rfl) ?_ (fun hfl D ys hD => ?_)
  · exact flts3 (flg_bytes rfl rfl (bstr_bcT hb.1) (by rw [bstr_size]; unfold maxLen; omega) rfl (by kernel_rfl)) (flg_bytes rfl rfl (bstr_bcT hb.2.1) (by rw [bstr_size]; unfold maxLen; omega) rfl (by kernel_rfl)) (flg_bytes rfl rfl (bstr_bcT hb.2.2) (by rw [bstr_size]; unfold maxLen; omega) rfl (by kernel_rfl)) rfl
  refine tx_fl false 16 hfl (Le.refl h) ts_ (by kernel_rfl) rfl (fun D w s => hd_m (Le.refl h) (all_m1 tmh_) w s) (fun D ys hD => ?_) D ys hD
  refine yba ma_buildSlice0 rfl rfl rfl ?_ ?_ ?_
  · (first|exact ybf|(refine .inl ?_;(exact fun _ s => hd_m (Le.refl _) (all_m1 tmh_) _ s))|exact to_)
  · intro _;(first|exact ybf|(refine .inl ?_;(exact fun _ s => hd_m (Le.refl _) (all_m1 tmh_) _ s))|exact to_)
  intro b19
  refine rx_rowOf 1 0 0 (by omega) (by unfold maxLen; omega) rfl ?_
  refine ycg ?_
  refine nx_mg (l1 := [19, 23, 24]) (by kernel_rfl) ?_
  refine tx_putg ?_
  refine tx_fl false 19 hfl (Le.refl h) ts_ (by kernel_rfl) rfl (fun D w s => hd_m (Le.refl h) (all_m1 tmh_) w s) (fun D ys hD => ?_) D ys hD
  refine rx_append_sc (sz := 1) (m := st.length) (news := bls st) 0 rfl rfl rfl g3 (bls_one st) rfl (by omega) (by unfold maxLen; omega) (by omega) rfl rfl rfl ?_ ?_ ?_
  · (first|exact ybf|(refine .inl ?_;(exact fun _ s => hd_m (Le.refl _) (all_m1 tmh_) _ s))|exact to_)
  · intro v';(first|exact ybf|(refine .inl ?_;(exact fun _ s => hd_m (Le.refl _) (all_m1 tmh_) _ s))|exact to_)
  intro v22 _
  refine ycg ?_
  refine nx_mg (l1 := [23, 24]) (by kernel_rfl) ?_
  refine tx_setg rfl ?_
  refine tx_fle hfl (Le.refl h) ts_ (by kernel_rfl) rfl (fun D w s => hd_m (Le.refl h) (all_m1 tmh_) w s) (fun D hD hp => ?_) D ys hD
  obtain ⟨v1, _, v2, _, v3, _, rfl, rfl, rfl, rfl⟩ := dngp3 hD hp
  refine tx_is (l' := [23, 24]) (by kernel_rfl) ?_
  refine tx_srowsl 3 rfl ?_
  rintro ad1 cap1 rfl
  refine tx_srowsl 4 rfl ?_
  rintro ad2 cap2 rfl
  refine tx_srowsl 5 rfl ?_
  rintro ad3 cap3 rfl
  refine tx_rowsl 0 rfl ?_
  rintro ad4 cap4 rfl
  rw [bcs_len, bcs_len, bcs_len, Nat.zero_add]
  obtain ⟨z, hz⟩ : ∃ z : Ts, z = ⟨⟨ki, cl, ha, bo, kk, nm, va, st, ra⟩, .slice ad1 nm.length cap1, .slice ad2 va.length cap2, .slice ad4 st.length cap4, .slice ad3 ra.length cap3⟩ := ⟨_, rfl⟩
  have hfz : fillL (fun i : Nat => ([(0, 1), (1, 1), (2, 1), (3, 1), (4, 1), (5, 1), (6, 1), (7, 1), (8, 1)] : List (Nat × Nat))[i]?) [.int .i64 0, .int .i64 0, .slice none 0 0, .slice none 0 0, .int .i64 0, .int .i64 0, .int .i64 0, .slice none 0 0, .slice none 0 0] [(0, .int .i64 ki), (1, .int .i64 cl), (4, .int .i64 ha), (5, .int .i64 bo), (6, .int .i64 kk), (2, .slice ad1 nm.length cap1), (3, .slice ad2 va.length cap2), (7, .slice ad4 st.length cap4), (8, .slice ad3 ra.length cap3)] = some (tsc z) := by subst hz; kernel_rfl
  refine tx_run false [23] [24] (by kernel_rfl) ?_
  repeat' (refine ycf ?_;(first|(first|(apply ybm;(·(first|(apply yax (cs := tsc z);(·rfl);(·exact hfz))|exact tq_));(·rfl);(·rfl);(·(exact fun _ s => hd_m (Le.refl _) (all_m1 tmh_) _ s)))|refine ybl rfl rfl ?_|((fail_if_success (refine ybi rfl ?_));refine ybj rfl ?_ ?_<;>(intro ht;rw [ht];first|replace ht := oet_ ht|replace ht := oef_ ht|skip))|(refine tb_ ?_ ?_ ?_;(·(first|exact ybf|(refine .inl ?_;(exact fun _ s => hd_m (Le.refl _) (all_m1 tmh_) _ s))|exact to_));(·intro _;(first|exact ybf|(refine .inl ?_;(exact fun _ s => hd_m (Le.refl _) (all_m1 tmh_) _ s))|exact to_));intro _)|(first|(refine tqs_ ?_ ?_ ?_;(·(first|exact ybf|(refine .inl ?_;(exact fun _ s => hd_m (Le.refl _) (all_m1 tmh_) _ s))|exact to_));(·(first|exact ybf|(refine .inl ?_;(exact fun _ s => hd_m (Le.refl _) (all_m1 tmh_) _ s))|exact to_))))|(apply ybn;(·(first|(apply yax (cs := tsc z);(·rfl);(·exact hfz))|exact tq_));(·rfl);(·rfl);(·rfl);(·(first|exact ybf|(refine .inl ?_;(exact fun _ s => hd_m (Le.refl _) (all_m1 tmh_) _ s))|exact to_))))|refine ycg ?_))
  refine nx_tq ?_
  refine tx_1 false 24 [] (by kernel_rfl) ?_
  have hzo : ∀ u ∈ tsc z, u.oneCell' = true := by
    rw [hz]
    exact List.all_eq_true.1 rfl
  refine ybg 1 rfl rfl rfl rfl (Nat.le_of_ble_eq_true rfl) (List.all_eq_true.2 hzo) (ybh rfl) rfl rfl ?_ ?_ ?_
  · (first|exact ybf|(refine .inl ?_;(exact fun _ s => hd_m (Le.refl _) (all_m1 tmh_) _ s))|exact to_)
  · (first|exact ybf|(refine .inl ?_;(exact fun _ s => hd_m (Le.refl _) (all_m1 tmh_) _ s))|exact to_)
  refine ycg ?_
  refine nx_tq ?_
  refine tx_end ?_
  refine yby ?_
  refine cx_st (L' := [Res.srow 5 (.slice ad1 nm.length cap1) nm.length (bcs nm), Res.srow 5 (.slice ad2 va.length cap2) va.length (bcs va), Res.srow 5 (.slice ad3 ra.length cap3) ra.length (bcs ra), Res.row 4 1 (.slice ad4 st.length cap4) st.length (bls st), Res.blk b2 (.cells (tsc z).toArray 39 (0, 0))]) (fun w s => s.picks [3, 3, 3, 0, 0]) ?_
  refine cx_persist_s rfl fun h1 hl1 p1 => ?_
  refine cx_persist_s rfl fun h2 hl2 p2 => ?_
  refine cx_persist_s rfl fun h3 hl3 p3 => ?_
  refine cx_persist rfl fun h4 hl4 p4 => ?_
  refine ybr ?_
  refine nx_ret1 rfl (rv_cells rfl (yaz 0 rfl) rfl) (fun w' s' => ⟨(h4, z), rfl, s'.nil, ?_, by rw [hz]⟩)
  rw [hz]
  exact ⟨p1.mono (hl2.trans (hl3.trans hl4)), p2.mono (hl3.trans hl4), p4, p3.mono hl4⟩
end Go.Proofs.YtndpclcbobgdlaaGreatDoor
end

section
namespace Go.Proofs.YtndpclcbobgdlaaGreatDoor
open Go Go.Ck
set_option maxHeartbeats 4000000
theorem qv_minT {P : Program} {n : Nat} {F : List (Nat × Value)} {h : View} {L : List Res} {dst : Option Nat} {ty : Nat} {pos : String} {af : Array Edge} {gd : Option (Nat × Bool)} {ts : Array TypeId} {x y : Operand} {k : IntKind} {i j r : Int} (hx : ev F x = some (.int k i)) (hy : ev F y = some (.int k j)) (hr : (if j < i then j else i) = r) :
    QV P n F h L ⟨dst, .call ⟨.builtin .min, #[x, y], ts⟩, ty, pos, af, gd⟩ (.int k r) := by
  subst hr
  exact .mk fun a w f s => by simp [execOp, resolve, invoke, builtin, Builtin.min_, f.ev hx, f.ev hy, Builtin.min2]
end Go.Proofs.YtndpclcbobgdlaaGreatDoor
end
