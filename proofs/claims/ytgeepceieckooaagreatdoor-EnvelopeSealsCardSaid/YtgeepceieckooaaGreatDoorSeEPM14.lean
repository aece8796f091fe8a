/-
  Part 14 of a proof: PlB PlC PlD PlE RbA RbB.
  Conditions: each theorem states its own.
-/
import Derived.Test.YtgeepceieckooaaGreatDoorSeEPM13
set_option maxRecDepth 100000
set_option linter.unusedVariables false
set_option linter.unusedSimpArgs false
section
namespace Go.Proofs.YtgeepceieckooaaGreatDoor
open Go Go.Ck
set_option maxHeartbeats 1000000
theorem tn_mul {a b : W64} (h : a.toNat * b.toNat < 18446744073709551616) : (a * b).toNat = a.toNat * b.toNat := by
  rw [BitVec.toNat_mul]; exact Nat.mod_eq_of_lt h
theorem mul_lt {a b : Nat} (A B : Nat) (h1 : a ≤ A) (h2 : b ≤ B) : a * b ≤ A * B := Nat.mul_le_mul h1 h2
theorem mtout_eq (a b c d e f g h i j : W64) : mtout [a, b, c, d, e] [f, g, h, i, j] 5 =
    [0 + a * f + b * j * 5 + c * i * 5 + d * h * 5 + e * g * 5, 0 + a * g + b * f + c * j * 5 + d * i * 5 + e * h * 5, 0 + a * h + b * g + c * f + d * j * 5 + e * i * 5, 0 + a * i + b * h + c * g + d * f + e * j * 5, 0 + a * j + b * i + c * h + d * g + e * f] := by
  simp [mtout, mtin, mstep, mprod]
theorem n5_mul (a b c d e f g h i j : Nat) : n5 a b c d e * n5 f g h i j =
    n5 (a * f + 5 * (b * j + c * i + d * h + e * g)) (a * g + b * f + 5 * (c * j + d * i + e * h)) (a * h + b * g + c * f + 5 * (d * j + e * i)) (a * i + b * h + c * g + d * f + 5 * (e * j)) (a * j + b * i + c * h + d * g + e * f)
    + pP * ((b * j + c * i + d * h + e * g) + 67108864 * (c * j + d * i + e * h) + 4503599627370496 * (d * j + e * i) + 302231454903657293676544 * (e * j)) := by
  unfold n5 pP
  grind
theorem timesF_val {a b c d e f g h i j : W64} (ha : a.toNat ≤ 268435456) (hb : b.toNat ≤ 268435456) (hc : c.toNat ≤ 268435456) (hd : d.toNat ≤ 268435456) (he : e.toNat ≤ 268435456)
    (hf : f.toNat ≤ 67108864) (hg : g.toNat ≤ 67108864) (hh : h.toNat ≤ 67108864) (hi : i.toNat ≤ 67108864) (hj : j.toNat ≤ 67108864) :
    ∃ a' b' c' d' e' : W64, timesF [a, b, c, d, e] [f, g, h, i, j] = [a', b', c', d', e'] ∧ a'.toNat < 67108869 ∧ b'.toNat < 67108864 ∧ c'.toNat < 67108864 ∧ d'.toNat < 67108864 ∧ e'.toNat < 67108864 ∧
      n5 a'.toNat b'.toNat c'.toNat d'.toNat e'.toNat % pP = n5 a.toNat b.toNat c.toNat d.toNat e.toNat * n5 f.toNat g.toNat h.toNat i.toNat j.toNat % pP := by
  have k : ∀ x y : W64, x.toNat ≤ 268435456 → y.toNat ≤ 67108864 → (x * y).toNat = x.toNat * y.toNat ∧ x.toNat * y.toNat ≤ 18014398509481984 := fun x y hx hy => by
    have := mul_lt 268435456 67108864 hx hy
    exact ⟨tn_mul (by omega), by omega⟩
  have af := k a f ha hf; have ag := k a g ha hg; have ah := k a h ha hh; have ai := k a i ha hi; have aj := k a j ha hj
  have bf := k b f hb hf; have bg := k b g hb hg; have bh := k b h hb hh; have bi := k b i hb hi; have bj := k b j hb hj
  have cf := k c f hc hf; have cg := k c g hc hg; have ch := k c h hc hh; have ci := k c i hc hi; have cj := k c j hc hj
  have df := k d f hd hf; have dg := k d g hd hg; have dh := k d h hd hh; have di := k d i hd hi; have dj := k d j hd hj
  have ef := k e f he hf; have eg := k e g he hg; have eh := k e h he hh; have ei := k e i he hi; have ej := k e j he hj
  have m5 : ∀ x : W64, x.toNat ≤ 18014398509481984 → (x * 5).toNat = x.toNat * 5 := fun x hx => tn_m5 (by omega)
  have z0 : (0 : W64).toNat = 0 := rfl
  have n := n5_mul a.toNat b.toNat c.toNat d.toNat e.toNat f.toNat g.toNat h.toNat i.toNat j.toNat
  obtain ⟨t0, e0⟩ : ∃ t, t = 0 + a * f + b * j * 5 + c * i * 5 + d * h * 5 + e * g * 5 := ⟨_, rfl⟩
  obtain ⟨t1, e1⟩ : ∃ t, t = 0 + a * g + b * f + c * j * 5 + d * i * 5 + e * h * 5 := ⟨_, rfl⟩
  obtain ⟨t2, e2⟩ : ∃ t, t = 0 + a * h + b * g + c * f + d * j * 5 + e * i * 5 := ⟨_, rfl⟩
  obtain ⟨t3, e3⟩ : ∃ t, t = 0 + a * i + b * h + c * g + d * f + e * j * 5 := ⟨_, rfl⟩
  obtain ⟨t4, e4⟩ : ∃ t, t = 0 + a * j + b * i + c * h + d * g + e * f := ⟨_, rfl⟩
  have ad : ∀ (x y : W64) (X Y : Nat), x.toNat = X → y.toNat = Y → X ≤ 1000000000000000000 → Y ≤ 90071992547409920 → (x + y).toNat = X + Y := fun x y X Y hx hy h1 h2 => by rw [tn_add (by omega), hx, hy]
  have v0 : t0.toNat = a.toNat * f.toNat + 5 * (b.toNat * j.toNat + c.toNat * i.toNat + d.toNat * h.toNat + e.toNat * g.toNat) := by
    rw [e0, ad _ _ _ _ (ad _ _ _ _ (ad _ _ _ _ (ad _ _ _ _ (ad _ _ _ _ z0 af.1 (by omega) (by omega)) ((m5 _ (by omega)).trans (by rw [bj.1])) (by omega) (by omega)) ((m5 _ (by omega)).trans (by rw [ci.1])) (by omega) (by omega)) ((m5 _ (by omega)).trans (by rw [dh.1])) (by omega) (by omega)) ((m5 _ (by omega)).trans (by rw [eg.1])) (by omega) (by omega)]
    omega
  have v1 : t1.toNat = a.toNat * g.toNat + b.toNat * f.toNat + 5 * (c.toNat * j.toNat + d.toNat * i.toNat + e.toNat * h.toNat) := by
    rw [e1, ad _ _ _ _ (ad _ _ _ _ (ad _ _ _ _ (ad _ _ _ _ (ad _ _ _ _ z0 ag.1 (by omega) (by omega)) bf.1 (by omega) (by omega)) ((m5 _ (by omega)).trans (by rw [cj.1])) (by omega) (by omega)) ((m5 _ (by omega)).trans (by rw [di.1])) (by omega) (by omega)) ((m5 _ (by omega)).trans (by rw [eh.1])) (by omega) (by omega)]
    omega
  have v2 : t2.toNat = a.toNat * h.toNat + b.toNat * g.toNat + c.toNat * f.toNat + 5 * (d.toNat * j.toNat + e.toNat * i.toNat) := by
    rw [e2, ad _ _ _ _ (ad _ _ _ _ (ad _ _ _ _ (ad _ _ _ _ (ad _ _ _ _ z0 ah.1 (by omega) (by omega)) bg.1 (by omega) (by omega)) cf.1 (by omega) (by omega)) ((m5 _ (by omega)).trans (by rw [dj.1])) (by omega) (by omega)) ((m5 _ (by omega)).trans (by rw [ei.1])) (by omega) (by omega)]
    omega
  have v3 : t3.toNat = a.toNat * i.toNat + b.toNat * h.toNat + c.toNat * g.toNat + d.toNat * f.toNat + 5 * (e.toNat * j.toNat) := by
    rw [e3, ad _ _ _ _ (ad _ _ _ _ (ad _ _ _ _ (ad _ _ _ _ (ad _ _ _ _ z0 ai.1 (by omega) (by omega)) bh.1 (by omega) (by omega)) cg.1 (by omega) (by omega)) df.1 (by omega) (by omega)) ((m5 _ (by omega)).trans (by rw [ej.1])) (by omega) (by omega)]
    omega
  have v4 : t4.toNat = a.toNat * j.toNat + b.toNat * i.toNat + c.toNat * h.toNat + d.toNat * g.toNat + e.toNat * f.toNat := by
    rw [e4, ad _ _ _ _ (ad _ _ _ _ (ad _ _ _ _ (ad _ _ _ _ (ad _ _ _ _ z0 aj.1 (by omega) (by omega)) bi.1 (by omega) (by omega)) ch.1 (by omega) (by omega)) dg.1 (by omega) (by omega)) ef.1 (by omega) (by omega)]
    omega
  obtain ⟨a', b', c', d', e', q, hq, h1, h2, h3, h4, h5, hv, _⟩ := carry_val (a := t0) (b := t1) (c := t2) (d := t3) (e := t4) 4611686018427387904 (Nat.le_refl _) (by omega) (by omega) (by omega) (by omega) (by omega)
  refine ⟨a', b', c', d', e', ?_, h1, h2, h3, h4, h5, ?_⟩
  · unfold timesF
    rw [mtout_eq, ← e0, ← e1, ← e2, ← e3, ← e4, hq]
  · rw [n, ← v0, ← v1, ← v2, ← v3, ← v4, ← hv, Nat.add_mul_mod_self_left, Nat.add_mul_mod_self_left]
theorem plusF_val {a b c d e f g h i j : W64} (ha : a.toNat ≤ 134217728) (hb : b.toNat ≤ 134217728) (hc : c.toNat ≤ 134217728) (hd : d.toNat ≤ 134217728) (he : e.toNat ≤ 134217728)
    (hf : f.toNat ≤ 134217728) (hg : g.toNat ≤ 134217728) (hh : h.toNat ≤ 134217728) (hi : i.toNat ≤ 134217728) (hj : j.toNat ≤ 134217728) :
    ∃ a' b' c' d' e' : W64, plusF [a, b, c, d, e] [f, g, h, i, j] = [a', b', c', d', e'] ∧ a'.toNat ≤ 268435456 ∧ b'.toNat ≤ 268435456 ∧ c'.toNat ≤ 268435456 ∧ d'.toNat ≤ 268435456 ∧ e'.toNat ≤ 268435456 ∧
      n5 a'.toNat b'.toNat c'.toNat d'.toNat e'.toNat = n5 a.toNat b.toNat c.toNat d.toNat e.toNat + n5 f.toNat g.toNat h.toNat i.toNat j.toNat := by
  have e1 := tn_add (a := a) (b := f) (by omega)
  have e2 := tn_add (a := b) (b := g) (by omega)
  have e3 := tn_add (a := c) (b := h) (by omega)
  have e4 := tn_add (a := d) (b := i) (by omega)
  have e5 := tn_add (a := e) (b := j) (by omega)
  refine ⟨a + f, b + g, c + h, d + i, e + j, by simp [plusF, plusK], ?_⟩
  rw [e1, e2, e3, e4, e5]
  unfold n5
  omega
end Go.Proofs.YtgeepceieckooaaGreatDoor
end

section
namespace Go.Proofs.YtgeepceieckooaaGreatDoor
open Go Go.Ck
set_option maxHeartbeats 1000000
theorem or_add {x y k : Nat} (h : x < 2 ^ k) : x ||| y * 2 ^ k = x + y * 2 ^ k := by
  have := Nat.shiftLeft_add_eq_or_of_lt h y
  rw [Nat.shiftLeft_eq] at this
  rw [Nat.or_comm, ← this, Nat.add_comm]
theorem tn_shr (a : W64) (k : Nat) : (a >>> k).toNat = a.toNat / 2 ^ k := by
  rw [BitVec.toNat_ushiftRight, Nat.shiftRight_eq_div_pow]
theorem tn_shl (a : W64) (k : Nat) (h : a.toNat * 2 ^ k < 18446744073709551616) : (a <<< k).toNat = a.toNat * 2 ^ k := by
  rw [BitVec.toNat_shiftLeft, Nat.shiftLeft_eq]
  exact Nat.mod_eq_of_lt h
theorem tn_shl' (a : W64) (k j : Nat) (hk : k + j = 64) : (a <<< k).toNat = a.toNat % 2 ^ j * 2 ^ k := by
  rw [BitVec.toNat_shiftLeft, Nat.shiftLeft_eq]
  have : (2 : Nat) ^ 64 = 2 ^ j * 2 ^ k := by rw [← Nat.pow_add, Nat.add_comm j k, hk]
  rw [this, Nat.mul_mod_mul_right]
theorem loadF_val (low high above : W64) (ha : above.toNat < 4) : ∃ a b c d e : W64, loadF low high above = [a, b, c, d, e] ∧ a.toNat < 67108864 ∧ b.toNat < 67108864 ∧ c.toNat < 67108864 ∧ d.toNat < 67108864 ∧ e.toNat < 67108864 ∧
    n5 a.toNat b.toNat c.toNat d.toNat e.toNat = low.toNat + 18446744073709551616 * high.toNat + 340282366920938463463374607431768211456 * above.toNat := by
  have hl := low.isLt
  have hh := high.isLt
  have q3 : ((low >>> 52) ||| (high <<< 12)).toNat = low.toNat / 2 ^ 52 + high.toNat % 2 ^ 52 * 2 ^ 12 := by
    rw [BitVec.toNat_or, tn_shr, tn_shl' high 12 52 rfl]
    exact or_add (by omega)
  have q5 : ((high >>> 40) ||| (above <<< 24)).toNat = high.toNat / 2 ^ 40 + above.toNat * 2 ^ 24 := by
    rw [BitVec.toNat_or, tn_shr, tn_shl above 24 (by omega)]
    exact or_add (by omega)
  refine ⟨_, _, _, _, _, rfl, ?_⟩
  rw [tn_m26, tn_m26, tn_m26, tn_m26, tn_s26, q3, q5, tn_shr]
  refine ⟨by omega, by omega, by omega, by omega, by omega, ?_⟩
  unfold n5
  omega
theorem words_val {a b c d e : W64} (ha : a.toNat < 67108864) (hb : b.toNat < 67108864) (hc : c.toNat < 67108864) (hd : d.toNat < 67108864) (he : e.toNat < 67108864) :
    (wlo [a, b, c, d, e]).toNat + 18446744073709551616 * (whi [a, b, c, d, e]).toNat = n5 a.toNat b.toNat c.toNat d.toNat e.toNat % 340282366920938463463374607431768211456 := by
  have e1 : wlo [a, b, c, d, e] = (a ||| (b <<< 26)) ||| (c <<< 52) := rfl
  have e2 : whi [a, b, c, d, e] = ((c >>> 12) ||| (d <<< 14)) ||| (e <<< 40) := rfl
  have q1 : (a ||| (b <<< 26)).toNat = a.toNat + b.toNat * 2 ^ 26 := by
    rw [BitVec.toNat_or, tn_shl b 26 (by omega)]
    exact or_add (by omega)
  have q2 : ((a ||| (b <<< 26)) ||| (c <<< 52)).toNat = a.toNat + b.toNat * 2 ^ 26 + c.toNat % 2 ^ 12 * 2 ^ 52 := by
    rw [BitVec.toNat_or, q1, tn_shl' c 52 12 rfl]
    exact or_add (by omega)
  have q3 : ((c >>> 12) ||| (d <<< 14)).toNat = c.toNat / 2 ^ 12 + d.toNat * 2 ^ 14 := by
    rw [BitVec.toNat_or, tn_shr, tn_shl d 14 (by omega)]
    exact or_add (by omega)
  have q4 : (((c >>> 12) ||| (d <<< 14)) ||| (e <<< 40)).toNat = c.toNat / 2 ^ 12 + d.toNat * 2 ^ 14 + e.toNat % 2 ^ 24 * 2 ^ 40 := by
    rw [BitVec.toNat_or, q3, tn_shl' e 40 24 rfl]
    exact or_add (by omega)
  rw [e1, e2, q2, q4]
  unfold n5
  omega
theorem leastF_val {a b c d e : W64} (ha : a.toNat < 67108869) (hb : b.toNat < 67108864) (hc : c.toNat < 67108864) (hd : d.toNat < 67108864) (he : e.toNat < 67108864) :
    ∃ a' b' c' d' e' : W64, leastF [a, b, c, d, e] = [a', b', c', d', e'] ∧ a'.toNat < 67108864 ∧ b'.toNat < 67108864 ∧ c'.toNat < 67108864 ∧ d'.toNat < 67108864 ∧ e'.toNat < 67108864 ∧
      n5 a'.toNat b'.toNat c'.toNat d'.toNat e'.toNat = n5 a.toNat b.toNat c.toNat d.toNat e.toNat % pP := by
  obtain ⟨a1, b1, c1, d1, e1, q1, k1, _, hb1, hc1, hd1, he1, hv1, ha1⟩ := carry_val (a := a) (b := b) (c := c) (d := d) (e := e) 67108868 (by omega) (by omega) (by omega) (by omega) (by omega) (by omega)
  replace ha1 := ha1 (Nat.le_refl _) hb hc hd he
  obtain ⟨a2, b2, c2, d2, e2, q2, k2, _, hb2, hc2, hd2, he2, hv2, ha2⟩ := carry_val (a := a1) (b := b1) (c := c1) (d := d1) (e := e1) 67108868 (by omega) (by omega) (by omega) (by omega) (by omega) (by omega)
  replace ha2 := ha2 (Nat.le_refl _) hb1 hc1 hd1 he1
  have hv : n5 a.toNat b.toNat c.toNat d.toNat e.toNat % pP = n5 a2.toNat b2.toNat c2.toNat d2.toNat e2.toNat % pP := by
    rw [← hv1, ← hv2, Nat.add_mul_mod_self_left, Nat.add_mul_mod_self_left]
  rw [hv]
  clear hv hv1 hv2
  obtain ⟨y0, h0⟩ : ∃ t, t = a2 + 5 := ⟨_, rfl⟩
  have v5 : (5 : W64).toNat = 5 := rfl
  have p0 : y0.toNat = a2.toNat + 5 := by rw [h0, tn_add (by rw [v5]; omega), v5]
  obtain ⟨y1, h1⟩ : ∃ t, t = b2 + y0 >>> 26 := ⟨_, rfl⟩
  have p1 : y1.toNat = b2.toNat + y0.toNat / 67108864 := by rw [h1, tn_add (by rw [tn_s26]; omega), tn_s26]
  obtain ⟨y2, h2⟩ : ∃ t, t = c2 + y1 >>> 26 := ⟨_, rfl⟩
  have p2 : y2.toNat = c2.toNat + y1.toNat / 67108864 := by rw [h2, tn_add (by rw [tn_s26]; omega), tn_s26]
  obtain ⟨y3, h3⟩ : ∃ t, t = d2 + y2 >>> 26 := ⟨_, rfl⟩
  have p3 : y3.toNat = d2.toNat + y2.toNat / 67108864 := by rw [h3, tn_add (by rw [tn_s26]; omega), tn_s26]
  obtain ⟨y4, h4⟩ : ∃ t, t = e2 + y3 >>> 26 := ⟨_, rfl⟩
  have p4 : y4.toNat = e2.toNat + y3.toNat / 67108864 := by rw [h4, tn_add (by rw [tn_s26]; omega), tn_s26]
  have ey : lpass (plusF [a2, b2, c2, d2, e2] five) 4 = [y0 &&& m26, y1 &&& m26, y2 &&& m26, y3 &&& m26, y4] := by
    rw [h4, h3, h2, h1, h0]
    simp [lpass, lstep, plusF, plusK, five]
  have el : leastF [a, b, c, d, e] = if y4 >>> 26 = 0#64 then [a2, b2, c2, d2, e2] else [y0 &&& m26, y1 &&& m26, y2 &&& m26, y3 &&& m26, y4 &&& m26] := by
    unfold leastF
    dsimp only
    rw [k1, k2, ey]
    rfl
  rw [el]
  have q := tn_s26 y4
  split
  · rename_i hz
    rw [hz] at q
    replace q : 0 = y4.toNat / 67108864 := q
    refine ⟨a2, b2, c2, d2, e2, rfl, ha2, hb2, hc2, hd2, he2, ?_⟩
    rw [Nat.mod_eq_of_lt]
    unfold n5 pP
    omega
  · rename_i hz
    have q' : y4.toNat / 67108864 ≠ 0 := fun h => hz (BitVec.eq_of_toNat_eq (by rw [q, h]; rfl))
    refine ⟨_, _, _, _, _, rfl, ?_⟩
    simp only [tn_m26]
    refine ⟨by omega, by omega, by omega, by omega, by omega, ?_⟩
    have hle : pP ≤ n5 a2.toNat b2.toNat c2.toNat d2.toNat e2.toNat := by unfold n5 pP; omega
    have hm : n5 a2.toNat b2.toNat c2.toNat d2.toNat e2.toNat % pP = n5 a2.toNat b2.toNat c2.toNat d2.toNat e2.toNat - pP := by
      rw [Nat.mod_eq_sub_mod hle]
      exact Nat.mod_eq_of_lt (by unfold n5 pP; omega)
    rw [hm]
    unfold n5 pP at *
    omega
def vN : List Int → Nat
  | [] => 0
  | x :: r => x.toNat + 256 * vN r
theorem vN_app (a b : List Int) : vN (a ++ b) = vN a + 256 ^ a.length * vN b := by
  induction a with
  | nil => simp [vN]
  | cons x a ih =>
    simp only [List.cons_append, vN, ih, List.length_cons, Nat.pow_succ]
    grind
theorem vN_lt {l : List Int} (hb : Bytes l) : vN l < 256 ^ l.length := by
  induction l with
  | nil => simp [vN]
  | cons x l ih =>
    have h1 := hb x (List.mem_cons_self ..)
    have h2 := ih fun y hy => hb y (List.mem_cons_of_mem _ hy)
    simp only [vN, List.length_cons, Nat.pow_succ]
    omega
theorem vN_zeros (n : Nat) : vN (List.replicate n 0) = 0 := by
  induction n with
  | zero => rfl
  | succ n ih => rw [List.replicate_succ, vN, ih]; rfl
theorem valB_snoc (l : List Int) (x : Int) : valB (l ++ [x]) = valB l * 256 + x := by
  unfold valB
  rw [List.foldl_append]; rfl
theorem valL_vN {l : List Int} (hb : Bytes l) : valL l = (vN l : Int) := by
  induction l with
  | nil => rfl
  | cons x l ih =>
    have h1 := hb x (List.mem_cons_self ..)
    have h2 := ih fun y hy => hb y (List.mem_cons_of_mem _ hy)
    unfold valL at *
    rw [List.reverse_cons, valB_snoc, h2, vN]
    omega
theorem lo64_vN {l : List Int} (hb : Bytes l) (h8 : l.length = 8) : (lo64 l).toNat = vN l := by
  have h1 := vN_lt hb
  rw [h8] at h1
  unfold lo64
  rw [valL_vN hb, BitVec.toNat_ofInt]
  omega
theorem putLow_app : ∀ (m n : Nat) (x : Int), putLow (m + n) x = putLow m x ++ putLow n (x / 256 ^ m)
  | 0, n, x => by simp [putLow]
  | m + 1, n, x => by
    have : m + 1 + n = (m + n) + 1 := by omega
    rw [this, putLow, putLow_app m n, putLow, List.cons_append, Int.pow_succ']
    rw [Int.ediv_ediv_of_nonneg (by omega)]
theorem putLow_mod : ∀ (m : Nat) (x y : Int), putLow m (x + 256 ^ m * y) = putLow m x
  | 0, x, y => rfl
  | m + 1, x, y => by
    have e : x + 256 ^ (m + 1) * y = x + 256 * (256 ^ m * y) := by rw [Int.pow_succ']; grind
    rw [putLow, putLow, e]
    have e1 : (x + 256 * (256 ^ m * y)) % 256 = x % 256 := by omega
    have e2 : (x + 256 * (256 ^ m * y)) / 256 = x / 256 + 256 ^ m * y := by omega
    rw [e1, e2, putLow_mod m]
end Go.Proofs.YtgeepceieckooaaGreatDoor
end

section
namespace Go.Proofs.YtgeepceieckooaaGreatDoor
open Go Go.Ck
set_option maxHeartbeats 1000000
theorem land_dig {a b c d : Nat} (ha : a < 256) (hc : c < 256) : (a + b * 2 ^ 8) &&& (c + d * 2 ^ 8) = (a &&& c) + (b &&& d) * 2 ^ 8 := by
  have e1 := or_add (x := a) (y := b) (k := 8) ha
  have e2 := or_add (x := c) (y := d) (k := 8) hc
  have hac : a &&& c < 2 ^ 8 := Nat.and_lt_two_pow a hc
  have e3 := or_add (x := a &&& c) (y := b &&& d) (k := 8) hac
  rw [← e1, ← e2, ← e3]
  apply Nat.eq_of_testBit_eq
  intro i
  simp only [Nat.testBit_and, Nat.testBit_or, Nat.testBit_mul_two_pow]
  by_cases hi : 8 ≤ i
  · have h8 : (256 : Nat) ≤ 2 ^ i := Nat.pow_le_pow_right (n := 2) (i := 8) (by decide) hi
    have za : a.testBit i = false := Nat.testBit_lt_two_pow (Nat.lt_of_lt_of_le ha h8)
    have zc : c.testBit i = false := Nat.testBit_lt_two_pow (Nat.lt_of_lt_of_le hc h8)
    simp [za, zc, hi]
  · simp [hi]
theorem land_step {a b : Nat} (M : Nat) (ha : a < 256) : (a + 256 * b) &&& M = (a &&& (M % 256)) + 256 * (b &&& (M / 256)) := by
  have h := land_dig (a := a) (b := b) (c := M % 256) (d := M / 256) ha (Nat.mod_lt _ (by omega))
  have e : M % 256 + M / 256 * 2 ^ 8 = M := by omega
  rw [e] at h
  rw [Nat.mul_comm 256 b, Nat.mul_comm 256 (b &&& _)]
  exact h
theorem land255 {x : Nat} (h : x < 256) : x &&& 255 = x := by rw [Nat.and_two_pow_sub_one_eq_mod x 8]; omega
theorem land15 (x : Nat) : x &&& 15 = x % 16 := Nat.and_two_pow_sub_one_eq_mod x 4
theorem land252 {x : Nat} (h : x < 256) : x &&& 252 = x - x % 4 := by
  have : ∀ y : Fin 256, y.val &&& 252 = y.val - y.val % 4 := by decide
  exact this ⟨x, h⟩
def clampB (i : Nat) (c : Int) : Int :=
  let d := if i % 4 = 3 then c % 16 else c
  if 0 < i ∧ i % 4 = 0 then d - d % 4 else d
def clampL (key : List Int) : Nat → List Int
  | 0 => []
  | k + 1 => clampL key k ++ [clampB k (key.getD k 0)]
theorem clampL_len (key : List Int) : ∀ k, (clampL key k).length = k
  | 0 => rfl
  | k + 1 => by rw [clampL, List.length_append, clampL_len key k]; rfl
theorem list8t {l : List Int} (h : l.length = 8) : ∃ a b c d e f g i, l = [a, b, c, d, e, f, g, i] := by
  match l, h with
  | [a, b, c, d, e, f, g, i], _ => exact ⟨_, _, _, _, _, _, _, _, rfl⟩
theorem i255 {x : Int} (h : 0 ≤ x ∧ x < 256) : x.toNat &&& 255 = x.toNat := land255 (by omega)
theorem i15 {x : Int} (h : 0 ≤ x ∧ x < 256) : x.toNat &&& 15 = (x % 16).toNat := by rw [land15]; omega
theorem i252 {x : Int} (h : 0 ≤ x ∧ x < 256) : x.toNat &&& 252 = (x - x % 4).toNat := by rw [land252 (by omega)]; omega
theorem mask_lo {a b c d e f g i : Int} (hb : Bytes [a, b, c, d, e, f, g, i]) : vN [a, b, c, d, e, f, g, i] &&& 1152921487695413247 = vN [a, b, c, d % 16, e - e % 4, f, g, i % 16] := by
  have ha := hb a (by simp); have hb' := hb b (by simp); have hc := hb c (by simp); have hd := hb d (by simp)
  have he := hb e (by simp); have hf := hb f (by simp); have hg := hb g (by simp); have hi := hb i (by simp)
  simp only [vN]
  rw [land_step _ (by omega), land_step _ (by omega), land_step _ (by omega), land_step _ (by omega), land_step _ (by omega), land_step _ (by omega), land_step _ (by omega), land_step _ (by omega)]
  simp only [Nat.reduceMod, Nat.reduceDiv, Nat.and_zero]
  rw [i255 ha, i255 hb', i255 hc, i15 hd, i252 he, i255 hf, i255 hg, i15 hi]
theorem mask_hi {a b c d e f g i : Int} (hb : Bytes [a, b, c, d, e, f, g, i]) : vN [a, b, c, d, e, f, g, i] &&& 1152921487695413244 = vN [a - a % 4, b, c, d % 16, e - e % 4, f, g, i % 16] := by
  have ha := hb a (by simp); have hb' := hb b (by simp); have hc := hb c (by simp); have hd := hb d (by simp)
  have he := hb e (by simp); have hf := hb f (by simp); have hg := hb g (by simp); have hi := hb i (by simp)
  simp only [vN]
  rw [land_step _ (by omega), land_step _ (by omega), land_step _ (by omega), land_step _ (by omega), land_step _ (by omega), land_step _ (by omega), land_step _ (by omega), land_step _ (by omega)]
  simp only [Nat.reduceMod, Nat.reduceDiv, Nat.and_zero]
  rw [i252 ha, i255 hb', i255 hc, i15 hd, i252 he, i255 hf, i255 hg, i15 hi]
theorem bytes_take' {l : List Int} (hb : Bytes l) (k : Nat) : Bytes (l.take k) := fun x hx => hb x (List.mem_of_mem_take hx)
theorem bytes_drop' {l : List Int} (hb : Bytes l) (k : Nat) : Bytes (l.drop k) := fun x hx => hb x (List.mem_of_mem_drop hx)
theorem clamp_eq (a0 a1 a2 a3 a4 a5 a6 a7 b0 b1 b2 b3 b4 b5 b6 b7 : Int) (r : List Int) : clampL ([a0, a1, a2, a3, a4, a5, a6, a7] ++ ([b0, b1, b2, b3, b4, b5, b6, b7] ++ r)) 16 =
    [a0, a1, a2, a3 % 16, a4 - a4 % 4, a5, a6, a7 % 16] ++ [b0 - b0 % 4, b1, b2, b3 % 16, b4 - b4 % 4, b5, b6, b7 % 16] := rfl
theorem tagR_val {key : List Int} (hk : Bytes key) (hl : key.length = 32) : ∃ a b c d e : W64, tagR key = [a, b, c, d, e] ∧ a.toNat < 67108864 ∧ b.toNat < 67108864 ∧ c.toNat < 67108864 ∧ d.toNat < 67108864 ∧ e.toNat < 67108864 ∧
    n5 a.toNat b.toNat c.toNat d.toNat e.toNat = vN (clampL key 16) := by
  have l1 : (key.take 8).length = 8 := by simp; omega
  have l2 : ((key.drop 8).take 8).length = 8 := by simp; omega
  have q1 := lo64_vN (bytes_take' hk 8) l1
  have q2 := lo64_vN (bytes_take' (bytes_drop' hk 8) 8) l2
  obtain ⟨a0, a1, a2, a3, a4, a5, a6, a7, ea⟩ := list8t l1
  obtain ⟨b0, b1, b2, b3, b4, b5, b6, b7, eb⟩ := list8t l2
  have m1 := mask_lo (ea ▸ bytes_take' hk 8)
  have m2 := mask_hi (eb ▸ bytes_take' (bytes_drop' hk 8) 8)
  obtain ⟨a, b, c, d, e, h0, h1, h2, h3, h4, h5, hv⟩ := loadF_val (lo64 (key.take 8) &&& 1152921487695413247#64) (lo64 ((key.drop 8).take 8) &&& 1152921487695413244#64) 0#64 (by decide)
  refine ⟨a, b, c, d, e, h0, h1, h2, h3, h4, h5, ?_⟩
  rw [hv, BitVec.toNat_and, BitVec.toNat_and, q1, q2, ea, eb]
  have z1 : (1152921487695413247#64 : W64).toNat = 1152921487695413247 := rfl
  have z2 : (1152921487695413244#64 : W64).toNat = 1152921487695413244 := rfl
  have z3 : (0#64 : W64).toNat = 0 := rfl
  rw [z1, z2, z3, m1, m2]
  have ek : key = [a0, a1, a2, a3, a4, a5, a6, a7] ++ ([b0, b1, b2, b3, b4, b5, b6, b7] ++ (key.drop 8).drop 8) := by
    rw [← ea, ← eb, List.take_append_drop, List.take_append_drop]
  have ec : clampL key 16 = [a0, a1, a2, a3 % 16, a4 - a4 % 4, a5, a6, a7 % 16] ++ [b0 - b0 % 4, b1, b2, b3 % 16, b4 - b4 % 4, b5, b6, b7 % 16] := by
    rw [ek]
    exact clamp_eq ..
  rw [ec, vN_app]
  generalize vN [a0, a1, a2, a3 % 16, a4 - a4 % 4, a5, a6, a7 % 16] = X
  generalize vN [b0 - b0 % 4, b1, b2, b3 % 16, b4 - b4 % 4, b5, b6, b7 % 16] = Y
  show X + 18446744073709551616 * Y + 340282366920938463463374607431768211456 * 0 = X + 256 ^ 8 * Y
  omega
theorem vN_take_drop (l : List Int) (k : Nat) (h : k ≤ l.length) : vN l = vN (l.take k) + 256 ^ k * vN (l.drop k) := by
  have := vN_app (l.take k) (l.drop k)
  rw [List.take_append_drop, List.length_take, Nat.min_eq_left h] at this
  exact this
theorem partF_val {c : List Int} (hc : Bytes c) (hl : c.length ≤ 16) : ∃ a b c' d e : W64, partF c = [a, b, c', d, e] ∧ a.toNat < 67108864 ∧ b.toNat < 67108864 ∧ c'.toNat < 67108864 ∧ d.toNat < 67108864 ∧ e.toNat < 67108864 ∧
    n5 a.toNat b.toNat c'.toNat d.toNat e.toNat = vN c + 256 ^ c.length := by
  have hw : Bytes (wideP c) := fun x hx => by
    unfold wideP at hx
    rcases List.mem_append.1 hx with hx | hx
    · exact hc x hx
    · rcases List.mem_cons.1 hx with rfl | hx
      · omega
      · have := List.eq_of_mem_replicate hx; omega
  have l17 := wideP_len hl
  have l1 : ((wideP c).take 8).length = 8 := by simp; omega
  have l2 : (((wideP c).drop 8).take 8).length = 8 := by simp; omega
  have q1 := lo64_vN (bytes_take' hw 8) l1
  have q2 := lo64_vN (bytes_take' (bytes_drop' hw 8) 8) l2
  have ev : vN (wideP c) = vN c + 256 ^ c.length := by
    unfold wideP
    rw [vN_app, vN, vN_zeros]
    simp
  have d1 := vN_take_drop (wideP c) 8 (by omega)
  have d2 := vN_take_drop ((wideP c).drop 8) 8 (by simp; omega)
  have e16 : ((wideP c).drop 8).drop 8 = [(wideP c).getD 16 0] := by
    rw [List.drop_drop, List.drop_eq_getElem_cons (by omega), List.drop_of_length_le (by omega), List.getD_eq_getElem?_getD, List.getElem?_eq_getElem (by omega)]
    rfl
  have hx : 0 ≤ (wideP c).getD 16 0 ∧ (wideP c).getD 16 0 < 2 := by
    have hm : (wideP c).getD 16 0 ∈ wideP c := by
      rw [List.getD_eq_getElem?_getD, List.getElem?_eq_getElem (by omega)]
      exact List.getElem_mem _
    by_cases h16 : c.length = 16
    · have : (wideP c).getD 16 0 = 1 := by
        unfold wideP
        rw [List.getD_eq_getElem?_getD, List.getElem?_append_right (by omega), h16]
        rfl
      omega
    · have : (wideP c).getD 16 0 = 0 := by
        unfold wideP
        rw [List.getD_eq_getElem?_getD, List.getElem?_append_right (by omega)]
        have : 16 - c.length = (16 - c.length - 1) + 1 := by omega
        rw [this, List.getElem?_cons_succ, List.getElem?_replicate]
        split <;> rfl
      omega
  rw [e16] at d2
  simp only [vN] at d2
  have hab : (BitVec.ofInt 64 ((wideP c).getD 16 0)).toNat = ((wideP c).getD 16 0).toNat := by rw [BitVec.toNat_ofInt]; omega
  obtain ⟨a, b, c', d, e, h0, h1, h2, h3, h4, h5, hv⟩ := loadF_val (lo64 ((wideP c).take 8)) (lo64 (((wideP c).drop 8).take 8)) (BitVec.ofInt 64 ((wideP c).getD 16 0)) (by rw [hab]; omega)
  refine ⟨a, b, c', d, e, h0, h1, h2, h3, h4, h5, ?_⟩
  rw [hv, hab, q1, q2, ← ev, d1, d2]
  omega
def tagV (r : Nat) (b : List Int) : Nat → Nat
  | 0 => 0
  | k + 1 => (tagV r b k + (vN ((b.drop (16 * k)).take 16) + 256 ^ ((b.drop (16 * k)).take 16).length)) * r % pP
theorem tagV_lt (r : Nat) (b : List Int) : ∀ k, tagV r b k < pP
  | 0 => by show 0 < pP; decide
  | k + 1 => Nat.mod_lt _ (by decide)
theorem tagH_val {key b : List Int} (hk : Bytes key) (hl : key.length = 32) (hb : Bytes b) : ∀ k, ∃ a b' c d e : W64, tagH (tagR key) b k = [a, b', c, d, e] ∧ a.toNat < 67108869 ∧ b'.toNat < 67108864 ∧ c.toNat < 67108864 ∧ d.toNat < 67108864 ∧ e.toNat < 67108864 ∧
    n5 a.toNat b'.toNat c.toNat d.toNat e.toNat % pP = tagV (vN (clampL key 16)) b k
  | 0 => ⟨0, 0, 0, 0, 0, rfl, by decide, by decide, by decide, by decide, by decide, rfl⟩
  | k + 1 => by
    obtain ⟨a, b', c, d, e, h0, h1, h2, h3, h4, h5, hv⟩ := tagH_val hk hl hb k
    obtain ⟨ra, rb, rc, rd, re, r0, r1, r2, r3, r4, r5, rv⟩ := tagR_val hk hl
    obtain ⟨pa, pb, pc, pd, pe, p0, p1, p2, p3, p4, p5, pv⟩ := partF_val (c := (b.drop (16 * k)).take 16) (bytes_take' (bytes_drop' hb _) _) (by simp; omega)
    obtain ⟨sa, sb, sc, sd, se, s0, s1, s2, s3, s4, s5, sv⟩ := plusF_val (a := a) (b := b') (c := c) (d := d) (e := e) (f := pa) (g := pb) (h := pc) (i := pd) (j := pe) (by omega) (by omega) (by omega) (by omega) (by omega) (by omega) (by omega) (by omega) (by omega) (by omega)
    obtain ⟨ta, tb, tc, td, te, t0, t1, t2, t3, t4, t5, tv⟩ := timesF_val (a := sa) (b := sb) (c := sc) (d := sd) (e := se) (f := ra) (g := rb) (h := rc) (i := rd) (j := re) (by omega) (by omega) (by omega) (by omega) (by omega) (by omega) (by omega) (by omega) (by omega) (by omega)
    refine ⟨ta, tb, tc, td, te, ?_, t1, t2, t3, t4, t5, ?_⟩
    · rw [tagH, h0, p0, s0]
      rw [r0, t0]
    · rw [tv, sv, rv, pv, tagV, ← hv]
      generalize n5 a.toNat b'.toNat c.toNat d.toNat e.toNat = X
      generalize vN (clampL key 16) = R
      generalize vN ((b.drop (16 * k)).take 16) + 256 ^ ((b.drop (16 * k)).take 16).length = Y
      rw [Nat.mul_mod, ← Nat.mod_add_mod, ← Nat.mul_mod]
theorem p128 : (256 : Int) ^ 8 = 18446744073709551616 := by decide
theorem tagE_val {a b c d e : W64} (ha : a.toNat < 67108864) (hb : b.toNat < 67108864) (hc : c.toNat < 67108864) (hd : d.toNat < 67108864) (he : e.toNat < 67108864) (s0 s1 : W64) :
    tagE s0 s1 [a, b, c, d, e] = putLow 16 ((n5 a.toNat b.toNat c.toNat d.toNat e.toNat + (s0.toNat + 18446744073709551616 * s1.toNat) : Nat) : Int) := by
  have hw := words_val ha hb hc hd he
  generalize n5 a.toNat b.toNat c.toNat d.toNat e.toNat = N at hw ⊢
  unfold tagE
  dsimp only
  generalize wlo [a, b, c, d, e] = lo at hw ⊢
  generalize whi [a, b, c, d, e] = hi at hw ⊢
  have b1 := lo.isLt; have b2 := hi.isLt; have b3 := s0.isLt; have b4 := s1.isLt
  have v1 : (1 : W64).toNat = 1 := rfl
  have es : (lo + s0).toNat = (lo.toNat + s0.toNat) % 18446744073709551616 := BitVec.toNat_add ..
  rw [putLow_app 8 8, p128]
  have hlow : putLow 8 ((N + (s0.toNat + 18446744073709551616 * s1.toNat) : Nat) : Int) = putLow 8 ((lo + s0).toNat : Int) := by
    have : ((N + (s0.toNat + 18446744073709551616 * s1.toNat) : Nat) : Int) = ((lo + s0).toNat : Int) + 256 ^ 8 * (((N + (s0.toNat + 18446744073709551616 * s1.toNat) : Nat) : Int) / 18446744073709551616) := by
      rw [es, p128]
      omega
    rw [this, putLow_mod]
  rw [hlow]
  congr 1
  have hh : ∀ t : W64, (t = if (lo + s0).toNat < lo.toNat then hi + 1 else hi) → putLow 8 ((t + s1).toNat : Int) = putLow 8 (((N + (s0.toNat + 18446744073709551616 * s1.toNat) : Nat) : Int) / 18446744073709551616) := fun t ht => by
    have et : t.toNat = (hi.toNat + (lo.toNat + s0.toNat) / 18446744073709551616) % 18446744073709551616 := by
      rw [ht]
      split
      · rename_i hlt
        rw [es] at hlt
        have : (hi + 1).toNat = (hi.toNat + 1) % 18446744073709551616 := BitVec.toNat_add ..
        rw [this]
        omega
      · rename_i hlt
        rw [es] at hlt
        omega
    have e2 : (t + s1).toNat = (t.toNat + s1.toNat) % 18446744073709551616 := BitVec.toNat_add ..
    have : ((N + (s0.toNat + 18446744073709551616 * s1.toNat) : Nat) : Int) / 18446744073709551616 = ((t + s1).toNat : Int) + 256 ^ 8 * (((N + (s0.toNat + 18446744073709551616 * s1.toNat) : Nat) : Int) / 18446744073709551616 / 18446744073709551616) := by
      rw [e2, et, p128]
      omega
    rw [this, putLow_mod]
  exact hh _ rfl
theorem tagF_val {key b : List Int} (hk : Bytes key) (hl : key.length = 32) (hb : Bytes b) :
    tagF key b = putLow 16 ((tagV (vN (clampL key 16)) b ((b.length + 15) / 16) + vN ((key.drop 16).take 16) : Nat) : Int) := by
  obtain ⟨a, b', c, d, e, h0, h1, h2, h3, h4, h5, hv⟩ := tagH_val hk hl hb ((b.length + 15) / 16)
  obtain ⟨a2, b2, c2, d2, e2, k0, k1, k2, k3, k4, k5, kv⟩ := leastF_val h1 h2 h3 h4 h5
  unfold tagF
  rw [h0, k0, tagE_val k1 k2 k3 k4 k5, kv, hv]
  have q1 := lo64_vN (l := (key.drop 16).take 8) (bytes_take' (bytes_drop' hk 16) 8) (by simp; omega)
  have q2 := lo64_vN (l := (key.drop 24).take 8) (bytes_take' (bytes_drop' hk 24) 8) (by simp; omega)
  have d1 := vN_take_drop ((key.drop 16).take 16) 8 (by simp; omega)
  have e1 : ((key.drop 16).take 16).take 8 = (key.drop 16).take 8 := by rw [List.take_take]; rfl
  have e2 : ((key.drop 16).take 16).drop 8 = (key.drop 24).take 8 := by rw [List.drop_take, List.drop_drop]
  rw [e1, e2] at d1
  rw [q1, q2, d1]
end Go.Proofs.YtgeepceieckooaaGreatDoor
end

section
namespace Go.Proofs.YtgeepceieckooaaGreatDoor
open Go Go.Ck
set_option maxHeartbeats 1000000
def vI : List Int → Int
  | [] => 0
  | x :: r => x + 256 * vI r
theorem vI_set : ∀ {l : List Int} {k : Nat} (y : Int), k < l.length → vI (l.set k y) = vI l + 256 ^ k * (y - l.getD k 0)
  | x :: l, 0, y, _ => by
    simp only [List.set_cons_zero, vI, List.getD_cons_zero]
    omega
  | x :: l, k + 1, y, h => by
    have ih := vI_set (l := l) (k := k) y (by simpa using h)
    simp only [List.set_cons_succ, vI, List.getD_cons_succ, ih, Int.pow_succ]
    grind
theorem vI_zeros (n : Nat) : vI (List.replicate n 0) = 0 := by
  induction n with
  | zero => rfl
  | succ n ih => rw [List.replicate_succ, vI, ih]; rfl
theorem vI_vN {l : List Int} (hb : Bytes l) : vI l = (vN l : Int) := by
  induction l with
  | nil => rfl
  | cons x l ih =>
    have h1 := hb x (List.mem_cons_self ..)
    rw [vI, vN, ih fun y hy => hb y (List.mem_cons_of_mem _ hy)]
    omega
theorem vI_putLow : ∀ (n : Nat) {x : Int}, 0 ≤ x → x < 256 ^ n → vI (putLow n x) = x
  | 0, x, h0, h1 => by simp at h1; show (0 : Int) = x; omega
  | n + 1, x, h0, h1 => by
    rw [Int.pow_succ] at h1
    have ih := vI_putLow n (x := x / 256) (by omega) (by omega)
    rw [putLow, vI, ih]
    omega
theorem putLow_vI : ∀ {l : List Int}, Bytes l → putLow l.length (vI l) = l
  | [], _ => rfl
  | x :: l, hb => by
    have h1 := hb x (List.mem_cons_self ..)
    have ih := putLow_vI fun y hy => hb y (List.mem_cons_of_mem _ hy)
    show ((x + 256 * vI l) % 256) :: putLow l.length ((x + 256 * vI l) / 256) = _
    have e1 : (x + 256 * vI l) % 256 = x := by omega
    have e2 : (x + 256 * vI l) / 256 = vI l := by omega
    rw [e1, e2, ih]
theorem vI_nn {l : List Int} (h : ∀ x ∈ l, 0 ≤ x) : 0 ≤ vI l := by
  induction l with
  | nil => exact Int.le_refl _
  | cons x l ih =>
    have h1 := h x (List.mem_cons_self ..)
    have h2 := ih fun y hy => h y (List.mem_cons_of_mem _ hy)
    rw [vI]; omega
theorem putLow_getD : ∀ (n i : Nat) (x : Int), i < n → (putLow n x).getD i 0 = x / 256 ^ i % 256
  | n + 1, 0, x, _ => by simp [putLow]
  | n + 1, i + 1, x, h => by
    rw [putLow, List.getD_cons_succ, putLow_getD n i _ (by omega), Int.pow_succ', Int.ediv_ediv_of_nonneg (by omega)]
theorem getD_mem' {l : List Int} {P : Int → Prop} (h : ∀ x ∈ l, P x) (h0 : P 0) (k : Nat) : P (l.getD k 0) := by
  rw [List.getD_eq_getElem?_getD]
  cases hk : l[k]? with
  | none => exact h0
  | some y => exact h y (List.mem_of_getElem? hk)
theorem mem_set {l : List Int} {k : Nat} {y x : Int} {P : Int → Prop} (h : ∀ x ∈ l, P x) (hy : P y) (hx : x ∈ l.set k y) : P x := by
  rcases List.mem_or_eq_of_mem_set hx with h1 | rfl
  · exact h x h1
  · exact hy
theorem getD_set_ne {l : List Int} {k j : Nat} {y : Int} (h : k ≠ j) : (l.set k y).getD j 0 = l.getD j 0 := by
  rw [List.getD_eq_getElem?_getD, List.getElem?_set_ne h, List.getD_eq_getElem?_getD]
theorem getD_set_eq {l : List Int} {k : Nat} {y : Int} (h : k < l.length) : (l.set k y).getD k 0 = y := by
  rw [List.getD_eq_getElem?_getD, List.getElem?_set_self h]; rfl
def crK (a : List Int) : Nat → List Int × Int
  | 0 => (a, 0)
  | k + 1 => ((crK a k).1.set k (((crK a k).1.getD k 0 + (crK a k).2) % 256), ((crK a k).1.getD k 0 + (crK a k).2) / 256)
theorem crK_len (a : List Int) : ∀ k, (crK a k).1.length = a.length
  | 0 => rfl
  | k + 1 => by rw [crK, List.length_set, crK_len a k]
theorem crK_get (a : List Int) : ∀ (k j : Nat), k ≤ j → (crK a k).1.getD j 0 = a.getD j 0
  | 0, j, _ => rfl
  | k + 1, j, h => by rw [crK, getD_set_ne (by omega), crK_get a k j (by omega)]
theorem crK_low (a : List Int) (j : Nat) (hj : j < a.length) : ∀ k, j < k → 0 ≤ (crK a k).1.getD j 0 ∧ (crK a k).1.getD j 0 < 256
  | k + 1, h => by
    rw [crK]
    by_cases hjk : j = k
    · subst hjk
      rw [getD_set_eq (by rw [crK_len]; exact hj)]
      omega
    · rw [getD_set_ne (by omega)]
      exact crK_low a j hj k (by omega)
theorem crK_over {a : List Int} {B : Int} (h : ∀ x ∈ a, 0 ≤ x ∧ x ≤ B) (hB : 0 ≤ B) : ∀ k, 0 ≤ (crK a k).2 ∧ (crK a k).2 ≤ B
  | 0 => ⟨Int.le_refl _, hB⟩
  | k + 1 => by
    have ih := crK_over h hB k
    have hg := getD_mem' (P := fun x => 0 ≤ x ∧ x ≤ B) h ⟨Int.le_refl _, hB⟩ k
    rw [crK, crK_get a k k (Nat.le_refl _)]
    dsimp only
    omega
theorem crK_val (a : List Int) : ∀ k, k ≤ a.length → vI (crK a k).1 + 256 ^ k * (crK a k).2 = vI a
  | 0, _ => by simp [crK]
  | k + 1, h => by
    have ih := crK_val a k (by omega)
    rw [crK]
    dsimp only
    rw [vI_set _ (by rw [crK_len]; omega), Int.pow_succ]
    generalize (crK a k).1.getD k 0 = x at ih ⊢
    generalize (crK a k).2 = o at ih ⊢
    have e : (x + o) % 256 + 256 * ((x + o) / 256) = x + o := by omega
    generalize (x + o) % 256 = u at e ⊢
    generalize (x + o) / 256 = v at e ⊢
    generalize vI (crK a k).1 = V at ih ⊢
    generalize (256 : Int) ^ k = M at ih ⊢
    grind
theorem crK_out {a : List Int} {B : Int} (h : ∀ x ∈ a, 0 ≤ x ∧ x ≤ B) (hB : 0 ≤ B) (hv : vI a < 256 ^ a.length) : (crK a a.length).1 = putLow a.length (vI a) := by
  have hby : Bytes (crK a a.length).1 := fun x hx => by
    obtain ⟨j, hj⟩ := List.getElem?_of_mem hx
    have hjl := (List.getElem?_eq_some_iff.1 hj).1
    rw [crK_len] at hjl
    have := crK_low a j hjl a.length hjl
    rw [List.getD_eq_getElem?_getD, hj] at this
    exact this
  have hval := crK_val a a.length (Nat.le_refl _)
  have ho := (crK_over h hB a.length).1
  have hn := vI_nn (l := (crK a a.length).1) fun x hx => (hby x hx).1
  have hz : (crK a a.length).2 = 0 := by
    by_cases h1 : 0 < (crK a a.length).2
    · have : (256 : Int) ^ a.length * 1 ≤ 256 ^ a.length * (crK a a.length).2 := Int.mul_le_mul_of_nonneg_left (by omega) (Int.le_of_lt (Int.pow_pos (by decide)))
      omega
    · omega
  rw [hz, Int.mul_zero, Int.add_zero] at hval
  have hp := putLow_vI hby
  rw [crK_len, hval] at hp
  exact hp.symm
theorem crK_out' {a : List Int} {B : Int} {N : Int} (ha : a.length = 34) (h : ∀ x ∈ a, 0 ≤ x ∧ x ≤ B) (hB : 0 ≤ B) (hv : vI a = N) (hN : N < 256 ^ 34) : (crK a 34).1 = putLow 34 N := by
  have := crK_out h hB (by rw [ha, hv]; exact hN)
  rw [ha, hv] at this
  exact this
theorem dig_put {n : Nat} {x : Int} : ∀ y ∈ putLow n x, 0 ≤ y ∧ y < 256 := by
  induction n generalizing x with
  | zero => intro y hy; cases hy
  | succ n ih =>
    intro y hy
    rcases List.mem_cons.1 hy with rfl | hy
    · omega
    · exact ih y hy
theorem mod_succ (N : Int) (k : Nat) : N % 256 ^ (k + 1) = N % 256 ^ k + 256 ^ k * (N / 256 ^ k % 256) := by
  have hp : (0 : Int) < 256 ^ k := Int.pow_pos (by decide)
  have h1 := Int.emod_add_mul_ediv N (256 ^ k)
  have h2 := Int.emod_add_mul_ediv (N / 256 ^ k) 256
  have h3 := Int.emod_nonneg N (Int.ne_of_gt hp)
  have h4 := Int.emod_lt_of_pos N hp
  rw [Int.pow_succ]
  generalize N / 256 ^ k = q at *
  generalize hr : N % 256 ^ k = r at *
  have b1 : 0 ≤ q % 256 ∧ q % 256 < 256 := by omega
  generalize q % 256 = d at *
  generalize q / 256 = e at *
  generalize (256 : Int) ^ k = M at *
  have hN : N = (r + M * d) + M * 256 * e := by grind
  have hlt : r + M * d < M * 256 := by
    have : M * d ≤ M * 255 := Int.mul_le_mul_of_nonneg_left (by omega) (by omega)
    omega
  have hge : 0 ≤ r + M * d := by
    have : 0 ≤ M * d := Int.mul_nonneg (by omega) b1.1
    omega
  rw [hN, Int.add_mul_emod_self_left, Int.emod_eq_of_lt hge hlt]
def zer34 : List Int := List.replicate 34 0
def lowK (a : List Int) : Nat → List Int
  | 0 => zer34
  | k + 1 => (lowK a k).set k (a.getD k 0)
def highK (a : List Int) : Nat → List Int
  | 0 => zer34
  | k + 1 => (highK a k).set k (a.getD (16 + k) 0 / 4 + a.getD (17 + k) 0 % 4 * 64)
def lowF (a : List Int) : List Int := (lowK a 16).set 16 (a.getD 16 0 % 4)
def addK (l g : List Int) : Nat → List Int
  | 0 => l
  | k + 1 => (addK l g k).set k ((addK l g k).getD k 0 + 5 * g.getD k 0)
theorem lowK_len (a : List Int) : ∀ k, (lowK a k).length = 34
  | 0 => rfl
  | k + 1 => by rw [lowK, List.length_set, lowK_len a k]
theorem highK_len (a : List Int) : ∀ k, (highK a k).length = 34
  | 0 => rfl
  | k + 1 => by rw [highK, List.length_set, highK_len a k]
theorem lowF_len (a : List Int) : (lowF a).length = 34 := by rw [lowF, List.length_set, lowK_len]
theorem addK_len (l g : List Int) : ∀ k, (addK l g k).length = l.length
  | 0 => rfl
  | k + 1 => by rw [addK, List.length_set, addK_len l g k]
theorem zer_get (j : Nat) : zer34.getD j 0 = 0 := by
  rw [zer34, List.getD_eq_getElem?_getD, List.getElem?_replicate]
  split <;> rfl
theorem lowK_get (a : List Int) : ∀ (k j : Nat), k ≤ j → (lowK a k).getD j 0 = 0
  | 0, j, _ => zer_get j
  | k + 1, j, h => by rw [lowK, getD_set_ne (by omega), lowK_get a k j (by omega)]
theorem highK_get (a : List Int) : ∀ (k j : Nat), k ≤ j → (highK a k).getD j 0 = 0
  | 0, j, _ => zer_get j
  | k + 1, j, h => by rw [highK, getD_set_ne (by omega), highK_get a k j (by omega)]
theorem dig_set {l : List Int} {k : Nat} {y lo hi : Int} (h : ∀ x ∈ l, lo ≤ x ∧ x ≤ hi) (hy : lo ≤ y ∧ y ≤ hi) : ∀ x ∈ l.set k y, lo ≤ x ∧ x ≤ hi := fun x hx => mem_set (P := fun x => lo ≤ x ∧ x ≤ hi) h hy hx
theorem dig_zer {hi : Int} (h : 0 ≤ hi) : ∀ x ∈ zer34, 0 ≤ x ∧ x ≤ hi := fun x hx => by
  have := List.eq_of_mem_replicate hx; omega
theorem dig_get {l : List Int} {hi : Int} (h : ∀ x ∈ l, 0 ≤ x ∧ x ≤ hi) (h0 : 0 ≤ hi) (k : Nat) : 0 ≤ l.getD k 0 ∧ l.getD k 0 ≤ hi := getD_mem' (P := fun x => 0 ≤ x ∧ x ≤ hi) h ⟨Int.le_refl _, h0⟩ k
theorem lowK_dig {a : List Int} (h : ∀ x ∈ a, 0 ≤ x ∧ x ≤ 255) : ∀ k, ∀ x ∈ lowK a k, 0 ≤ x ∧ x ≤ 255
  | 0 => dig_zer (by omega)
  | k + 1 => dig_set (lowK_dig h k) (dig_get h (by omega) k)
theorem highK_dig {a : List Int} (h : ∀ x ∈ a, 0 ≤ x ∧ x ≤ 255) : ∀ k, ∀ x ∈ highK a k, 0 ≤ x ∧ x ≤ 255
  | 0 => dig_zer (by omega)
  | k + 1 => dig_set (highK_dig h k) (by have h1 := dig_get h (by omega) (16 + k); have h2 := dig_get h (by omega) (17 + k); omega)
theorem lowF_dig {a : List Int} (h : ∀ x ∈ a, 0 ≤ x ∧ x ≤ 255) : ∀ x ∈ lowF a, 0 ≤ x ∧ x ≤ 255 := dig_set (lowK_dig h 16) (by have h1 := dig_get h (by omega) 16; omega)
theorem addK_get (l g : List Int) : ∀ (k j : Nat), k ≤ j → (addK l g k).getD j 0 = l.getD j 0
  | 0, j, _ => rfl
  | k + 1, j, h => by rw [addK, getD_set_ne (by omega), addK_get l g k j (by omega)]
theorem addK_dig {l g : List Int} (h : ∀ x ∈ l, 0 ≤ x ∧ x ≤ 255) (hg : ∀ x ∈ g, 0 ≤ x ∧ x ≤ 255) : ∀ k, ∀ x ∈ addK l g k, 0 ≤ x ∧ x ≤ 1530
  | 0 => fun x hx => by have := h x hx; omega
  | k + 1 => dig_set (addK_dig h hg k) (by rw [addK_get l g k k (Nat.le_refl _)]; have h1 := dig_get h (by omega) k; have h2 := dig_get hg (by omega) k; omega)
theorem vI_take (l : List Int) : ∀ k, k < l.length → vI (l.take (k + 1)) = vI (l.take k) + 256 ^ k * l.getD k 0 := by
  induction l with
  | nil => intro k h; cases h
  | cons x l ih =>
    intro k h
    cases k with
    | zero => simp [vI]
    | succ k =>
      have := ih k (by simpa using h)
      simp only [List.take_succ_cons, vI, List.getD_cons_succ, Int.pow_succ] at this ⊢
      rw [this]
      grind
theorem addK_val (l g : List Int) (hg : g.length = l.length) : ∀ k, k ≤ l.length → vI (addK l g k) = vI l + 5 * vI (g.take k)
  | 0, _ => by simp [addK, vI]
  | k + 1, h => by
    rw [addK, vI_set _ (by rw [addK_len]; omega), addK_val l g hg k (by omega), vI_take g k (by omega)]
    grind
theorem lowK_val {N : Int} : ∀ k, k ≤ 34 → vI (lowK (putLow 34 N) k) = N % 256 ^ k
  | 0, _ => by rw [Int.pow_zero, Int.emod_one]; exact vI_zeros 34
  | k + 1, h => by
    rw [lowK, vI_set _ (by rw [lowK_len]; omega), lowK_val k (by omega), putLow_getD 34 k N (by omega), lowK_get _ _ _ (Nat.le_refl _), Int.sub_zero, mod_succ]
theorem e130 : (1361129467683753853853498429727072845824 : Int) = 256 ^ 16 * 4 := by decide
theorem highK_val {N : Int} (hN : 0 ≤ N) (hl : N < 256 ^ 34) : ∀ k, k ≤ 18 → vI (highK (putLow 34 N) k) = N / 1361129467683753853853498429727072845824 % 256 ^ k
  | 0, _ => by rw [Int.pow_zero, Int.emod_one]; exact vI_zeros 34
  | k + 1, h => by
    have e1 : (putLow 34 N).getD (16 + k) 0 = N / 256 ^ 16 / 256 ^ k % 256 := by rw [putLow_getD 34 _ N (by omega), Int.pow_add, Int.ediv_ediv_of_nonneg (Int.pow_nonneg (by decide))]
    have e2 : (putLow 34 N).getD (17 + k) 0 = N / 256 ^ 16 / 256 ^ k / 256 % 256 := by
      have e3 : N / 256 ^ 16 / 256 ^ k / 256 = N / 256 ^ (17 + k) := by
        rw [Int.ediv_ediv_of_nonneg (Int.pow_nonneg (by decide)), ← Int.pow_succ, Int.ediv_ediv_of_nonneg (Int.pow_nonneg (by decide)), ← Int.pow_add]
        congr 2
        omega
      rw [e3]
      by_cases h17 : 17 + k < 34
      · rw [putLow_getD 34 _ N h17]
      · have hk : k = 17 := by omega
        subst hk
        rw [List.getD_eq_getElem?_getD, List.getElem?_eq_none (by rw [putLow_len]; omega)]
        rw [Int.ediv_eq_zero_of_lt hN hl]
        rfl
    have e4 : N / 1361129467683753853853498429727072845824 / 256 ^ k = N / 256 ^ 16 / 256 ^ k / 4 := by
      have q1 : (0 : Int) ≤ 256 ^ 16 := by decide
      have q2 : (0 : Int) ≤ 256 ^ k := Int.pow_nonneg (by decide)
      rw [e130, Int.ediv_ediv_of_nonneg (Int.mul_nonneg q1 (by decide)), Int.ediv_ediv_of_nonneg q1, Int.ediv_ediv_of_nonneg (Int.mul_nonneg q1 q2)]
      congr 1
      rw [Int.mul_assoc, Int.mul_assoc, Int.mul_comm 4]
    rw [highK, vI_set _ (by rw [highK_len]; omega), highK_val hN hl k (by omega), highK_get _ _ _ (Nat.le_refl _), Int.sub_zero, mod_succ, e1, e2, e4]
    generalize N / 256 ^ 16 / 256 ^ k = M
    have : M % 256 / 4 + M / 256 % 256 % 4 * 64 = M / 4 % 256 := by omega
    rw [this]
def rdF (N : Int) : Int := N % 1361129467683753853853498429727072845824 + 5 * (N / 1361129467683753853853498429727072845824)
theorem fold_round {N : Int} (hN : 0 ≤ N) (hl : N < 256 ^ 34) : vI (addK (lowF (putLow 34 N)) (highK (putLow 34 N) 18) 34) = rdF N := by
  have e1 := lowK_val (N := N) 16 (by omega)
  have e2 := highK_val hN hl 18 (by omega)
  have e3 : vI (lowF (putLow 34 N)) = N % 1361129467683753853853498429727072845824 := by
    rw [lowF, vI_set _ (by rw [lowK_len]; omega), e1, lowK_get _ _ _ (Nat.le_refl _), putLow_getD 34 16 N (by omega)]
    have p16 : (256 : Int) ^ 16 = 340282366920938463463374607431768211456 := by decide
    rw [p16]
    omega
  have p34 : (256 : Int) ^ 34 = 7588550360256754183279148073529370729071901715047420004889892225542594864082845696 := by decide
  have p18 : (256 : Int) ^ 18 = 22300745198530623141535718272648361505980416 := by decide
  rw [addK_val _ _ (by rw [highK_len, lowF_len]) 34 (by rw [lowF_len]; omega), List.take_of_length_le (by rw [highK_len]; omega), e2, e3, rdF, p18]
  rw [p34] at hl
  omega
theorem rdF_nn {N : Int} (h : 0 ≤ N) : 0 ≤ rdF N := by unfold rdF; omega
theorem rdF_mod {N : Int} : rdF N % 1361129467683753853853498429727072845819 = N % 1361129467683753853853498429727072845819 := by unfold rdF; omega
theorem rdF4 {N : Int} (hN : 0 ≤ N) (hl : N < 256 ^ 34) : rdF (rdF (rdF (rdF N))) < 1361129467683753853853498429727072845824 := by
  have p34 : (256 : Int) ^ 34 = 7588550360256754183279148073529370729071901715047420004889892225542594864082845696 := by decide
  rw [p34] at hl
  have h1 : rdF N < 44601490397061246283071436545296723011960832 := by unfold rdF; omega
  have h0 := rdF_nn hN
  generalize rdF N = A at h1 h0 ⊢
  have h2 : rdF A < 1361129467683753853853498429727073009664 := by unfold rdF; omega
  have h3 := rdF_nn h0
  generalize rdF A = B at h2 h3 ⊢
  have h4 : rdF B < 1361129467683753853853498429727072845824 := by unfold rdF; omega
  have h5 := rdF_nn h3
  generalize rdF B = C at h4 h5 ⊢
  unfold rdF; omega
theorem rdF_lt {N : Int} (hN : 0 ≤ N) (hl : N < 256 ^ 34) : rdF N < 256 ^ 34 := by
  have p34 : (256 : Int) ^ 34 = 7588550360256754183279148073529370729071901715047420004889892225542594864082845696 := by decide
  rw [p34] at hl ⊢
  unfold rdF; omega
def lsK (a b : List Int) : Nat → Bool
  | 0 => false
  | k + 1 => if a.getD k 0 = b.getD k 0 then lsK a b k else decide (a.getD k 0 < b.getD k 0)
theorem vI_take_lt {l : List Int} (h : ∀ x ∈ l, 0 ≤ x ∧ x < 256) : ∀ k, k ≤ l.length → 0 ≤ vI (l.take k) ∧ vI (l.take k) < 256 ^ k
  | 0, _ => by simp [vI]
  | k + 1, hk => by
    have ih := vI_take_lt h k (by omega)
    have hg := getD_mem' (P := fun x => 0 ≤ x ∧ x < 256) h (by decide) k
    rw [vI_take l k (by omega), Int.pow_succ]
    generalize (256 : Int) ^ k = M at *
    have h1 : 0 ≤ M * l.getD k 0 := Int.mul_nonneg (by omega) hg.1
    have h2 : M * l.getD k 0 ≤ M * 255 := Int.mul_le_mul_of_nonneg_left (by omega) (by omega)
    omega
theorem lsK_val {a b : List Int} (ha : ∀ x ∈ a, 0 ≤ x ∧ x < 256) (hb : ∀ x ∈ b, 0 ≤ x ∧ x < 256) : ∀ k, k ≤ a.length → k ≤ b.length → lsK a b k = decide (vI (a.take k) < vI (b.take k))
  | 0, _, _ => by simp [lsK, vI]
  | k + 1, h1, h2 => by
    have i1 := vI_take_lt ha k (by omega)
    have i2 := vI_take_lt hb k (by omega)
    rw [lsK, lsK_val ha hb k (by omega) (by omega), vI_take a k (by omega), vI_take b k (by omega)]
    generalize a.getD k 0 = x
    generalize b.getD k 0 = y
    generalize (256 : Int) ^ k = M at *
    split
    · rename_i e; subst e
      congr 1
      apply propext
      omega
    · rename_i e
      congr 1
      apply propext
      rcases Int.lt_trichotomy x y with hx | hx | hx
      · have : M * (x + 1) ≤ M * y := Int.mul_le_mul_of_nonneg_left (by omega) (by omega)
        rw [Int.mul_add] at this
        constructor <;> intro _ <;> omega
      · exact absurd hx e
      · have : M * (y + 1) ≤ M * x := Int.mul_le_mul_of_nonneg_left (by omega) (by omega)
        rw [Int.mul_add] at this
        constructor <;> intro _ <;> omega
def sbK (a p : List Int) : Nat → List Int
  | 0 => a
  | k + 1 => if (sbK a p k).getD k 0 - p.getD k 0 < 0 then ((sbK a p k).set k ((sbK a p k).getD k 0 - p.getD k 0 + 256)).set (k + 1) ((sbK a p k).getD (k + 1) 0 - 1) else (sbK a p k).set k ((sbK a p k).getD k 0 - p.getD k 0)
theorem sbK_len (a p : List Int) : ∀ k, (sbK a p k).length = a.length
  | 0 => rfl
  | k + 1 => by rw [sbK]; split <;> simp [sbK_len a p k]
theorem sbK_get (a p : List Int) : ∀ (k j : Nat), k < j → (sbK a p k).getD j 0 = a.getD j 0
  | 0, j, _ => rfl
  | k + 1, j, h => by
    rw [sbK]
    split
    · rw [getD_set_ne (by omega), getD_set_ne (by omega), sbK_get a p k j (by omega)]
    · rw [getD_set_ne (by omega), sbK_get a p k j (by omega)]
theorem sbK_at {a p : List Int} (ha : ∀ x ∈ a, 0 ≤ x ∧ x ≤ 255) : ∀ k, -1 ≤ (sbK a p k).getD k 0 ∧ (sbK a p k).getD k 0 ≤ 255
  | 0 => by have := dig_get ha (by omega) 0; rw [sbK]; omega
  | k + 1 => by
    have h1 := dig_get ha (by omega) (k + 1)
    rw [sbK]
    split
    · by_cases hk : k + 1 < a.length
      · rw [getD_set_eq (by rw [List.length_set, sbK_len]; exact hk), sbK_get a p k (k + 1) (by omega)]; omega
      · rw [List.getD_eq_getElem?_getD, List.getElem?_eq_none (by simp [sbK_len]; omega)]; decide
    · rw [getD_set_ne (by omega), sbK_get a p k (k + 1) (by omega)]; omega
theorem sbK_low {a p : List Int} (ha : ∀ x ∈ a, 0 ≤ x ∧ x ≤ 255) (hp : ∀ x ∈ p, 0 ≤ x ∧ x ≤ 255) : ∀ k, k ≤ a.length → ∀ j, j < k → 0 ≤ (sbK a p k).getD j 0 ∧ (sbK a p k).getD j 0 < 256
  | k + 1, hk, j, hj => by
    have h1 := sbK_at (p := p) ha k
    have h2 := dig_get hp (by omega) k
    rw [sbK]
    by_cases hjk : j = k
    · subst hjk
      split
      · rw [getD_set_ne (by omega), getD_set_eq (by rw [sbK_len]; omega)]; omega
      · rw [getD_set_eq (by rw [sbK_len]; omega)]; omega
    · have ih := sbK_low ha hp k (by omega) j (by omega)
      split
      · rw [getD_set_ne (by omega), getD_set_ne (by omega)]; exact ih
      · rw [getD_set_ne (by omega)]; exact ih
theorem sbK_val {a p : List Int} (hp : p.length = a.length) : ∀ k, k < a.length → vI (sbK a p k) = vI a - vI (p.take k)
  | 0, _ => by simp [sbK, vI]
  | k + 1, h => by
    have ih := sbK_val hp k (by omega)
    rw [sbK, vI_take p k (by omega)]
    split
    · rw [vI_set _ (by rw [List.length_set, sbK_len]; omega), vI_set _ (by rw [sbK_len]; omega), getD_set_ne (by omega), ih, Int.pow_succ]
      grind
    · rw [vI_set _ (by rw [sbK_len]; omega), ih]
      grind
theorem vI_split {l : List Int} {n : Nat} (hl : l.length = n + 1) (h : ∀ j, j < n → 0 ≤ l.getD j 0 ∧ l.getD j 0 < 256) : vI l < 256 ^ n * (l.getD n 0 + 1) := by
  have h1 := vI_take l n (by omega)
  rw [List.take_of_length_le (by omega)] at h1
  have h2 := vI_take_lt (l := l.take n) (fun x hx => by
    obtain ⟨j, hj⟩ := List.getElem?_of_mem hx
    have hjl := (List.getElem?_eq_some_iff.1 hj).1
    rw [List.length_take] at hjl
    have := h j (by omega)
    rw [List.getElem?_take] at hj
    split at hj
    · rw [List.getD_eq_getElem?_getD, hj] at this; exact this
    · cases hj) n (by rw [List.length_take]; omega)
  rw [List.take_take, Nat.min_self] at h2
  rw [h1, Int.mul_add]
  omega
theorem sbK_last {a p : List Int} (ha : a.length = 34) (hp : p.length = 34) (h1 : ∀ x ∈ a, 0 ≤ x ∧ x ≤ 255) (h2 : ∀ x ∈ p, 0 ≤ x ∧ x ≤ 255) (hle : vI p ≤ vI a) : 0 ≤ (sbK a p 33).getD 33 0 - p.getD 33 0 := by
  have hv := sbK_val (a := a) (p := p) (by omega) 33 (by omega)
  have hs := vI_split (l := sbK a p 33) (n := 33) (by rw [sbK_len]; exact ha) (sbK_low h1 h2 33 (by omega))
  have ht := vI_take p 33 (by omega)
  rw [List.take_of_length_le (by omega)] at ht
  have hm : (0 : Int) < 256 ^ 33 := Int.pow_pos (by decide)
  by_cases hc : 0 ≤ (sbK a p 33).getD 33 0 - p.getD 33 0
  · exact hc
  · generalize (sbK a p 33).getD 33 0 = x at hs hc ⊢
    generalize p.getD 33 0 = y at ht hc ⊢
    have : (256 : Int) ^ 33 * (x + 1) ≤ 256 ^ 33 * y := Int.mul_le_mul_of_nonneg_left (by omega) (Int.le_of_lt hm)
    omega
theorem sbK_out {a p : List Int} (ha : a.length = 34) (hp : p.length = 34) (h1 : ∀ x ∈ a, 0 ≤ x ∧ x ≤ 255) (h2 : ∀ x ∈ p, 0 ≤ x ∧ x ≤ 255) (hle : vI p ≤ vI a) : sbK a p 34 = putLow 34 (vI a - vI p) := by
  have hl := sbK_last ha hp h1 h2 hle
  have hv := sbK_val (a := a) (p := p) (by omega) 33 (by omega)
  have ht := vI_take p 33 (by omega)
  rw [List.take_of_length_le (by omega)] at ht
  have e : sbK a p 34 = (sbK a p 33).set 33 ((sbK a p 33).getD 33 0 - p.getD 33 0) := by
    show (if (sbK a p 33).getD 33 0 - p.getD 33 0 < 0 then _ else _) = _
    rw [if_neg (by omega)]
  have hval : vI (sbK a p 34) = vI a - vI p := by
    rw [e, vI_set _ (by rw [sbK_len]; omega), hv]
    grind
  have hby : Bytes (sbK a p 34) := fun x hx => by
    obtain ⟨j, hj⟩ := List.getElem?_of_mem hx
    have hjl := (List.getElem?_eq_some_iff.1 hj).1
    rw [sbK_len, ha] at hjl
    have := sbK_low h1 h2 34 (by omega) j hjl
    rw [List.getD_eq_getElem?_getD, hj] at this
    exact this
  have := putLow_vI hby
  rw [sbK_len, ha, hval] at this
  exact this.symm
end Go.Proofs.YtgeepceieckooaaGreatDoor
end

section
namespace Go.Proofs.YtgeepceieckooaaGreatDoor
open Go Go.Ck
set_option maxHeartbeats 1000000
abbrev vi (a : Int) : Value := .int .i64 a
def upI (l : List Int) : List Value := l.map vi
theorem upI_len (l : List Int) : (upI l).length = l.length := by simp [upI]
theorem upI_at {l : List Int} {k : Nat} {x : Int} (h : l[k]? = some x) : (upI l)[k]? = some (vi x) := by
  unfold upI
  rw [List.getElem?_map, h]
  rfl
theorem cell_wi {h : View} {L : List Res} {b k : Nat} {l : List Int} {x : Int} {i : Nat} (c : Cells h L ⟨b, 0, none⟩ (upI l)) (hk : l[k]? = some x) (hi : i = k) : CellAt h L b i (vi x) := by
  subst hi
  have := c.cell (upI_at hk)
  rwa [Nat.zero_add] at this
theorem spl_wi {l : List Int} {x : Int} {i o : Nat} (ho : o = i) (hi : i < l.length) : spl (upI l).toArray.toList o (vi x).cells.toList = upI (l.set i x) := by
  subst ho
  show spl (upI l) o [vi x] = _
  unfold spl upI
  rw [List.map_set, List.set_eq_take_append_cons_drop]
  simp [hi]
theorem fit_wi {l : List Int} {x : Int} {n i o : Nat} (hu : l.length = n) (ho : o = i) (hi : i < n) : o + (vi x).cells.size ≤ (upI l).toArray.size := by
  subst ho
  show o + 1 ≤ (upI l).toArray.size
  simp [upI_len, hu]
  omega
theorem w_szi {l : List Int} {n : Nat} (h : l.length = n) : (Value.agg (upI l).toArray).cells.size = n := by
  show (upI l).toArray.size = n
  simp [upI_len, h]
theorem w_fiti {l : List Int} {cs : Array Value} {n : Nat} (h : l.length = n) (hc : cs.size = n) : 0 + (Value.agg (upI l).toArray).cells.size ≤ cs.size := by rw [w_szi h, hc]; omega
theorem w_alli {l : List Int} {cs : List Value} {n : Nat} (h : l.length = n) (hc : cs.length = n) : (Value.agg (upI l).toArray).cells.toList.length = cs.length := by
  rw [hc]
  show (upI l).length = n
  rw [upI_len, h]
theorem w_onei (l : List Int) : (Value.agg (upI l).toArray).cells.toList.all Value.oneCell' = true := by
  show (upI l).all Value.oneCell' = true
  refine List.all_eq_true.2 fun x hx => ?_
  obtain ⟨a, _, rfl⟩ := List.mem_map.1 hx
  rfl
theorem getD_ati {l : List Int} {i : Nat} (h : i < l.length) : l[i]? = some (l.getD i 0) := by
  rw [List.getD_eq_getElem?_getD, List.getElem?_eq_getElem h]; rfl
theorem upI_szs {l : List Int} {n : Nat} (h : l.length = n) : (upI l).toArray.size = n := by simp [upI_len, h]
theorem rcarry_sp (a : List Int) (N B : Int) (ha : a.length = 34) (hd : ∀ x ∈ a, 0 ≤ x ∧ x ≤ B) (hB : 0 ≤ B ∧ B ≤ 1099511627776) (hv : vI a = N) (hN : N < 256 ^ 34) (h : View) (w : World) (s : St ⟨w, h, []⟩ h [] w) :
    Calls Tryz.prog 129 [.agg (upI a).toArray].toArray w fun e w' => e = .returned (.agg (upI (putLow 34 N)).toArray) ∧ St ⟨w, h, []⟩ h [] w' := by
  have ho := crK_out' ha hd hB.1 hv hN
  refine calls_enter Tryz.func129 rfl Tryz.ntmps129 rfl s ?_
  repeat' (first|refine zw320 ?_|(refine ta_ ?_;intro _)|(refine zk0 ?_ ?_<;>intro ht)|fail)
  rename_i bx br
  refine cx_perm (L' := [Res.blk br (.cells (upI zer34).toArray 184 (0, 0)), Res.blk bx (.cells (upI a).toArray 184 (0, 0))]) (.refl _) ?_
  refine cx_loop (X := Nat) (fun k => [(1, .pointer (some ⟨bx, 0, none⟩)), (2, .pointer (some ⟨br, 0, none⟩)), (3, vi (crK a k).2), (4, .int .i64 (k : Nat))]) (fun _ => h)
    (fun k => [Res.blk br (.cells (upI zer34).toArray 184 (0, 0)), Res.blk bx (.cells (upI (crK a k).1).toArray 184 (0, 0))]) (fun k => k ≤ 34) (fun k => 34 - k) 0 (Nat.zero_le _) ts_ (fun _ s => s) ?_
  intro k hk
  have hkl := crK_len a k
  by_cases hk5 : k < 34
  · have ek : crK a (k + 1) = ((crK a k).1.set k (((crK a k).1.getD k 0 + (crK a k).2) % 256), ((crK a k).1.getD k 0 + (crK a k).2) / 256) := rfl
    have hov := crK_over hd hB.1 k
    have hg : 0 ≤ (crK a k).1.getD k 0 ∧ (crK a k).1.getD k 0 ≤ B := by rw [crK_get a k k (Nat.le_refl _)]; exact dig_get hd hB.1 k
    generalize crK a k = R at hkl ek hov hg ⊢
    have hkl : R.1.length = 34 := by omega
    have c0 := getD_ati (l := R.1) (i := k) (by omega)
    have hr : (R.1.getD k 0 + R.2).tmod 256 = (R.1.getD k 0 + R.2) % 256 := Int.tmod_eq_emod_of_nonneg (by omega)
    have hq : IntKind.i64.wrap ((R.1.getD k 0 + R.2).tdiv 256) = (R.1.getD k 0 + R.2) / 256 := by
      rw [Int.tdiv_eq_ediv_of_nonneg (by omega)]
      exact wrap_i64 (by unfold I64; omega)
    repeat' (first|refine zw321 ?_|(refine ta_ ?_;intro _)|(refine zk0 ?_ ?_<;>intro ht)|fail)
    refine nx_round (k + 1) (by show k + 1 ≤ 34; omega) (by show 34 - (k + 1) < 34 - k; omega) ?_ (fun _ s => ?_)
    · rw [ek]; exact ts_
    · rw [ek]; exact s
  · have ek5 : k = 34 := by omega
    subst ek5
    rw [ho]
    have hl5 : (putLow 34 N).length = 34 := putLow_len _ _
    generalize putLow 34 N = p at hl5 ⊢
    repeat' (first|refine zw322 ?_|(refine ta_ ?_;intro _)|(refine zk0 ?_ ?_<;>intro ht)|fail)
    exact nx_ret1 rfl (rv_cells rfl (yaz 0 rfl) (by rw [← hl5]; exact upI_len p)) (fun w' s' => ⟨rfl, s'.nil⟩)
end Go.Proofs.YtgeepceieckooaaGreatDoor
end

section
namespace Go.Proofs.YtgeepceieckooaaGreatDoor
open Go Go.Ck
set_option maxHeartbeats 1000000
def prD : List Int := [251, 255, 255, 255, 255, 255, 255, 255, 255, 255, 255, 255, 255, 255, 255, 255, 3] ++ List.replicate 17 0
theorem prD_len : prD.length = 34 := rfl
theorem prD_val : vI prD = 1361129467683753853853498429727072845819 := by decide
theorem prD_dig : ∀ x ∈ prD, 0 ≤ x ∧ x ≤ 255 := by decide
def ffK (k : Nat) : List Int := List.replicate k 255 ++ List.replicate (34 - k) 0
theorem ffK_len {k : Nat} (h : k ≤ 34) : (ffK k).length = 34 := by simp [ffK]; omega
theorem ffK_set {k : Nat} (h : k < 34) : (ffK k).set k 255 = ffK (k + 1) := by
  have e : 34 - k = (34 - (k + 1)) + 1 := by omega
  unfold ffK
  rw [e, List.replicate_succ, List.set_append_right _ _ (by simp)]
  simp [List.replicate_succ']
theorem rprime_sp (h : View) (w : World) (s : St ⟨w, h, []⟩ h [] w) :
    Calls Tryz.prog 141 [].toArray w fun e w' => e = .returned (.agg (upI prD).toArray) ∧ St ⟨w, h, []⟩ h [] w' := by
  refine calls_enter Tryz.func141 rfl Tryz.ntmps141 rfl s ?_
  repeat' (first|refine tw_ ?_|(refine ta_ ?_;intro _)|(refine zk0 ?_ ?_<;>intro ht)|fail)
  rename_i br bp
  refine cx_loop (X := Nat) (fun k => [(0, .pointer (some ⟨br, 0, none⟩)), (1, .pointer (some ⟨bp, 0, none⟩)), (2, .int .i64 (k : Nat))]) (fun _ => h)
    (fun k => [Res.blk bp (.cells (upI (ffK k)).toArray 184 (0, 0)), Res.blk br (.cells (upI zer34).toArray 184 (0, 0))]) (fun k => k ≤ 16) (fun k => 16 - k) 0 (Nat.zero_le _) ts_ (fun _ s => s) ?_
  intro k hk
  by_cases hk16 : k < 16
  · have e1 := ffK_set (k := k) (by omega)
    have hl := ffK_len (k := k) (by omega)
    repeat' (first|refine zw323 ?_|(refine ta_ ?_;intro _)|(refine zk0 ?_ ?_<;>intro ht)|fail)
    refine nx_round (k + 1) (by show k + 1 ≤ 16; omega) (by show 16 - (k + 1) < 16 - k; omega) ts_ (fun _ s => s)
  · have ek : k = 16 := by omega
    subst ek
    repeat' (first|refine zw3 ?_|(refine ta_ ?_;intro _)|(refine zk0 ?_ ?_<;>intro ht)|fail)
    exact nx_ret1 rfl (rv_cells rfl (yaz 1 rfl) rfl) (fun w' s' => ⟨rfl, s'.nil⟩)
theorem rless_sp (a b : List Int) (ha : a.length = 34) (hb : b.length = 34) (h : View) (w : World) (s : St ⟨w, h, []⟩ h [] w) :
    Calls Tryz.prog 142 [.agg (upI a).toArray, .agg (upI b).toArray].toArray w fun e w' => e = .returned (.bool (lsK a b 34)) ∧ St ⟨w, h, []⟩ h [] w' := by
  refine calls_enter Tryz.func142 rfl Tryz.ntmps142 rfl s ?_
  repeat' (first|refine zw324 ?_|(refine ta_ ?_;intro _)|(refine zk0 ?_ ?_<;>intro ht)|fail)
  rename_i ba bb
  refine cx_loop (X := Nat) (fun k => [(2, .pointer (some ⟨ba, 0, none⟩)), (3, .pointer (some ⟨bb, 0, none⟩)), (5, .int .i64 ((k : Nat) - 1 : Int))]) (fun _ => h)
    (fun k => [Res.blk bb (.cells (upI b).toArray 184 (0, 0)), Res.blk ba (.cells (upI a).toArray 184 (0, 0))]) (fun k => k ≤ 34 ∧ lsK a b 34 = lsK a b k) (fun k => k) 34 ⟨Nat.le_refl _, rfl⟩ ts_ (fun _ s => s) ?_
  rintro k ⟨hk, he⟩
  rw [he]
  cases k with
  | zero =>
    repeat' (first|refine zw3 ?_|(refine ta_ ?_;intro _)|(refine zk0 ?_ ?_<;>intro ht)|fail)
    exact nx_ret1 rfl (rv_tmp rfl) (fun w' s' => ⟨rfl, s'.nil⟩)
  | succ j =>
    have ej : ((j + 1 : Nat) : Int) - 1 = (j : Int) := by omega
    rw [ej]
    have ca := getD_ati (l := a) (i := j) (by omega)
    have cb := getD_ati (l := b) (i := j) (by omega)
    have el : lsK a b (j + 1) = if a.getD j 0 = b.getD j 0 then lsK a b j else decide (a.getD j 0 < b.getD j 0) := rfl
    generalize a.getD j 0 = x at ca el
    generalize b.getD j 0 = y at cb el
    by_cases hxy : x = y
    · rw [if_pos hxy] at el
      repeat' (first|refine zw325 ?_|(refine ta_ ?_;intro _)|(refine zk0 ?_ ?_<;>intro ht)|fail)
      refine cx_region_draw' rfl (by kernel_rfl) ?_
      repeat' (first|refine zw326 ?_|(refine ycf ?_;(first|(refine zg0 ?_ ?_<;>intro ht)|(refine tb_ ?_ ?_ ?_;(·(exact to_));(·intro _;(exact to_));intro _)))|fail)
      repeat' (first|refine zw3 ?_|(refine ta_ ?_;intro _)|(refine zk0 ?_ ?_<;>intro ht)|fail)
      refine nx_round j ⟨by omega, el⟩ (by show j < j + 1; omega) ts_ (fun _ s => s)
    · rw [if_neg hxy] at el
      rw [el]
      repeat' (first|refine zw325 ?_|(refine ta_ ?_;intro _)|(refine zk0 ?_ ?_<;>intro ht)|fail)
      refine cx_region_draw' rfl (by kernel_rfl) ?_
      repeat' (first|refine zw326 ?_|(refine ycf ?_;(first|(refine zg0 ?_ ?_<;>intro ht)|(refine tb_ ?_ ?_ ?_;(·(exact to_));(·intro _;(exact to_));intro _)))|fail)
      repeat' (first|refine zw325 ?_|(refine ta_ ?_;intro _)|(refine zk0 ?_ ?_<;>intro ht)|fail)
      refine cx_region_draw' rfl (by kernel_rfl) ?_
      repeat' (first|refine zw327 ?_|(refine ycf ?_;(first|(refine zg0 ?_ ?_<;>intro ht)|(refine tb_ ?_ ?_ ?_;(·(exact to_));(·intro _;(exact to_));intro _)))|fail)
      repeat' (first|refine tw_ ?_|(refine ta_ ?_;intro _)|(refine zk0 ?_ ?_<;>intro ht)|fail)
      exact nx_ret1 rfl (rv_tmp rfl) (fun w' s' => ⟨rfl, s'.nil⟩)
end Go.Proofs.YtgeepceieckooaaGreatDoor
end
