/-
  The statement SiblingOrdersSaid is proved: the law SiblingOrders returns true for every input, and its arguments read as they did.
  Conditions: none.
-/
import Derived.Deep.Slices
import Derived.Carry
import Derived.DataReads
import Derived.DataShut
import Derived.Test.YtkkjppeaaicgaaaRows
import Derived.WalkKit
import Derived.ProofKit
import Derived.OpenShut
import Derived.Test.YtkkjppeaaicgaaaHsEPM22
section
namespace Go.Ck
open Go Go.ChangeShapes
set_option linter.unusedVariables false
section
variable {H : Type} {enc : TypeId × Value → H} {P : Program} {w : World} {base : Nat} {spare : Nat → Bool} {held : Bool}

theorem trod_fields {t : TypeId} {fs : Array Field} {fuel : Nat} {cs : List Value} {x : DataW H × List MemPlace} (ht : P.underlying t = some (.struct fs)) (h : DataW.trod enc P w base spare held fuel t cs = some x) :
    cs.length = P.cellsOf t ∧ ∀ f ∈ fs.toList, ∃ m y, DataW.trod enc P w base spare held m f.type ((cs.drop f.offset).take (P.cellsOf f.type)) = some y := by
  cases fuel with
  | zero => simp [DataW.trod] at h
  | succ n =>
    unfold DataW.trod at h
    simp only [ht] at h
    split at h
    · rename_i hl
      obtain ⟨xs, hxs, _⟩ := Option.map_eq_some_iff.1 h
      refine ⟨hl, fun f hf => ?_⟩
      obtain ⟨i, hi, rfl⟩ := List.getElem_of_mem hf
      have := mapM_some_get hxs i _ (List.getElem?_eq_getElem hi)
      have hlen := mapM_some_length hxs
      rw [List.getElem?_eq_getElem (by omega)] at this
      exact ⟨n, _, this⟩
    · cases h

theorem trod_elems {t e : TypeId} {k fuel : Nat} {cs : List Value} {x : DataW H × List MemPlace} (ht : P.underlying t = some (.array k e)) (h : DataW.trod enc P w base spare held fuel t cs = some x) :
    cs.length = P.cellsOf t ∧ ∀ i, i < k → ∃ m y, DataW.trod enc P w base spare held m e ((cs.drop (i * P.cellsOf e)).take (P.cellsOf e)) = some y := by
  cases fuel with
  | zero => simp [DataW.trod] at h
  | succ n =>
    unfold DataW.trod at h
    simp only [ht] at h
    split at h
    · rename_i hl
      obtain ⟨xs, hxs, _⟩ := Option.map_eq_some_iff.1 h
      refine ⟨hl, fun i hi => ?_⟩
      have := mapM_some_get hxs i i (by simp [hi])
      have hlen := mapM_some_length hxs
      rw [List.getElem?_eq_getElem (by simp at hlen; omega)] at this
      exact ⟨n, _, this⟩
    · cases h
end
end Go.Ck
end

section
namespace Go.Ck
open Go Go.ChangeShapes
set_option linter.unusedVariables false
set_option maxHeartbeats 1000000
section
variable {H : Type} {enc : TypeId × Value → H} {P : Program} {w : World} {base : Nat} {spare : Nat → Bool} {held : Bool}

theorem cells_get' {a : Addr} {n : Nat} {cs : List Value} (h : w.cells? base a n = some cs) {j : Nat} {u : Value} (hj : cs[j]? = some u) : w.cell? (a.add j) = some u := by
  unfold World.cells? at h
  split at h
  · have hl := mapM_some_length h
    have hjl : j < cs.length := (List.getElem?_eq_some_iff.1 hj).1
    have := mapM_some_get h j j (by rw [List.length_range] at hl; exact List.getElem?_range (by omega))
    rw [this, hj]
  · cases h

theorem trod_slice_of {T e k : Nat} {α : Type} {en : α → List Value} {R : α → Prop} (tu : P.underlying T = some (.slice e)) (hc : P.cellsOf e = k) (hk0 : 0 < k) (hlen : ∀ x, (en x).length = k)
    (hel : ∀ (m : Nat) (cs : List Value) (y : DataW H × List MemPlace), DataW.trod enc P w base spare held m e cs = some y → ∃ x : α, R x ∧ cs = en x)
    {m : Nat} {cs : List Value} {y : DataW H × List MemPlace} (h : DataW.trod enc P w base spare held m T cs = some y) :
    ∃ (v : Value) (l : List α), cs = [v] ∧ Sc (fun b => w.heap[b]?) k v l.length (l.flatMap en) ∧ l.length ≤ maxLen ∧ ∀ x ∈ l, R x := by
  subst hc
  rcases Go.Deep.open_slice tu h with ⟨rfl, _⟩ | ⟨a, len, cap, q, n, D, Pl, rfl, _, h1, h2, hk, _, hall⟩
  · exact ⟨_, [], rfl, Sc.nil _ _ none 0, Nat.zero_le _, fun x hx => by cases hx⟩
  · have hkl : len ≤ q := by rw [hk]; split <;> omega
    have hex : ∀ i, i < len → ∃ d : α, R d ∧ w.cells? base (a.add (i * P.cellsOf e)) (P.cellsOf e) = some (en d) := fun i hi => by
      obtain ⟨cs', e1, e2⟩ := hall i (by omega)
      obtain ⟨d, hr, rfl⟩ := hel _ _ _ e2
      exact ⟨d, hr, e1⟩
    generalize P.cellsOf e = k at hex hk0 hlen ⊢
    by_cases h0 : len = 0
    · subst h0
      exact ⟨_, [], rfl, ⟨by simp, some a, cap, rfl, Nat.zero_le _, .inl rfl⟩, Nat.zero_le _, fun x hx => by cases hx⟩
    obtain ⟨d0, _⟩ := hex 0 (by omega)
    obtain ⟨f, hf'⟩ : ∃ f : Nat → α, ∀ i, i < len → R (f i) ∧ w.cells? base (a.add (i * k)) k = some (en (f i)) := by
      classical
      exact ⟨fun i => if hi : i < len then (hex i hi).choose else d0, fun i hi => by
        dsimp only
        rw [dif_pos hi]
        exact (hex i hi).choose_spec⟩
    have hf := fun i hi => (hf' i hi).2
    refine ⟨_, (List.range len).map f, rfl, ⟨?_, some a, cap, by simp, by simpa using h1, ?_⟩, by simp; omega, fun x hx => ?_⟩
    · rw [flat_len hlen]
    · refine .inr ?_
      have hc00 : 0 < (en (f 0)).length := by rw [hlen]; exact hk0
      have hc0 := cells_get' (hf 0 (by omega)) (j := 0) (List.getElem?_eq_getElem hc00)
      obtain ⟨b, o, sp⟩ := a
      have hadd : ∀ i j, ((⟨b, o, sp⟩ : Addr).add i).add j = (⟨b, o, sp⟩ : Addr).add (i + j) := fun i j => Go.Deep.add_add _ i j
      rw [hadd] at hc0
      have hblk : ((⟨b, o, sp⟩ : Addr).add (0 * k + 0)) = ⟨b, o, sp⟩ := by simp [Addr.add]
      rw [hblk] at hc0
      unfold World.cell? at hc0
      split at hc0
      · rename_i c e fz hb
        split at hc0
        · cases hc0
        · rename_i hsp
          have hsp' : sp = none := by simpa using hsp
          subst hsp'
          refine ⟨b, o, c, e, fz, rfl, hb, fun j u hj => ?_⟩
          have hjl : j < len * k := by
            have := (List.getElem?_eq_some_iff.1 hj).1
            rw [flat_len hlen] at this
            simpa using this
          have hjk : j / k < len := Nat.div_lt_of_lt_mul (by rw [Nat.mul_comm]; exact hjl)
          have hd : j / k < ((List.range len).map f).length := by simpa using hjk
          have e1 : (((List.range len).map f).flatMap en)[j]? = (en (f (j / k)))[j % k]? := by
            have := flat_at hlen ((List.range len).map f) (j / k) hd
            have e3 : ((List.range len).map f)[j / k] = f (j / k) := by simp
            rw [e3] at this
            rw [← this, List.getElem?_take_of_lt (Nat.mod_lt _ hk0), List.getElem?_drop]
            congr 1
            rw [Nat.mul_comm]
            exact (Nat.div_add_mod j k).symm
          rw [e1] at hj
          have := cells_get' (hf (j / k) hjk) hj
          rw [hadd, Addr.add_off] at this
          unfold World.cell? at this
          simp only [hb] at this
          simp only [Option.isSome_none, Bool.false_eq_true, if_false] at this
          have ej : j / k * k + j % k = j := by rw [Nat.mul_comm]; exact Nat.div_add_mod j k
          rw [ej] at this
          exact this
      · cases hc0
    · obtain ⟨i, hi, rfl⟩ := List.mem_map.1 hx
      exact (hf' i (by simpa using hi)).1
end
end Go.Ck
end

section
namespace Go.Proofs.Ytkkjppeaaicgaaa
open Go Go.Ck Go.ChangeShapes
set_option maxRecDepth 100000
set_option maxHeartbeats 1000000
set_option linter.unusedVariables false

theorem cellsDot : Try.prog.cellsOf 39 = 2 := by kernel_rfl
theorem cellsInt : Try.prog.cellsOf 3 = 1 := by kernel_rfl
theorem cellsArr : Try.prog.cellsOf 30 = 16 := by kernel_rfl
theorem cellsSl : Try.prog.cellsOf 31 = 1 := by kernel_rfl
theorem cellsCx : Try.prog.cellsOf 69 = 17 := by kernel_rfl
section
variable {H : Type} {enc : TypeId × Value → H} {w : World} {base : Nat} {spare : Nat → Bool} {held : Bool}

theorem trod_dot {m : Nat} {cs : List Value} {y : DataW H × List MemPlace} (h : DataW.trod enc Try.prog w base spare held m 39 cs = some y) : ∃ d : Dt, cs = dcs d := by
  obtain ⟨hl, hf⟩ := trod_fields Try.underlying39 h
  rw [cellsDot] at hl
  match cs, hl with
  | [a, b], _ =>
    obtain ⟨m1, y1, h1⟩ := hf _ (List.mem_cons_self ..)
    obtain ⟨m2, y2, h2⟩ := hf _ (List.mem_cons_of_mem _ (List.mem_cons_self ..))
    rw [cellsInt] at h1 h2
    obtain ⟨n1, e1, _⟩ := DataW.trod_int Try.underlying3 h1
    obtain ⟨n2, e2, _⟩ := DataW.trod_int Try.underlying3 h2
    simp at e1 e2
    exact ⟨(n1, n2), by rw [e1, e2]; rfl⟩

theorem trod_up {m : Nat} {cs : List Value} {y : DataW H × List MemPlace} (h : DataW.trod enc Try.prog w base spare held m 30 cs = some y) : ∃ u : List Int, u.length = 16 ∧ cs = up u := by
  obtain ⟨hl, hf⟩ := trod_elems Try.underlying30 h
  rw [cellsArr] at hl
  have hc : ∀ i (hi : i < cs.length), ∃ n, cs[i] = .int .i64 n := fun i hi => by
    obtain ⟨m1, y1, h1⟩ := hf i (by omega)
    rw [cellsInt, Nat.mul_one] at h1
    obtain ⟨n1, e1, _⟩ := DataW.trod_int Try.underlying3 h1
    have e2 : (List.drop i cs).take 1 = [cs[i]] := by
      rw [List.drop_eq_getElem_cons hi]; rfl
    rw [e2] at e1
    exact ⟨n1, by simpa using e1⟩
  clear hf h
  have key : ∀ cs : List Value, (∀ i (hi : i < cs.length), ∃ n, cs[i] = .int .i64 n) → ∃ u : List Int, u.length = cs.length ∧ cs = up u := by
    intro cs
    induction cs with
    | nil => intro _; exact ⟨[], rfl, rfl⟩
    | cons c cs ih =>
      intro hc
      obtain ⟨n, hn⟩ := hc 0 (by simp)
      obtain ⟨u, h1, h2⟩ := ih fun i hi => by
        have := hc (i + 1) (by simpa using hi)
        simpa using this
      simp only [List.getElem_cons_zero] at hn
      exact ⟨n :: u, by simp [h1], by rw [hn, h2]; rfl⟩
  obtain ⟨u, h1, h2⟩ := key cs hc
  exact ⟨u, by omega, h2⟩

theorem cells_get {a : Addr} {n : Nat} {cs : List Value} (h : w.cells? base a n = some cs) {j : Nat} {u : Value} (hj : cs[j]? = some u) : w.cell? (a.add j) = some u := by
  unfold World.cells? at h
  split at h
  · have hl := mapM_some_length h
    have hjl : j < cs.length := (List.getElem?_eq_some_iff.1 hj).1
    have := mapM_some_get h j j (by rw [List.length_range] at hl; exact List.getElem?_range (by omega))
    rw [this, hj]
  · cases h

theorem trod_ds {m : Nat} {cs : List Value} {y : DataW H × List MemPlace} (h : DataW.trod enc Try.prog w base spare held m 31 cs = some y) : ∃ (v : Value) (l : List Dt), cs = [v] ∧ Ds (fun b => w.heap[b]?) v l ∧ l.length ≤ maxLen := by
  rcases Go.Deep.open_slice Try.underlying31 h with ⟨rfl, _⟩ | ⟨a, len, cap, k, n, D, Pl, rfl, _, h1, h2, hk, _, hall⟩
  · exact ⟨_, [], rfl, Sc.nil _ 2 none 0, Nat.zero_le _⟩
  · have hkl : len ≤ k := by rw [hk]; split <;> omega
    have hex : ∀ i, i < len → ∃ d : Dt, w.cells? base (a.add (i * 2)) 2 = some (dcs d) := fun i hi => by
      obtain ⟨cs', e1, e2⟩ := hall i (by omega)
      rw [cellsDot] at e1
      obtain ⟨d, rfl⟩ := trod_dot e2
      exact ⟨d, e1⟩
    obtain ⟨f, hf⟩ := Go.Deep.choose_lt hex
    refine ⟨_, (List.range len).map f, rfl, ⟨?_, some a, cap, by simp, by simpa using h1, ?_⟩, by simp; omega⟩
    · rw [flat_len dcs_len]
    · by_cases h0 : len = 0
      · subst h0; exact .inl rfl
      · refine .inr ?_
        have hc0 := cells_get (hf 0 (by omega)) (j := 0) (u := .int .i64 (f 0).1) rfl
        obtain ⟨b, o, sp⟩ := a
        have hadd : ∀ i j, ((⟨b, o, sp⟩ : Addr).add i).add j = (⟨b, o, sp⟩ : Addr).add (i + j) := fun i j => Go.Deep.add_add _ i j
        rw [hadd] at hc0
        have hblk : ((⟨b, o, sp⟩ : Addr).add (0 * 2 + 0)) = ⟨b, o, sp⟩ := by simp [Addr.add]
        rw [hblk] at hc0
        unfold World.cell? at hc0
        split at hc0
        · rename_i c e fz hb
          split at hc0
          · cases hc0
          · rename_i hsp
            have hsp' : sp = none := by simpa using hsp
            subst hsp'
            refine ⟨b, o, c, e, fz, rfl, hb, fun j u hj => ?_⟩
            have hjl : j < len * 2 := by
              have := (List.getElem?_eq_some_iff.1 hj).1
              rw [flat_len dcs_len] at this
              simpa using this
            have hd : j / 2 < ((List.range len).map f).length := by simp; omega
            have e1 : (((List.range len).map f).flatMap dcs)[j]? = (dcs (f (j / 2)))[j % 2]? := by
              have := flat_at dcs_len ((List.range len).map f) (j / 2) hd
              have e3 : ((List.range len).map f)[j / 2] = f (j / 2) := by simp
              rw [e3] at this
              rw [← this, List.getElem?_take_of_lt (by omega), List.getElem?_drop]
              congr 1; omega
            rw [e1] at hj
            have := cells_get (hf (j / 2) (by omega)) hj
            rw [hadd, Addr.add_off] at this
            unfold World.cell? at this
            simp only [hb] at this
            simp only [Option.isSome_none, Bool.false_eq_true, if_false] at this
            have ej : j / 2 * 2 + j % 2 = j := by omega
            rw [ej] at this
            exact this
        · cases hc0

theorem trod_cx {v : Value} {d : DataW H} {ps : List MemPlace} (hv : ∃ cs, v = .agg cs) (h : DataW.Trod enc Try.prog w base spare held 69 v d ps) : ∃ (u : List Int) (l : List Dt), Cx (fun b => w.heap[b]?) v u l ∧ l.length ≤ maxLen := by
  obtain ⟨cs, rfl⟩ := hv
  obtain ⟨fuel, h⟩ := h
  obtain ⟨hl, hf⟩ := trod_fields Try.underlying69 h
  rw [cellsCx] at hl
  obtain ⟨m1, y1, h1⟩ := hf _ (List.mem_cons_self ..)
  obtain ⟨m2, y2, h2⟩ := hf _ (List.mem_cons_of_mem _ (List.mem_cons_self ..))
  rw [cellsArr] at h1
  rw [cellsSl] at h2
  obtain ⟨u, hu, e1⟩ := trod_up h1
  obtain ⟨mv, l, e2, hs, hlm⟩ := trod_ds h2
  refine ⟨u, l, ⟨hu, mv, ?_, hs⟩, hlm⟩
  have hc : (Value.agg cs).cells.toList = cxc u mv := by
    have e3 : (Value.agg cs).cells.toList = ((Value.agg cs).cells.toList.drop 0).take 16 ++ ((Value.agg cs).cells.toList.drop 16).take 1 := by
      rw [List.drop_zero]
      have e4 : ((Value.agg cs).cells.toList.drop 16).take 1 = (Value.agg cs).cells.toList.drop 16 := List.take_of_length_le (by simp at hl ⊢; omega)
      rw [e4, List.take_append_drop]
    rw [e3, e1, e2]
    rfl
  have hc2 : cs.toList = cxc u mv := hc
  unfold cxv
  rw [← hc2]
end
end Go.Proofs.Ytkkjppeaaicgaaa
end

section
namespace Go.Proofs.Ytkkjppeaaicgaaa
open Go Go.Ck Go.ChangeShapes
set_option maxRecDepth 100000
set_option maxHeartbeats 1000000
set_option linter.unusedVariables false

theorem cellsByte : Try.prog.cellsOf 5 = 1 := by kernel_rfl
theorem bcs_flat (l : List Int) : l.flatMap (fun n => [Value.int .u8 n]) = bcs l := by
  induction l with
  | nil => rfl
  | cons x l ih => rw [List.flatMap_cons, ih]; rfl
theorem trod_bs {H : Type} {enc : TypeId × Value → H} {w : World} {base : Nat} {spare : Nat → Bool} {held : Bool} {m : Nat} {cs : List Value} {y : DataW H × List MemPlace} (h : DataW.trod enc Try.prog w base spare held m 23 cs = some y) :
    ∃ (v : Value) (l : List Int), cs = [v] ∧ Bs8 (fun b => w.heap[b]?) v l ∧ Bytes l ∧ l.length ≤ maxLen := by
  obtain ⟨v, l, h1, h2, h3, h4⟩ := trod_slice_of (en := fun n : Int => [Value.int .u8 n]) (R := fun n => 0 ≤ n ∧ n < 256) Try.underlying23 cellsByte (by decide) (fun _ => rfl) (fun m cs y hy => by
    obtain ⟨n, e1, _, e3⟩ := DataW.trod_int Try.underlying5 hy
    obtain ⟨q1, q2⟩ := (Lit.wf_int_iff .u8 n).1 e3
    have m1 : IntKind.u8.min = 0 := by decide
    have m2 : IntKind.u8.max = 255 := by decide
    exact ⟨n, ⟨by omega, by omega⟩, e1⟩) h
  rw [bcs_flat] at h2
  exact ⟨v, l, h1, h2, h4, h3⟩
end Go.Proofs.Ytkkjppeaaicgaaa
end

section
namespace Go.Proofs.Ytkkjppeaaicgaaa
open Go Go.Ck Go.ChangeShapes
set_option maxRecDepth 100000
set_option maxHeartbeats 1000000
set_option linter.unusedVariables false

theorem cellsStr : Try.prog.cellsOf 9 = 1 := by kernel_rfl
theorem cellsRs : Try.prog.cellsOf 71 = 20 := by kernel_rfl
section
variable {H : Type} {enc : TypeId × Value → H} {w : World} {base : Nat} {spare : Nat → Bool} {held : Bool}
theorem trod_cxc {m : Nat} {cs : List Value} {y : DataW H × List MemPlace} (h : DataW.trod enc Try.prog w base spare held m 69 cs = some y) : ∃ (u : List Int) (l : List Dt) (mv : Value), u.length = 16 ∧ cs = cxc u mv ∧ Ds (fun b => w.heap[b]?) mv l ∧ l.length ≤ maxLen := by
  obtain ⟨hl, hf⟩ := trod_fields Try.underlying69 h
  rw [cellsCx] at hl
  obtain ⟨m1, y1, h1⟩ := hf _ (List.mem_cons_self ..)
  obtain ⟨m2, y2, h2⟩ := hf _ (List.mem_cons_of_mem _ (List.mem_cons_self ..))
  rw [cellsArr] at h1
  rw [cellsSl] at h2
  obtain ⟨u, hu, e1⟩ := trod_up h1
  obtain ⟨mv, l, e2, hs, hlm⟩ := trod_ds h2
  refine ⟨u, l, mv, hu, ?_, hs, hlm⟩
  have e3 : cs = (cs.drop 0).take 16 ++ (cs.drop 16).take 1 := by
    rw [List.drop_zero]
    have e4 : (cs.drop 16).take 1 = cs.drop 16 := List.take_of_length_le (by simp; omega)
    rw [e4, List.take_append_drop]
  rw [e3, e1, e2]
  rfl
theorem bytes_of_string (s : ByteArray) : ∃ b : List Int, Bytes b ∧ bstr b = s ∧ b.length = s.size := by
  refine ⟨s.data.toList.map fun x => (x.toNat : Int), fun b hb => ?_, ?_, by simp⟩
  · obtain ⟨x, _, rfl⟩ := List.mem_map.1 hb
    have := x.toNat_lt
    constructor <;> omega
  · unfold bstr
    rw [List.map_map]
    have : ((fun n : Int => UInt8.ofNat n.toNat) ∘ fun x : UInt8 => (x.toNat : Int)) = id := by
      funext x
      simp
    rw [this, List.map_id]
theorem trod_rs1 {m : Nat} {cs : List Value} {y : DataW H × List MemPlace} (h : DataW.trod enc Try.prog w base spare held m 71 cs = some y) : ∃ x : Sb, (Rv (fun b => w.heap[b]?) x ∧ x.l.length ≤ maxLen ∧ x.b.length ≤ maxLen) ∧ cs = sbc x := by
  obtain ⟨hl, hf⟩ := trod_fields Try.underlying71 h
  rw [cellsRs] at hl
  obtain ⟨m1, y1, h1⟩ := hf _ (List.mem_cons_self ..)
  obtain ⟨m2, y2, h2⟩ := hf _ (List.mem_cons_of_mem _ (List.mem_cons_self ..))
  obtain ⟨m3, y3, h3⟩ := hf _ (List.mem_cons_of_mem _ (List.mem_cons_of_mem _ (List.mem_cons_self ..)))
  rw [cellsDot] at h1
  rw [cellsCx] at h2
  rw [cellsStr] at h3
  obtain ⟨d, e1⟩ := trod_dot h1
  obtain ⟨u, l, mv, hu, e2, hds, hll⟩ := trod_cxc h2
  obtain ⟨s, e3, _, hs⟩ := DataW.trod_string Try.underlying9 h3
  obtain ⟨b, hb, hbs, hbl⟩ := bytes_of_string s
  refine ⟨⟨d, u, hu, l, mv, b, .string s⟩, ⟨⟨hds, by rw [hbs], hb⟩, hll, by show b.length ≤ maxLen; rw [hbl]; exact hs⟩, ?_⟩
  have q : cs = (cs.drop 0).take 2 ++ ((cs.drop 2).take 17 ++ (cs.drop 19).take 1) := by
    rw [List.drop_zero]
    have e4 : (cs.drop 19).take 1 = cs.drop 19 := List.take_of_length_le (by simp; omega)
    have e5 : (cs.drop 2).take 17 ++ cs.drop 19 = cs.drop 2 := by
      have : cs.drop 19 = (cs.drop 2).drop 17 := by rw [List.drop_drop]
      rw [this, List.take_append_drop]
    rw [e4, e5, List.take_append_drop]
  rw [q]
  show _ = dcs d ++ (cxc u mv ++ [.string s])
  rw [← e3, ← e2, ← e1]
theorem trod_rs {m : Nat} {cs : List Value} {y : DataW H × List MemPlace} (h : DataW.trod enc Try.prog w base spare held m 22 cs = some y) :
    ∃ (v : Value) (l : List Sb), cs = [v] ∧ Rs (fun b => w.heap[b]?) v l ∧ l.length ≤ maxLen ∧ ∀ x ∈ l, x.l.length ≤ maxLen ∧ x.b.length ≤ maxLen := by
  obtain ⟨v, l, h1, h2, h3, h4⟩ := trod_slice_of (en := sbc) (R := fun x => Rv (fun b => w.heap[b]?) x ∧ x.l.length ≤ maxLen ∧ x.b.length ≤ maxLen) Try.underlying22 cellsRs (by decide) sbc_len (fun m cs y hy => trod_rs1 hy) h
  exact ⟨v, l, h1, ⟨h2, fun x hx => (h4 x hx).1⟩, h3, fun x hx => (h4 x hx).2⟩
end
end Go.Proofs.Ytkkjppeaaicgaaa
end

section
namespace Go.Proofs.Ytkkjppeaaicgaaa
open Go Go.Ck Go.ChangeShapes
set_option maxRecDepth 100000
set_option maxHeartbeats 1000000
set_option linter.unusedVariables false

theorem cellsBool : Try.prog.cellsOf 4 = 1 := by kernel_rfl
theorem cellsTn : Try.prog.cellsOf 99 = 5 := by kernel_rfl
section
variable {H : Type} {enc : TypeId × Value → H} {w : World} {base : Nat} {spare : Nat → Bool} {held : Bool}
theorem trod_tn1 {m : Nat} {cs : List Value} {y : DataW H × List MemPlace} (h : DataW.trod enc Try.prog w base spare held m 99 cs = some y) : ∃ x : Tn, True ∧ cs = tnc x := by
  obtain ⟨hl, hf⟩ := trod_fields Try.underlying99 h
  rw [cellsTn] at hl
  obtain ⟨m1, y1, h1⟩ := hf _ (List.mem_cons_self ..)
  obtain ⟨m2, y2, h2⟩ := hf _ (List.mem_cons_of_mem _ (List.mem_cons_self ..))
  obtain ⟨m3, y3, h3⟩ := hf _ (List.mem_cons_of_mem _ (List.mem_cons_of_mem _ (List.mem_cons_self ..)))
  obtain ⟨m4, y4, h4⟩ := hf _ (List.mem_cons_of_mem _ (List.mem_cons_of_mem _ (List.mem_cons_of_mem _ (List.mem_cons_self ..))))
  obtain ⟨m5, y5, h5⟩ := hf _ (List.mem_cons_of_mem _ (List.mem_cons_of_mem _ (List.mem_cons_of_mem _ (List.mem_cons_of_mem _ (List.mem_cons_self ..)))))
  rw [cellsBool] at h1 h5
  rw [cellsInt] at h2 h3 h4
  obtain ⟨b1, e1, _⟩ := DataW.trod_bool Try.underlying4 h1
  obtain ⟨n2, e2, _⟩ := DataW.trod_int Try.underlying3 h2
  obtain ⟨n3, e3, _⟩ := DataW.trod_int Try.underlying3 h3
  obtain ⟨n4, e4, _⟩ := DataW.trod_int Try.underlying3 h4
  obtain ⟨b5, e5, _⟩ := DataW.trod_bool Try.underlying4 h5
  match cs, hl with
  | [a, b, c, d, e], _ =>
    simp at e1 e2 e3 e4 e5
    exact ⟨⟨b1, n2, n3, n4, b5⟩, trivial, by rw [e1, e2, e3, e4, e5]; rfl⟩
theorem trod_tn {m : Nat} {cs : List Value} {y : DataW H × List MemPlace} (h : DataW.trod enc Try.prog w base spare held m 64 cs = some y) :
    ∃ (v : Value) (l : List Tn), cs = [v] ∧ Sc (fun b => w.heap[b]?) 5 v l.length (l.flatMap tnc) ∧ l.length ≤ maxLen := by
  obtain ⟨v, l, h1, h2, h3, h4⟩ := trod_slice_of (en := tnc) (R := fun _ => True) Try.underlying64 cellsTn (by decide) tnc_len (fun m cs y hy => trod_tn1 hy) h
  exact ⟨v, l, h1, h2, h3⟩
theorem up_flat (l : List Int) : l.flatMap (fun n => [Value.int .i64 n]) = up l := by
  induction l with
  | nil => rfl
  | cons a l ih => rw [List.flatMap_cons, ih]; rfl
theorem trod_is {m : Nat} {cs : List Value} {y : DataW H × List MemPlace} (h : DataW.trod enc Try.prog w base spare held m 54 cs = some y) :
    ∃ (v : Value) (l : List Int), cs = [v] ∧ Sc (fun b => w.heap[b]?) 1 v l.length (up l) ∧ l.length ≤ maxLen := by
  obtain ⟨v, l, h1, h2, h3, h4⟩ := trod_slice_of (en := fun n : Int => [Value.int .i64 n]) (R := fun _ => True) Try.underlying54 cellsInt (by decide) (fun _ => rfl) (fun m cs y hy => by
    obtain ⟨n, e, _⟩ := DataW.trod_int Try.underlying3 hy
    exact ⟨n, trivial, e⟩) h
  rw [up_flat] at h2
  exact ⟨v, l, h1, h2, h3⟩
end
end Go.Proofs.Ytkkjppeaaicgaaa
end

section
namespace Go.Proofs.Ytkkjppeaaicgaaa.siblingOrders
open Go Go.Ck Go.ChangeShapes Go.WideShapes Go.ChangeAt Go.RowKit
set_option maxRecDepth 100000
set_option maxHeartbeats 1000000
set_option linter.unusedVariables false

theorem laidOut : laidOutB Try.prog = true := by kernel_rfl
theorem own : ownKnob Try.prog.godebug = none := by kernel_rfl

theorem contract (H : Type) (enc : TypeId × Value → H) (W : World) (base : Nat) (args : Array Value) (ds gs : List (DataW H)) (before : List MemPlace)
    (hval : ∀ (j : Nat) t v, Try.f7.params[j]? = some t → args[j]? = some v → Value.okWide Try.prog W .any base t v)
    (hW : DataW.Whole enc Try.prog Try.f7.params.toList Rows.siblingOrdersSpec.vars false W args.toList ds gs before) :
    Calls Try.prog 7 args W fun e W' => ∃ v, e = .returned v ∧ Rows.siblingOrdersSpec.post enc Try.prog Try.f7 false true false false W args v W' := by
  have hW' := hW
  obtain ⟨p, q, hA0, hV, rfl, hfz, hnd⟩ := hW
  have hA : DataW.TrodAll enc Try.prog W 0 (fun _ => true) true Try.f7.params.toList args.toList ds p := hA0
  rw [Try.params7] at hA hval
  obtain ⟨v0, vs0, d0, ds0, p0, q0, hargs0, rfl, rfl, h0, r0⟩ := trodAll_cons hA
  obtain ⟨v1, vs1, d1, ds1, p1, q1, hargs1, rfl, rfl, h1, r1⟩ := trodAll_cons r0
  obtain ⟨rfl, rfl, rfl⟩ := trodAll_nil r1
  obtain rfl : args = #[v0, v1] := by cases args; simp_all
  obtain ⟨rfl, rfl⟩ := trodVars_none hV
  obtain ⟨a0, len0, cap0, rfl⟩ := okWide_slice Try.underlying64 (hval 0 64 v0 rfl rfl)
  obtain ⟨fu0, g0⟩ := id h0
  obtain ⟨sv0, l0, hsv0, hd0, hl0⟩ := trod_tn g0
  obtain rfl : Value.slice a0 len0 cap0 = sv0 := by
    have e : (Value.slice a0 len0 cap0).cells.toList = [Value.slice a0 len0 cap0] := rfl
    rw [e] at hsv0
    exact (List.cons.inj hsv0).1
  have hl0 : l0.length ≤ 9223372036854775807 := by unfold maxLen at hl0; omega
  obtain ⟨a1, len1, cap1, rfl⟩ := okWide_slice Try.underlying54 (hval 1 54 v1 rfl rfl)
  obtain ⟨fu1, g1⟩ := id h1
  obtain ⟨sv1, l1, hsv1, hd1, hl1⟩ := trod_is g1
  obtain rfl : Value.slice a1 len1 cap1 = sv1 := by
    have e : (Value.slice a1 len1 cap1).cells.toList = [Value.slice a1 len1 cap1] := rfl
    rw [e] at hsv1
    exact (List.cons.inj hsv1).1
  have hl1 : l1.length ≤ 9223372036854775807 := by unfold maxLen at hl1; omega
  have hst : St ⟨W, fun b => W.heap[b]?, []⟩ (fun b => W.heap[b]?) [] W := St.start (L := []) ⟨fun b o hb => hb, fun r hr => (by cases hr)⟩ (by simp [doms]) (fun b hb => (by simp [doms] at hb))
  refine (SiblingOrders_sp _ _ l0 l1 _ hd0 hd1 hl0 hl1 W hst).mono fun e W' ⟨h', he, s'⟩ => ?_
  subst he
  have hb : Below W.heap.size W W' := ⟨s'.os, s'.tape, s'.output, s'.size, fun k hk => s'.keep k hk (by simp)⟩
  simp only [List.append_nil] at hW'
  have hlt0 : ∀ x ∈ p0, x.block < W.heap.size := fun x hx => by simpa using hW'.lt x (by simp [hx])
  have hlt1 : ∀ x ∈ p1, x.block < W.heap.size := fun x hx => by simpa using hW'.lt x (by simp [hx])
  exact ⟨_, rfl, _, _, _, [], p0 ++ p1, [], hW', trodAll_cons_mk (shut_bool Try.underlying4 _) trodAll_mk0,
    by
      have h := (trodAll_cons_mk (Below.trod laidOut (by kernel_rfl) (of_decide_eq_true (by kernel_rfl)) h0 hb hlt0) (trodAll_cons_mk (Below.trod laidOut (by kernel_rfl) (of_decide_eq_true (by kernel_rfl)) h1 hb hlt1) trodAll_mk0))
      simp only [List.append_nil] at h
      exact h,
    rfl, hb.frame _, fun h => by cases h⟩

set_option maxRecDepth 100000 in
theorem lifted (os : Os) (started : os.Started) (H : Type) (enc : TypeId × Value → H) :
    ReturnsInHanded {} Try.checked os 7 .any (Rows.siblingOrdersSpec.pre6 enc Try.prog Try.f7 Rows.siblingOrdersRow.domain false) (Rows.siblingOrdersSpec.post enc Try.prog Try.f7 false true false false) := by
  refine returnsInHanded_of_change (C := Try.checked) own started (by kernel_rfl) Try.func7
    (ChangeSpec.witness6 (enc := enc) (C := Try.checked) false ⟨#[], #[.slice none 0 0, .slice none 0 0], []⟩ 8 (by kernel_rfl) (by kernel_rfl) (by kernel_rfl) (by kernel_rfl)) ?_
  intro W base args ds gs before hval hW _ _
  exact contract H enc W base args ds gs before hval hW

theorem over : Rows.siblingOrdersRow.holds Try.pinned (OpenSpec.ofChange Rows.siblingOrdersSpec) :=
  OpenClaim.holds_of_wide 7 Try.f7 rfl rfl rfl rfl rfl rfl rfl ⟨rfl, rfl, rfl, rfl, rfl⟩ rfl rfl rfl rfl rfl (by kernel_rfl) Try.func7 (by kernel_rfl)
    (of_decide_eq_true (by kernel_rfl)) (by unfold Func.isWrapper; first | (rw [if_pos (by decide +kernel)]; kernel_rfl) | (rw [if_neg (by decide +kernel)]; exact ⟨rfl, rfl⟩))
    (fun os started H enc _ => lifted os started H enc)

theorem proved : Rows.SiblingOrdersSaid :=
  over
end Go.Proofs.Ytkkjppeaaicgaaa.siblingOrders
end
