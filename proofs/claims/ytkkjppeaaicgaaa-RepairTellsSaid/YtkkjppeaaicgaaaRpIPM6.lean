/-
  Part 6 of a proof: DotQ CkGrow DotT DotU DotW CkRow CkBool CkTb BitA BitB BitC CkClear BitD BitE BitF BitG BitH.
  Conditions: each theorem states its own.
-/
import Derived.Lib.AppendZerosOnto
import Derived.Laws.Small
import Derived.Laws.Pointers
import Derived.Lib.SliceRun
import Derived.Laws.BytesString
import Derived.Test.YtkkjppeaaicgaaaRpIPM5
section
namespace Go.Proofs.Ytkkjppeaaicgaaa
open Go Go.Ck Go.Shelf
set_option maxRecDepth 100000
set_option maxHeartbeats 1000000
set_option linter.unusedVariables false

theorem uD_set {u : List Int} {d e : Dt} {x : Int} (hu : u.length = 16) (hd : rightB d = true) (he : rightB e = true) : uD (u.set (d.1 - 1).toNat x) e = if e.1 = d.1 then x else uD u e := by
  have h1 := right_of hd
  have h2 := right_of he
  unfold uD
  by_cases h : e.1 = d.1
  · rw [if_pos h, h, List.getD_eq_getElem?_getD, List.getElem?_set_self (by omega)]
    rfl
  · rw [if_neg h, List.getD_eq_getElem?_getD, List.getElem?_set_ne (by omega), ← List.getD_eq_getElem?_getD]

theorem tstep_eq (u : List Int) (out : List Dt) (d : Dt) : tstep (u, out) d = if d.2 = uD u d + 1 then (u.set (d.1 - 1).toNat d.2, out) else if uD u d < d.2 ∧ d ∉ out then (u, out ++ [d]) else (u, out) := rfl
structure Inv (u : List Int) (out : List Dt) : Prop where
  len : u.length = 16
  bd : ∀ x ∈ u, 0 ≤ x ∧ x ≤ 1099511627776
  mor : ∀ e ∈ out, rightB e = true ∧ uD u e + 1 < e.2
  srt : out.Pairwise fun x y => ordD x y < 0

theorem ord_none {x y : Dt} (h1 : ¬ ordD x y < 0) (h2 : ¬ ordD y x < 0) : x = y := by
  rw [ord_iff] at h1 h2
  obtain ⟨a, b⟩ := x
  obtain ⟨c, d⟩ := y
  simp only at h1 h2
  have : a = c ∧ b = d := by omega
  rw [this.1, this.2]

theorem fold_inv : ∀ (rest : List Dt) (u : List Int) (out : List Dt), Inv u out → (∀ e ∈ out, ∀ x ∈ rest, ¬ ordD x e < 0) → SortedD rest → (∀ d ∈ rest, rightB d = true) →
    Inv (rest.foldl tstep (u, out)).1 (rest.foldl tstep (u, out)).2 ∧ ∀ x, rightB x = true → hasC (rest.foldl tstep (u, out)).1 (rest.foldl tstep (u, out)).2 x = (hasC u out x || decide (x ∈ rest)) := by
  intro rest
  induction rest with
  | nil => intro u out hi _ _ _; exact ⟨hi, fun x _ => by simp⟩
  | cons d rest ih =>
    intro u out hi hbef hsrt hr
    have hdr := hr d (by simp)
    have hd4 := right_of hdr
    have hs2 : SortedD rest := (List.pairwise_cons.1 hsrt).2
    have hs1 := (List.pairwise_cons.1 hsrt).1
    have hr2 : ∀ x ∈ rest, rightB x = true := fun x hx => hr x (List.mem_cons_of_mem _ hx)
    rw [List.foldl_cons]
    by_cases c1 : d.2 = uD u d + 1
    · have e1 : tstep (u, out) d = (u.set (d.1 - 1).toNat d.2, out) := by
        rw [tstep_eq, if_pos c1]
      rw [e1]
      have hnot : ∀ e ∈ out, e.1 ≠ d.1 := fun e he hc => by
        have h1 := hbef e he d (by simp)
        have h2 := (hi.mor e he).2
        rw [ord_iff] at h1
        have : uD u e = uD u d := by unfold uD; rw [hc]
        omega
      obtain ⟨g1, g2⟩ := ih (u.set (d.1 - 1).toNat d.2) out ⟨by simpa using hi.len, fun x hx => by
          rcases List.mem_or_eq_of_mem_set hx with hx | rfl
          · exact hi.bd x hx
          · omega, fun e he => ⟨(hi.mor e he).1, by
          rw [uD_set hi.len hdr (hi.mor e he).1, if_neg (hnot e he)]
          exact (hi.mor e he).2⟩, hi.srt⟩ (fun e he x hx => hbef e he x (List.mem_cons_of_mem _ hx)) hs2 hr2
      refine ⟨g1, fun x hx => ?_⟩
      rw [g2 x hx]
      have e2 : hasC (u.set (d.1 - 1).toNat d.2) out x = (hasC u out x || decide (x = d)) := by
        unfold hasC
        rw [uD_set hi.len hdr hx]
        by_cases hc : x.1 = d.1
        · rw [if_pos hc]
          have : uD u x = uD u d := by unfold uD; rw [hc]
          rw [this]
          have e3 : (x = d) ↔ x.2 = d.2 := ⟨fun h => by rw [h], fun h => Prod.ext hc h⟩
          have e4 : decide (x = d) = decide (x.2 = d.2) := by simp only [e3]
          rw [e4]
          have e5 : decide (x.2 ≤ d.2) = (decide (x.2 ≤ uD u d) || decide (x.2 = d.2)) := by
            rw [← Bool.decide_or, decide_eq_decide]; omega
          rw [e5]
          cases decide (x.2 ≤ uD u d) <;> cases decide (x.2 = d.2) <;> cases decide (x ∈ out) <;> rfl
        · rw [if_neg hc]
          have : decide (x = d) = false := decide_eq_false fun h => hc (by rw [h])
          rw [this, Bool.or_false]
      rw [e2]
      have e6 : decide (x ∈ d :: rest) = (decide (x = d) || decide (x ∈ rest)) := by
        rw [← Bool.decide_or, decide_eq_decide, List.mem_cons]
      rw [e6, Bool.or_assoc]
    · have e6 : ∀ x, decide (x ∈ d :: rest) = (decide (x = d) || decide (x ∈ rest)) := fun x => by
        rw [← Bool.decide_or, decide_eq_decide, List.mem_cons]
      by_cases c2 : uD u d < d.2 ∧ d ∉ out
      · have e1 : tstep (u, out) d = (u, out ++ [d]) := by
          rw [tstep_eq, if_neg c1, if_pos c2]
        rw [e1]
        obtain ⟨g1, g2⟩ := ih u (out ++ [d]) ⟨hi.len, hi.bd, fun e he => by
            rcases List.mem_append.1 he with he | he
            · exact hi.mor e he
            · rw [List.mem_singleton.1 he]
              exact ⟨hdr, by omega⟩, by
            refine List.pairwise_append.2 ⟨hi.srt, by simp, fun e he x hx => ?_⟩
            rw [List.mem_singleton.1 hx]
            have h1 := hbef e he d (by simp)
            refine Decidable.byContradiction fun h2 => c2.2 ?_
            rw [ord_none h1 h2]; exact he⟩ (fun e he x hx => by
            rcases List.mem_append.1 he with he | he
            · exact hbef e he x (List.mem_cons_of_mem _ hx)
            · rw [List.mem_singleton.1 he]
              exact hs1 x hx) hs2 hr2
        refine ⟨g1, fun x hx => ?_⟩
        rw [g2 x hx, e6]
        have e2 : hasC u (out ++ [d]) x = (hasC u out x || decide (x = d)) := by
          unfold hasC
          have : decide (x ∈ out ++ [d]) = (decide (x ∈ out) || decide (x = d)) := by
            rw [← Bool.decide_or, decide_eq_decide, List.mem_append, List.mem_singleton]
          rw [this, Bool.or_assoc]
        rw [e2, Bool.or_assoc]
      · have e1 : tstep (u, out) d = (u, out) := by
          rw [tstep_eq, if_neg c1, if_neg c2]
        rw [e1]
        obtain ⟨g1, g2⟩ := ih u out hi (fun e he x hx => hbef e he x (List.mem_cons_of_mem _ hx)) hs2 hr2
        refine ⟨g1, fun x hx => ?_⟩
        rw [g2 x hx, e6]
        have hd2 : hasC u out d = true := by
          unfold hasC
          rw [Bool.or_eq_true, decide_eq_true_iff, decide_eq_true_iff]
          by_cases h : d ∈ out
          · exact .inr h
          · refine .inl ?_
            have : ¬ uD u d < d.2 := fun h1 => c2 ⟨h1, h⟩
            omega
        by_cases hxd : x = d
        · rw [hxd, hd2]; rfl
        · rw [decide_eq_false hxd, Bool.false_or]

theorem check_inv {u : List Int} {l : List Dt} (hi : Inv u l) (hl : l.length ≤ 32) : checkC u l = 0 := by
  have h1 : upOk u = true := upOk_iff.2 hi.bd
  have h2 : moresOk u l = true := List.all_eq_true.2 fun i hi' => by
    have hil : i < l.length := List.mem_range.1 hi'
    have e1 : l.getD i (0, 0) = l[i] := by simp [hil]
    have e2 : i ≠ 0 → l.getD (i - 1) (0, 0) = l[i - 1] := fun h => by simp [show i - 1 < l.length by omega]
    unfold moreB
    simp only [Bool.and_eq_true, Bool.or_eq_true, decide_eq_true_iff]
    rw [e1]
    refine ⟨⟨(hi.mor _ (List.getElem_mem hil)).1, (hi.mor _ (List.getElem_mem hil)).2⟩, ?_⟩
    by_cases h0 : i = 0
    · exact .inl h0
    · right
      rw [e2 h0]
      exact List.pairwise_iff_getElem.1 hi.srt (i - 1) i (by omega) hil (by omega)
  unfold checkC
  rw [if_neg (by simp [h1]), if_neg (by omega), if_neg (by simp [h2])]

theorem inv_check {u : List Int} {l : List Dt} (hu : u.length = 16) (hk : checkC u l = 0) : Inv u l := by
  obtain ⟨h1, _, h3⟩ := check_right hk
  refine ⟨hu, h1, fun e he => ⟨h3 e he, ?_⟩, ?_⟩
  · obtain ⟨i, hi, rfl⟩ := List.getElem_of_mem he
    exact (more_at hk hi).1
  · refine List.pairwise_iff_getElem.2 fun i j hi hj hij => more_sorted hk j i hj hij

theorem up_le {u v : List Int} {l m : List Dt} (h1 : Inv u l) (h2 : Inv v m) (hs : ∀ x, rightB x = true → hasC v m x = true → hasC u l x = true) (i : Nat) (hi : i < 16) : v.getD i 0 ≤ u.getD i 0 := by
  refine Decidable.byContradiction fun hlt => ?_
  have b1 := h1.bd (u.getD i 0) (getD_mem (by have := h1.len; omega))
  have b2 := h2.bd (v.getD i 0) (getD_mem (by have := h2.len; omega))
  have hr : rightB ((i : Int) + 1, u.getD i 0 + 1) = true := by
    generalize u.getD i 0 = x at b1 hlt
    simp [rightB]; omega
  have eu : ∀ w : List Int, uD w ((i : Int) + 1, u.getD i 0 + 1) = w.getD i 0 := fun w => by
    unfold uD
    show w.getD ((i : Int) + 1 - 1).toNat 0 = _
    rw [show ((i : Int) + 1 - 1).toNat = i by omega]
  have e2 : hasC v m ((i : Int) + 1, u.getD i 0 + 1) = true := by
    unfold hasC
    rw [eu, decide_eq_true (by show u.getD i 0 + 1 ≤ _; omega)]; rfl
  have e1 := hs _ hr e2
  unfold hasC at e1
  rw [eu, decide_eq_false (by show ¬ u.getD i 0 + 1 ≤ _; omega), Bool.false_or, decide_eq_true_iff] at e1
  have := (h1.mor _ e1).2
  rw [eu] at this
  exact absurd this (by show ¬ u.getD i 0 + 1 < u.getD i 0 + 1; omega)

theorem ctx_uniq {u v : List Int} {l m : List Dt} (h1 : Inv u l) (h2 : Inv v m) (hs : ∀ x, rightB x = true → hasC u l x = hasC v m x) : u = v ∧ l = m := by
  have hu := h1.len
  have hv := h2.len
  have e : u = v := by
    refine List.ext_getElem (by omega) fun i hi hj => ?_
    have a1 := up_le h1 h2 (fun x hx hy => (hs x hx).trans hy) i (by omega)
    have a2 := up_le h2 h1 (fun x hx hy => (hs x hx).symm.trans hy) i (by omega)
    rw [List.getD_eq_getElem?_getD, List.getD_eq_getElem?_getD, List.getElem?_eq_getElem hi, List.getElem?_eq_getElem hj] at a1 a2
    simp only [Option.getD_some] at a1 a2
    omega
  subst e
  refine ⟨rfl, ?_⟩
  have hmem : ∀ {l m : List Dt}, Inv u l → Inv u m → (∀ x, rightB x = true → hasC u l x = hasC u m x) → ∀ x ∈ l, x ∈ m := fun {l m} k1 k2 k3 x hx => by
    have hm := k1.mor x hx
    have := k3 x hm.1
    unfold hasC at this
    rw [decide_eq_false (by omega : ¬ x.2 ≤ uD u x), Bool.false_or, Bool.false_or, decide_eq_true hx] at this
    exact of_decide_eq_true this.symm
  have hnd : ∀ {l : List Dt}, Inv u l → l.Nodup := fun k => k.srt.imp fun {x y} h hxy => by
    rw [hxy, ord_iff] at h; omega
  have hsd : ∀ {l : List Dt}, Inv u l → SortedD l := fun k => k.srt.imp fun {x y} h => by
    rw [ord_iff] at h ⊢; omega
  have hp : l.Perm m := (List.perm_ext_iff_of_nodup (hnd h1) (hnd h2)).2 fun x => ⟨hmem h1 h2 hs x, hmem h2 h1 (fun x hx => (hs x hx).symm) x⟩
  exact sorted_uniq hp (hsd h1) (List.Perm.refl _) (hsd h2)

theorem fold_len : ∀ (l : List Dt) (u : List Int) (o : List Dt), (l.foldl tstep (u, o)).2.length ≤ o.length + l.length := by
  intro l
  induction l with
  | nil => intro u o; simp
  | cons d l ih =>
    intro u o
    rw [List.foldl_cons]
    have h := ih (tstep (u, o) d).1 (tstep (u, o) d).2
    have : (tstep (u, o) d).2.length ≤ o.length + 1 := by
      rw [tstep_eq]
      split
      · simp
      · split
        · simp
        · simp
    have e : ((tstep (u, o) d).1, (tstep (u, o) d).2) = tstep (u, o) d := rfl
    rw [e] at h
    simp only [List.length_cons]
    omega

/-- A dot more: behind tidy the context is one, and has just that one more. -/
theorem add_inv {u : List Int} {l srt : List Dt} {d : Dt} (hu : u.length = 16) (hk : checkC u l = 0) (hd : rightB d = true) (hp : srt.Perm (l ++ [d])) (hs : SortedD srt) :
    Inv (tfold u srt).1 (tfold u srt).2 ∧ (tfold u srt).2.length ≤ l.length + 1 ∧ ∀ x, rightB x = true → hasC (tfold u srt).1 (tfold u srt).2 x = (hasC u l x || decide (x = d)) := by
  have hi := inv_check hu hk
  obtain ⟨_, _, h3⟩ := check_right hk
  have hr : ∀ x ∈ srt, rightB x = true := fun x hx => by
    rcases List.mem_append.1 (hp.mem_iff.1 hx) with hx | hx
    · exact h3 x hx
    · rw [List.mem_singleton.1 hx]; exact hd
  obtain ⟨g1, g2⟩ := fold_inv srt u [] ⟨hu, hi.bd, by simp, by simp⟩ (by simp) hs hr
  refine ⟨g1, ?_, fun x hx => ?_⟩
  · have := fold_len srt u []
    have e := hp.length_eq
    simp at this e
    unfold tfold
    omega
  · show hasC (srt.foldl tstep (u, [])).1 (srt.foldl tstep (u, [])).2 x = _
    rw [g2 x hx]
    unfold hasC
    have : decide (x ∈ srt) = (decide (x ∈ l) || decide (x = d)) := by
      rw [← Bool.decide_or, decide_eq_decide, hp.mem_iff, List.mem_append, List.mem_singleton]
    rw [this, decide_eq_false (List.not_mem_nil (a := x)), Bool.or_false, Bool.or_assoc]
end Go.Proofs.Ytkkjppeaaicgaaa
end

section
namespace Go.Ck
open Go
set_option linter.unusedVariables false
set_option linter.unusedSimpArgs false
section
variable {P : Program} {n : Nat} {K : Bs} {F : List (Nat × Value)} {h : View} {L : List Res} {Q : Exit → Act → World → Prop}
variable {dst : Option Nat} {ty : Nat} {pos : String} {af : Array Edge} {gd : Option (Nat × Bool)}

theorem own_cut {w : World} {e : TypeId} {sz m cap g j : Nat} {xs : List Value} (ho : w.ownsRow 0 e sz (.slice (some ⟨g, 0, none⟩) m cap) m xs) (hj : j ≤ m) : w.ownsRow 0 e sz (.slice (some ⟨g, 0, none⟩) j cap) j (xs.take (j * sz)) := by
  have hjm : j * sz ≤ m * sz := Nat.mul_le_mul_right _ hj
  refine ⟨by rw [List.length_take, ho.1]; omega, ?_⟩
  rcases ho.2 with ⟨q1, q2⟩ | ⟨g', cap', cur, q1, q2, q3, q4, q5, q6, q7⟩
  · cases q1
  · cases q1
    refine .inr ⟨g, cap, cur, rfl, q2, q3, by omega, q5, q6, ?_⟩
    rw [← q7, List.take_take]
    congr 1
    omega
theorem St.cut {w : World} {e : TypeId} {sz m cap g j k : Nat} {xs : List Value} (s : St K h L w) (hk : L[k]? = some (Res.row e sz (.slice (some ⟨g, 0, none⟩) m cap) m xs)) (hj : j ≤ m) : St K h (L.set k (Res.row e sz (.slice (some ⟨g, 0, none⟩) j cap) j (xs.take (j * sz)))) w := by
  have ho : w.ownsRow 0 e sz (.slice (some ⟨g, 0, none⟩) m cap) m xs := s.hd.own _ (List.mem_of_getElem? hk)
  refine s.swap hk rfl rfl rfl (Nat.le_refl _) (Nat.le_refl _) (fun _ _ _ => rfl) (own_cut ho hj) ?_ (fun b hb => .inl ?_)
  · simp [Res.row, Value.ownBlock]
  · have hb : b = g := by simpa [Res.row, Value.ownBlock] using hb
    subst hb
    simp [Res.row, Value.ownBlock]
theorem rx_cut {g' : Rg} {prs : List (Nat × Oper)} {e : TypeId} {sz m cap g : Nat} {xs : List Value} (k j : Nat) (hk : L[k]? = some (Res.row e sz (.slice (some ⟨g, 0, none⟩) m cap) m xs)) (hj : j ≤ m)
    (hx : RX P n K g' prs F h (L.set k (Res.row e sz (.slice (some ⟨g, 0, none⟩) j cap) j (xs.take (j * sz)))) Q) : RX P n K g' prs F h L Q := by
  unfold RX at *
  exact fun a w f s => hx a w f (s.cut hk hj)

theorem rx_row {g' : Rg} {prs : List (Nat × Oper)} (e : TypeId) (k : Nat) (hx : RX P n K g' prs F h (Res.row e k (.slice none 0 0) 0 [] :: L) Q) : RX P n K g' prs F h L Q := by
  unfold RX at *
  exact fun a w f s => hx a w f (s.rowNil e k)
theorem rx_grow_nil {g : Rg} {i : Nat} {r : List (Nat × Oper)} {T Ti e : Nat} {x y : Operand} {z : Value} {sz by' m : Nat} {kn : IntKind} (k : Nat) [tu : TyU P T (.slice e)] [ti : TyU P Ti (.int kn)] [tb : TyB P e z sz by'] (hx : ev F x = some (.slice none 0 0)) (hy : ev F y = some (.int .i64 m))
    (hk : L[k]? = some (Res.row e sz (.slice none 0 0) 0 [])) (hm : 0 < m) (hzs : z.cells.size = sz) (hsz : 0 < sz) (h63 : m ≤ maxLen) (hbytes : m * by' ≤ 140737488355328)
    (hw : wantedF g.ops F ⟨dst, .call ⟨.builtin .append, #[x, y], #[T, Ti]⟩, ty, pos, af, gd⟩ = some true) (hd : okd n dst = true) (hlo : g.lo i = true) (o1 : Owe g i h L)
    (o2 : ∀ b cap, Owe g i h (L.set k (Res.row e sz (.slice (some ⟨b, 0, none⟩) m cap) m (Builtin.zeroCells z.cells m).toList)))
    (hn : ∀ b cap, m ≤ cap → cap ≤ maxLen → RX P n K g r (putF dst (.slice (some ⟨b, 0, none⟩) m cap) F) h (L.set k (Res.row e sz (.slice (some ⟨b, 0, none⟩) m cap) m (Builtin.zeroCells z.cells m).toList)) Q) :
    RX P n K g ((i, ⟨dst, .call ⟨.builtin .append, #[x, y], #[T, Ti]⟩, ty, pos, af, gd⟩) :: r) F h L Q := by
  unfold RX at *
  intro a w f s
  obtain ⟨ii, hi, hz, hsize, hby⟩ := tb.ex
  subst hsize
  subst hby
  have h63i : (m : Int) ≤ 9223372036854775807 := by simp only [maxLen] at h63; omega
  have hr := Lib.run_append_nil_zeros (P := P) w T Ti ty e ii z .i64 kn tu.u ti.u hi hz m hm hsz h63i (by omega)
  have hge := grownCap_ge w m 0 e
  have hcm : grownCap w m 0 e ≤ maxLen := grownCap_le_maxLen w m 0 e h63
  generalize grownCap w m 0 e = cap at hr hge hcm
  have s' : St K h (L.set k (Res.row e ii.size (.slice (some ⟨w.heap.size, 0, none⟩) m cap) m (Builtin.zeroCells z.cells m).toList)) (w.drew.alloc (.cells (Builtin.zeroCells z.cells m ++ Builtin.zeroCells z.cells (cap - m)) e)) := by
    refine s.swap hk rfl rfl rfl (Nat.le_succ _) (by simp) (fun j hj _ => Go.RowKit.Below.heap_alloc w.drew _ j hj) ⟨?_, .inr ⟨w.heap.size, cap, _, rfl, Nat.zero_le _, heap_alloc_new w.drew _, hge, hcm, ?_, ?_⟩⟩ ?_ (fun b hb => .inr ?_)
    · simp [size_zeroCells, hzs]
    · simp only [Array.size_append, size_zeroCells, hzs, ← Nat.add_mul]
      congr 1
      omega
    · simp only [Array.toList_append]
      have : (Builtin.zeroCells z.cells m).toList.length = m * ii.size := by simp [size_zeroCells, hzs]
      rw [← this]
      exact List.take_left
    · simp [Res.row, Value.ownBlock]
    · have hb : b = w.heap.size := by simpa [Res.row, Value.ownBlock] using hb
      omega
  refine .inr (.inr ⟨wantedF_ok f hw, hlo, o1.out s, ?_⟩)
  unfold Oper.wp
  have : (execOp a.eval ⟨dst, .call ⟨.builtin .append, #[x, y], #[T, Ti]⟩, ty, pos, af, gd⟩).run P w = .ok (.value (.slice (some ⟨w.heap.size, 0, none⟩) m cap)) (w.drew.alloc (.cells (Builtin.zeroCells z.cells m ++ Builtin.zeroCells z.cells (cap - m)) e)) := by
    simp [execOp, resolve, invoke, builtin, f.ev hx, f.ev hy, hr]
  rw [this]
  exact ⟨(o2 _ cap).out s', hn _ cap hge hcm _ _ (f.put hd _) s'⟩
end
end Go.Ck
end

section
namespace Go.Proofs.Ytkkjppeaaicgaaa
open Go Go.Ck
set_option maxRecDepth 100000
set_option maxHeartbeats 1000000
set_option linter.unusedVariables false

def flatP (parts : List (Value × List Dt)) (k : Nat) : List Dt := (parts.take k).flatMap (·.2)
theorem flatP_succ {parts : List (Value × List Dt)} {k : Nat} (hk : k < parts.length) : flatP parts (k + 1) = flatP parts k ++ parts[k].2 := by
  unfold flatP
  rw [List.take_succ_eq_append_getElem hk, List.flatMap_append]
  simp
theorem flatP_le {parts : List (Value × List Dt)} {k : Nat} (hk : k ≤ parts.length) : (flatP parts k).length ≤ (flatP parts parts.length).length := by
  unfold flatP
  rw [List.take_length]
  conv => rhs; rw [← List.take_append_drop k parts]
  rw [List.flatMap_append, List.length_append]
  omega

end Go.Proofs.Ytkkjppeaaicgaaa
end

section
namespace Go.Proofs.Ytkkjppeaaicgaaa
open Go Go.Ck
set_option maxRecDepth 100000
set_option maxHeartbeats 1000000
set_option linter.unusedVariables false

theorem qv_max' {P : Program} {n : Nat} {F : List (Nat × Value)} {h : View} {L : List Res} {dst : Option Nat} {ty : Nat} {pos : String} {af : Array Edge} {gd : Option (Nat × Bool)} {ts : Array TypeId} {x y : Operand} {k : IntKind} {i j r : Int} (hx : ev F x = some (.int k i)) (hy : ev F y = some (.int k j)) (hr : (if j > i then j else i) = r) :
    QV P n F h L ⟨dst, .call ⟨.builtin .max, #[x, y], ts⟩, ty, pos, af, gd⟩ (.int k r) := by
  subst hr
  exact .mk fun a w f s => by simp [execOp, resolve, invoke, builtin, Builtin.max_, f.ev hx, f.ev hy, Builtin.max2]

def maxI (i j : Int) : Int := if j > i then j else i
def maxU (u v : List Int) : List Int := List.zipWith maxI u v
def maxK (u v : List Int) (k : Nat) : List Int := (maxU u v).take k ++ u.drop k
theorem maxU_len {u v : List Int} (hu : u.length = 16) (hv : v.length = 16) : (maxU u v).length = 16 := by simp [maxU, hu, hv]
theorem maxU_at {u v : List Int} (hu : u.length = 16) (hv : v.length = 16) (i : Nat) : (maxU u v).getD i 0 = maxI (u.getD i 0) (v.getD i 0) := by
  by_cases hi : i < 16
  · have h1 : i < u.length := by omega
    have h2 : i < v.length := by omega
    simp [maxU, List.getElem?_zipWith, h1, h2]
  · have h1 : u[i]? = none := List.getElem?_eq_none (by omega)
    have h2 : v[i]? = none := List.getElem?_eq_none (by omega)
    have h3 : (maxU u v)[i]? = none := List.getElem?_eq_none (by rw [maxU_len hu hv]; omega)
    simp [List.getD_eq_getElem?_getD, h1, h2, h3, maxI]
theorem maxK_len {u v : List Int} {k : Nat} (hu : u.length = 16) (hv : v.length = 16) (hk : k ≤ 16) : (maxK u v k).length = 16 := by
  simp [maxK, maxU_len hu hv, hu]; omega
theorem maxK_at {u v : List Int} {k : Nat} (hu : u.length = 16) (hv : v.length = 16) (hk : k < 16) : (maxK u v k).getD k 0 = u.getD k 0 := by
  unfold maxK
  have h1 : ((maxU u v).take k).length = k := by simp [maxU_len hu hv]; omega
  rw [List.getD_eq_getElem?_getD, List.getElem?_append_right (by omega), h1, Nat.sub_self, List.getElem?_drop, Nat.add_zero, ← List.getD_eq_getElem?_getD]
theorem maxK_set {u v : List Int} {k : Nat} (hu : u.length = 16) (hv : v.length = 16) (hk : k < 16) : (maxK u v k).set k (maxI (u.getD k 0) (v.getD k 0)) = maxK u v (k + 1) := by
  unfold maxK
  have h1 : ((maxU u v).take k).length = k := by simp [maxU_len hu hv]; omega
  have hkm : k < (maxU u v).length := by rw [maxU_len hu hv]; omega
  rw [List.set_append_right _ _ (by omega), h1, Nat.sub_self, List.drop_eq_getElem_cons (by omega : k < u.length), List.set_cons_zero, List.take_succ_eq_append_getElem hkm, ← maxU_at hu hv k]
  rw [List.getD_eq_getElem?_getD, List.getElem?_eq_getElem hkm, Option.getD_some, List.append_assoc]
  rfl
theorem spl_up {u : List Int} {x : Int} {i o : Nat} (ho : o = i) (hi : i < u.length) : spl (up u).toArray.toList o (Value.int .i64 x).cells.toList = up (u.set i x) := by
  subst ho
  show (up u).take o ++ [Value.int .i64 x] ++ (up u).drop (o + 1) = up (u.set o x)
  have hl : (up u).length = u.length := by simp [up]
  unfold up
  rw [List.map_set, List.set_eq_take_append_cons_drop, if_pos (by simpa using hi)]
  simp
theorem up_sz {u : List Int} (hu : u.length = 16) : (Value.agg (up u).toArray).cells.size = 16 := by
  show (up u).toArray.size = 16
  simp [up, hu]
theorem up_fit {u : List Int} (hu : u.length = 16) : 0 + (Value.agg (up u).toArray).cells.size ≤ 16 := by rw [up_sz hu]; omega
theorem up_all {u : List Int} (hu : u.length = 16) : (Value.agg (up u).toArray).cells.toList.length = 16 := by
  show (up u).toArray.toList.length = 16
  simp [up, hu]
theorem up_one {u : List Int} : (Value.agg (up u).toArray).cells.toList.all Value.oneCell' = true := by
  show (up u).toArray.toList.all Value.oneCell' = true
  simp [up, Value.oneCell']
theorem cell_upx {h : View} {L : List Res} {b o : Nat} {u : List Int} (c : Cells h L ⟨b, 0, none⟩ (up u)) (i : Nat) (ho : o = 0 + i) (hi : i < u.length) : CellAt h L b o (.int .i64 (u.getD i 0)) := by
  rw [ho]
  exact c.cell (by simp [up, hi])
theorem cell_upy {h : View} {L : List Res} {b o i : Nat} {u : List Int} {x : Int} (hx : u.getD i 0 = x) (c : Cells h L ⟨b, 0, none⟩ (up u)) (ho : o = 0 + i) (hi : i < u.length) : CellAt h L b o (.int .i64 x) := by
  rw [← hx]
  exact cell_upx c i ho hi
theorem fit_up {u : List Int} {x : Int} {i o : Nat} (ho : o = i) (hi : i < u.length) : o + (Value.int .i64 x).cells.size ≤ (up u).toArray.size := by
  show o + 1 ≤ _
  simp [up]; omega
theorem max_bd {u v : List Int} (hu : u.length = 16) (hv : v.length = 16) (h1 : ∀ x ∈ u, 0 ≤ x ∧ x ≤ 1099511627776) (h2 : ∀ x ∈ v, 0 ≤ x ∧ x ≤ 1099511627776) : ∀ x ∈ maxU u v, 0 ≤ x ∧ x ≤ 1099511627776 := fun x hx => by
  obtain ⟨i, hi, rfl⟩ := List.getElem_of_mem hx
  have h16 : i < 16 := by rw [maxU_len hu hv] at hi; exact hi
  have e := maxU_at hu hv i
  rw [List.getD_eq_getElem?_getD, List.getElem?_eq_getElem hi] at e
  simp only [Option.getD_some] at e
  rw [e]
  have a := h1 _ (getD_mem (u := u) (i := i) (by omega))
  have b := h2 _ (getD_mem (u := v) (i := i) (by omega))
  unfold maxI
  split <;> assumption

theorem maxK_all {u v : List Int} (hu : u.length = 16) (hv : v.length = 16) : maxK u v 16 = maxU u v := by
  unfold maxK
  rw [List.take_of_length_le (by rw [maxU_len hu hv]; omega), List.drop_eq_nil_of_le (by omega), List.append_nil]

end Go.Proofs.Ytkkjppeaaicgaaa
end

section
namespace Go.Proofs.Ytkkjppeaaicgaaa
open Go Go.Ck Go.Shelf
set_option maxRecDepth 100000
set_option maxHeartbeats 1000000
set_option linter.unusedVariables false

theorem uD_max {u v : List Int} (hu : u.length = 16) (hv : v.length = 16) (x : Dt) : uD (maxU u v) x = maxI (uD u x) (uD v x) := maxU_at hu hv _

theorem join_inv {u v : List Int} {l m srt : List Dt} (h1 : Inv u l) (h2 : Inv v m) (hp : srt.Perm (l ++ m)) (hs : SortedD srt) :
    Inv (tfold (maxU u v) srt).1 (tfold (maxU u v) srt).2 ∧ ∀ x, rightB x = true → hasC (tfold (maxU u v) srt).1 (tfold (maxU u v) srt).2 x = (hasC u l x || hasC v m x) := by
  have hr : ∀ x ∈ srt, rightB x = true := fun x hx => by
    rcases List.mem_append.1 (hp.mem_iff.1 hx) with hx | hx
    · exact (h1.mor x hx).1
    · exact (h2.mor x hx).1
  obtain ⟨g1, g2⟩ := fold_inv srt (maxU u v) [] ⟨maxU_len h1.len h2.len, max_bd h1.len h2.len h1.bd h2.bd, by simp, by simp⟩ (by simp) hs hr
  refine ⟨g1, fun x hx => ?_⟩
  show hasC (srt.foldl tstep (maxU u v, [])).1 (srt.foldl tstep (maxU u v, [])).2 x = _
  rw [g2 x hx]
  unfold hasC
  rw [uD_max h1.len h2.len]
  have e1 : decide (x ∈ srt) = (decide (x ∈ l) || decide (x ∈ m)) := by
    rw [← Bool.decide_or, decide_eq_decide, hp.mem_iff, List.mem_append]
  have e2 : decide (x.2 ≤ maxI (uD u x) (uD v x)) = (decide (x.2 ≤ uD u x) || decide (x.2 ≤ uD v x)) := by
    rw [← Bool.decide_or, decide_eq_decide]
    unfold maxI
    split <;> omega
  rw [e1, e2, decide_eq_false (List.not_mem_nil (a := x)), Bool.or_false]
  cases decide (x.2 ≤ uD u x) <;> cases decide (x.2 ≤ uD v x) <;> cases decide (x ∈ l) <;> cases decide (x ∈ m) <;> rfl

theorem covers_iff {u v : List Int} {l m : List Dt} (h1 : Inv u l) (h2 : Inv v m) (k1 : checkC u l = 0) (k2 : checkC v m = 0) :
    coversC u l v m = true ↔ ∀ x, rightB x = true → hasC v m x = true → hasC u l x = true := by
  unfold coversC
  rw [decide_eq_true k1, decide_eq_true k2]
  simp only [Bool.true_and, Bool.and_eq_true, Bool.not_eq_true', List.any_eq_false, Bool.not_eq_false']
  constructor
  · rintro ⟨hU, hM⟩ x hx hv
    unfold hasC at hv
    rw [Bool.or_eq_true, decide_eq_true_iff, decide_eq_true_iff] at hv
    rcases hv with hv | hv
    · have hr := right_of hx
      have hi : (x.1 - 1).toNat < 16 := by omega
      have := List.all_eq_true.1 hU _ (List.mem_range.2 hi)
      have := of_decide_eq_true this
      unfold hasC
      rw [decide_eq_true (by unfold uD at hv ⊢; omega)]; rfl
    · simpa using hM x hv
  · intro hs
    refine ⟨List.all_eq_true.2 fun i hi => decide_eq_true (up_le h1 h2 hs i (List.mem_range.1 hi)), fun d hd => ?_⟩
    have hm := (h2.mor d hd).1
    have : hasC v m d = true := by unfold hasC; rw [decide_eq_true hd, Bool.or_true]
    simpa using hs d hm this
end Go.Proofs.Ytkkjppeaaicgaaa
end

section
namespace Go.Ck
open Go
set_option linter.unusedVariables false
set_option linter.unusedSimpArgs false
section
variable {P : Program} {n : Nat} {K : Bs} {F : List (Nat × Value)} {h : View} {L : List Res} {Q : Exit → Act → World → Prop}
variable {dst : Option Nat} {ty : Nat} {pos : String} {af : Array Edge} {gd : Option (Nat × Bool)}

theorem spl_len {xs vs : List Value} {o : Nat} (hf : o + vs.length ≤ xs.length) : (spl xs o vs).length = xs.length := by
  unfold spl
  simp only [List.length_append, List.length_take, List.length_drop]
  omega
theorem spl_take {xs vs : List Value} {o m : Nat} (hf : o + vs.length ≤ m) (hm : m ≤ xs.length) : (spl xs o vs).take m = spl (xs.take m) o vs := by
  unfold spl
  have h1 : (xs.take o).length = o := by simp; omega
  rw [List.take_take, Nat.min_eq_left (by omega), List.drop_take, List.append_assoc, List.append_assoc, List.take_append, h1, List.take_append]
  rw [List.take_of_length_le (by rw [h1]; omega), List.take_of_length_le (l := vs) (by omega)]
  congr 3
  omega

theorem rx_rowstore {g : Rg} {i : Nat} {r : List (Nat × Oper)} {T e : Nat} {x y : Operand} {b o sz sz' m cap : Nat} {v : Value} {xs : List Value} (k : Nat) [ts : TyS P T sz'] (hx : ev F x = some (.pointer (some ⟨b, o, none⟩))) (hy : ev F y = some v)
    (hk : L[k]? = some (Res.row e sz (.slice (some ⟨b, 0, none⟩) m cap) m xs)) (hsz : v.cells.size = sz') (hfit : o + v.cells.size ≤ m * sz) (h1 : v.cells.toList.all Value.oneCell' = true) {xs' : List Value} (hcs : spl xs o v.cells.toList = xs')
    (hw : wantedF g.ops F ⟨none, .store T x y, ty, pos, af, gd⟩ = some true) (hl : g.lo i = true) (o1 : Owe g i h L) (o2 : Owe g i h (L.set k (Res.row e sz (.slice (some ⟨b, 0, none⟩) m cap) m xs')))
    (hn : RX P n K g r F h (L.set k (Res.row e sz (.slice (some ⟨b, 0, none⟩) m cap) m xs')) Q) : RX P n K g ((i, ⟨none, .store T x y, ty, pos, af, gd⟩) :: r) F h L Q := by
  unfold RX at *
  intro a w f s
  subst hcs
  have h1 : ∀ u ∈ v.cells.toList, u.oneCell' = true := fun u hu => List.all_eq_true.1 h1 u hu
  have ho : w.ownsRow 0 e sz (.slice (some ⟨b, 0, none⟩) m cap) m xs := s.hd.own _ (List.mem_of_getElem? hk)
  obtain ⟨q0, q1 | ⟨g', cap', cur, q1, q2, q3, q4, q5, q6, q7⟩⟩ := ho
  · cases q1.1
  cases q1
  have hvl : v.cells.toList.length = v.cells.size := by simp
  have hms : m * sz ≤ cap * sz := Nat.mul_le_mul_right _ q4
  have hb : w.heap[b]? = some (.cells cur e (0, 0)) := q3
  have hrun : (execOp a.eval ⟨none, .store T x y, ty, pos, af, gd⟩).run P w = .ok .skip (w.setRow b (spl cur.toList o v.cells.toList).toArray) := by
    have hst := run_storeCells_at P b o e v.cells.toList 0 cur w hb (by simp; omega) h1
    simp only [Nat.add_zero] at hst
    simp [execOp, f.ev hx, f.ev hy, Instr.storeAt, Instr.sureAddr, storeVar, ts.s, hsz, hst, spl]
  have s' : St K h (L.set k (Res.row e sz (.slice (some ⟨b, 0, none⟩) m cap) m (spl xs o v.cells.toList))) (w.setRow b (spl cur.toList o v.cells.toList).toArray) := by
    refine s.swap hk rfl rfl rfl (by simp) (by simp) (fun j hj hjd => setRow_other w b j _ (fun e' => hjd ?_)) ⟨?_, .inr ⟨b, cap, _, rfl, Nat.zero_le _, setRow_heap w b cur _ e _ hb, q4, q5, ?_, ?_⟩⟩ ?_ (fun x hx => .inl ?_)
    · simp [Res.row, Value.ownBlock, e']
    · rw [spl_len (by rw [q0]; omega), q0]
    · simp only [List.size_toArray]
      rw [spl_len (by simp; omega)]
      simp [q6]
    · rw [← q7]
      exact spl_take (by omega) (by simp; omega)
    · simp [Res.row, Value.ownBlock]
    · have hx : x = b := by simpa [Res.row, Value.ownBlock] using hx
      subst hx
      simp [Res.row, Value.ownBlock]
  refine .inr (.inr ⟨wantedF_ok f hw, hl, o1.out s, ?_⟩)
  unfold Oper.wp
  rw [hrun]
  exact ⟨o2.out s', hn _ _ f s'⟩
/-- a slice as a row is -/
theorem rx_rowslice {g : Rg} {prs : List (Nat × Oper)} {e : TypeId} {sz m : Nat} {v : Value} {xs : List Value} (k : Nat) (hk : L[k]? = some (Res.row e sz v m xs)) (hx : ∀ ad cap, v = .slice ad m cap → RX P n K g prs F h L Q) : RX P n K g prs F h L Q :=
  rx_rowform k hk (fun h1 h2 _ => hx none 0 (by rw [h1, h2])) (fun g' cap hv => hx _ cap hv)

/-- some cells of a block -/
def Res.part (g off : Nat) (v : Value) (vs : List Value) : Res where
  dom := [g]
  sat := fun w => ∀ j u, (v :: vs)[j]? = some u → w.cell? ⟨g, off + j, none⟩ = some u
  loc := fun w w' hh hs j u hj => by
    have := hs j u hj
    simp only [World.cell?] at this ⊢
    rw [hh g (by simp)]
    exact this
  lt := fun w hs b hb => by
    have hb : b = g := by simpa using hb
    subst hb
    have := hs 0 v rfl
    simp only [World.cell?] at this
    cases hg : w.heap[b]? with
    | none => rw [hg] at this; simp at this
    | some o => exact (Array.getElem?_eq_some_iff.1 hg).1
theorem part_cells {g off : Nat} {v : Value} {vs : List Value} (k : Nat) (hk : L[k]? = some (Res.part g off v vs)) : Cells h L ⟨g, off, none⟩ (v :: vs) := fun w s j u hj => by
  rw [Addr.add_off]
  exact s.own _ (List.mem_of_getElem? hk) j u hj
/-- a call that takes the first two resources -/
theorem rx_call_2 {g : Rg} {i : Nat} {dst : Option Nat} {op : Op} {ty : Nat} {pos : String} {af : Array Edge} {gd : Option (Nat × Bool)} {r : List (Nat × Oper)} {fn : FuncId} {args : Array Value} {X : Type} {v : X → Value} {hh : X → View} {LL : X → List Res} {p : X → Prop} {R1 R2 : Res} {Lr : List Res} (hc : CallOf P n F ⟨dst, op, ty, pos, af, gd⟩ fn args)
    (hsp : ∀ w, St ⟨w, h, doms [R1, R2]⟩ h [R1, R2] w → Calls P fn args w fun e w' => ∃ x, e = .returned (v x) ∧ St ⟨w, h, doms [R1, R2]⟩ (hh x) (LL x) w' ∧ p x)
    (hw : wantedF g.ops F ⟨dst, op, ty, pos, af, gd⟩ = some true) (hd : okd n dst = true) (hl : g.lo i = true) (h1 : Owe g i h (R1 :: R2 :: Lr)) (h2 : ∀ x, p x → Le h (hh x) → Owe g i (hh x) (LL x ++ Lr))
    (hx : ∀ x, p x → Le h (hh x) → RX P n K g r (putF dst (v x) F) (hh x) (LL x ++ Lr) Q) : RX P n K g ((i, ⟨dst, op, ty, pos, af, gd⟩) :: r) F h (R1 :: R2 :: Lr) Q := by
  unfold RX at *
  unfold CallOf at hc
  exact fun a w f s => .inr (.inr ⟨wantedF_ok f hw, hl, h1.imp (fun k => k w s.hd) id, by
    unfold Oper.wp
    rw [hc a w f]
    have s1 : St K h ([R1, R2] ++ Lr) w := s
    refine (hsp w (St.enter (Li := [R1, R2]) (Lr := Lr) s1)).mono fun e w' he => ?_
    obtain ⟨x, rfl, st, px⟩ := he
    have s' := St.leave (Li := [R1, R2]) (Lr := Lr) s1 st
    have hle : Le h (hh x) := st.grow
    exact ⟨(h2 x px hle).imp (fun k => k _ s'.hd) id, hx x px hle _ _ (f.put hd _) s'⟩⟩)

theorem st_lowerx {h h' : View} {w w' : World} {Lo : List Res} (hh : Hd h [] w') (hle : Le h h') (s : St ⟨w, h', []⟩ h' Lo w') : St ⟨w, h, []⟩ h Lo w' :=
  ⟨s.os, s.tape, s.output, s.drawn, s.size, s.keep, ⟨hh.view, s.hd.own⟩, s.nd, s.src, Le.refl h, fun _ _ hb => hb, fun b hb => by
    have := s.dis b hb
    cases hx : h b with
    | none => rfl
    | some o => rw [hle b o hx] at this; cases this⟩
/-- a call that reads a slice that the caller owns, and gives something new -/
theorem rx_call_lendx {g : Rg} {i : Nat} {dst : Option Nat} {op : Op} {ty : Nat} {pos : String} {af : Array Edge} {gd : Option (Nat × Bool)} {r : List (Nat × Oper)} {fn : FuncId} {args : Array Value} {X : Type} {u : X → Value} {LL : X → List Res} {e : TypeId} {sz m : Nat} {v : Value} {xs : List Value} (k : Nat) (hc : CallOf P n F ⟨dst, op, ty, pos, af, gd⟩ fn args)
    (hk : L[k]? = some (Res.row e sz v m xs))
    (hsp : ∀ h', Le h h' → Sc h' sz v m xs → ∀ w, St ⟨w, h', []⟩ h' [] w → Calls P fn args w fun e w' => ∃ x, e = .returned (u x) ∧ St ⟨w, h', []⟩ h' (LL x) w' ∧ True)
    (hw : wantedF g.ops F ⟨dst, op, ty, pos, af, gd⟩ = some true) (hd : okd n dst = true) (hl : g.lo i = true) (h1 : Owe g i h L) (h2 : ∀ x, Owe g i h (LL x ++ L))
    (hx : ∀ x, RX P n K g r (putF dst (u x) F) h (LL x ++ L) Q) : RX P n K g ((i, ⟨dst, op, ty, pos, af, gd⟩) :: r) F h L Q := by
  unfold RX at *
  unfold CallOf at hc
  exact fun a w f s => .inr (.inr ⟨wantedF_ok f hw, hl, h1.imp (fun k => k w s.hd) id, by
    unfold Oper.wp
    rw [hc a w f]
    obtain ⟨h', hle, hsc, s0⟩ := row_view s hk
    refine (hsp h' hle hsc w s0).mono fun e w' he => ?_
    obtain ⟨x, rfl, st, _⟩ := he
    have s' := St.leave (Li := []) (Lr := L) s (st_lowerx ⟨fun b o hb => st.hd.view b o (hle b o hb), fun r hr => (by cases hr)⟩ hle st)
    exact ⟨(h2 x).imp (fun k => k _ s'.hd) id, hx x _ _ (f.put hd _) s'⟩⟩)
end
end Go.Ck
end

section
namespace Go.Ck
open Go
set_option linter.unusedVariables false
section
variable {P : Program} {n : Nat} {K : Bs} {F : List (Nat × Value)} {h : View} {L : List Res} {Q : Exit → Act → World → Prop}
variable {dst : Option Nat} {ty : Nat} {pos : String} {af : Array Edge} {gd : Option (Nat × Bool)}
theorem run_guard_bool {op : BinOp} {T : Nat} {x y : Operand} {a b : Bool} {w : World} : (eqGuard op T x y (.bool a) (.bool b)).run P w = .ok () w := by
  unfold eqGuard
  by_cases hop : op = .eql ∨ op = .neq
  · rcases hop with rfl | rfl <;> simp
  · have : (!(op matches .eql | .neq)) = true := by cases op <;> first | rfl | exact absurd (Or.inl rfl) hop | exact absurd (Or.inr rfl) hop
    simp [this]
theorem qv_eql_bool {T T' : Nat} {x y : Operand} {a b t : Bool} [tu : TyU P T .bool] (hx : ev F x = some (.bool a)) (hy : ev F y = some (.bool b)) (ht : (a == b) = t) :
    QV P n F h L ⟨dst, .binOp .eql T x y T', ty, pos, af, gd⟩ (.bool t) := .mk fun ac w f s => by
  subst ht
  simp [execOp, f.ev hx, f.ev hy, run_guard_bool, binOp, run_equal_bool w T a b tu.u]
theorem qv_neq_bool {T T' : Nat} {x y : Operand} {a b t : Bool} [tu : TyU P T .bool] (hx : ev F x = some (.bool a)) (hy : ev F y = some (.bool b)) (ht : (!(a == b)) = t) :
    QV P n F h L ⟨dst, .binOp .neq T x y T', ty, pos, af, gd⟩ (.bool t) := .mk fun ac w f s => by
  subst ht
  simp [execOp, f.ev hx, f.ev hy, run_guard_bool, binOp, run_equal_bool w T a b tu.u]
end
end Go.Ck
end

section
namespace Go.Proofs.Ytkkjppeaaicgaaa
open Go Go.Ck
set_option maxRecDepth 100000
set_option maxHeartbeats 1000000
set_option linter.unusedVariables false

def bcs (l : List Int) : List Value := l.map (Value.int .u8)
abbrev Bs8 (h : View) (v : Value) (l : List Int) : Prop := Sc h 1 v l.length (bcs l)
abbrev rowB (v : Value) (l : List Int) : Res := Res.row 5 1 v l.length (bcs l)
theorem bcs_len (l : List Int) : (bcs l).length = l.length := by simp [bcs]
theorem bcs_one (l : List Int) : ∀ u ∈ bcs l, u.oneCell' = true := fun u hu => by
  obtain ⟨x, _, rfl⟩ := List.mem_map.1 hu
  rfl
theorem bcs_app (l m : List Int) : bcs (l ++ m) = bcs l ++ bcs m := by simp [bcs]

theorem qv_shr {P : Program} {n : Nat} {F : List (Nat × Value)} {h : View} {L : List Res} {dst : Option Nat} {ty : Nat} {pos : String} {af : Array Edge} {gd : Option (Nat × Bool)} {T T' : Nat} {x y : Operand} {k k' : IntKind} {i r : Int} {j : Nat} (hx : ev F x = some (.int k i)) (hy : ev F y = some (.int k' j)) (hr : i.fdiv (2 ^ j) = r) (hj : j < k.bits) :
    QV P n F h L ⟨dst, .binOp .shr T x y T', ty, pos, af, gd⟩ (.int k r) := by
  subst hr
  refine .mk fun a w f s => ?_
  have h0 : ¬ ((j : Int) < 0) := by omega
  have h1 : min j k.bits = j := by omega
  have hg : (eqGuard .shr T x y (.int k i) (.int k' j)).run P w = .ok () w := by simp [eqGuard]
  simp [execOp, f.ev hx, f.ev hy, hg, binOp, Op.shift, h0, h1]

theorem qv_minb {P : Program} {n : Nat} {F : List (Nat × Value)} {h : View} {L : List Res} {dst : Option Nat} {ty : Nat} {pos : String} {af : Array Edge} {gd : Option (Nat × Bool)} {ts : Array TypeId} {x y : Operand} {k : IntKind} {i j r : Int} (hx : ev F x = some (.int k i)) (hy : ev F y = some (.int k j)) (hr : (if j < i then j else i) = r) :
    QV P n F h L ⟨dst, .call ⟨.builtin .min, #[x, y], ts⟩, ty, pos, af, gd⟩ (.int k r) := by
  subst hr
  exact .mk fun a w f s => by simp [execOp, resolve, invoke, builtin, Builtin.min_, f.ev hx, f.ev hy, Builtin.min2]

/-- the low bytes of a word, the lowest first -/
def putLow : Nat → Int → List Int
  | 0, _ => []
  | k + 1, x => (x % 256) :: putLow k (x / 256)
theorem putLow_len : ∀ (k : Nat) (x : Int), (putLow k x).length = k
  | 0, _ => rfl
  | k + 1, x => by simp [putLow, putLow_len k]
theorem putLow_succ : ∀ (k : Nat) (x : Int), putLow (k + 1) x = putLow k x ++ [x / 256 ^ k % 256]
  | 0, x => by simp [putLow]
  | k + 1, x => by
    have := putLow_succ k (x / 256)
    rw [putLow, this, putLow]
    simp only [List.cons_append, List.cons.injEq, true_and, List.append_cancel_left_eq, List.cons.injEq, and_true]
    congr 1
    rw [Int.ediv_ediv_of_nonneg (by decide), Int.pow_succ, Int.mul_comm]

theorem divp_bd {x : Int} {k : Nat} (hx : 0 ≤ x ∧ x < 18446744073709551616) : 0 ≤ x / 256 ^ k ∧ x / 256 ^ k < 18446744073709551616 := by
  have hp : (0 : Int) < 256 ^ k := Int.pow_pos (by decide)
  refine ⟨Int.ediv_nonneg hx.1 (by omega), ?_⟩
  have := Int.ediv_le_self (256 ^ k) hx.1
  omega
theorem divp_succ (x : Int) (k : Nat) : (x / 256 ^ k).fdiv (2 ^ 8) = x / 256 ^ (k + 1) := by
  have e : (2 : Int) ^ 8 = 256 := by decide
  rw [e, Int.fdiv_eq_ediv_of_nonneg _ (by decide), Int.ediv_ediv_of_nonneg (Int.le_of_lt (Int.pow_pos (by decide))), Int.pow_succ]
theorem wrap_u8 (x : Int) : IntKind.u8.wrap x = x % 256 := by
  simp [IntKind.wrap, IntKind.bits, IntKind.signed]

/-- the first i and the last i bytes have changed their places -/
def rvK (l : List Int) (i : Nat) : List Int := (List.range l.length).map fun t => if t < i ∨ l.length - i ≤ t then l.getD (l.length - 1 - t) 0 else l.getD t 0
theorem rvK_len (l : List Int) (i : Nat) : (rvK l i).length = l.length := by simp [rvK]
theorem rvK_at {l : List Int} {i t : Nat} (ht : t < l.length) : (rvK l i)[t]'(by rw [rvK_len]; exact ht) = if t < i ∨ l.length - i ≤ t then l.getD (l.length - 1 - t) 0 else l.getD t 0 := by
  simp [rvK]
theorem rvK_zero (l : List Int) : rvK l 0 = l := by
  refine List.ext_getElem (rvK_len l 0) fun t h1 h2 => ?_
  rw [rvK_at h2, if_neg (by omega)]
  simp [h2]
theorem rvK_end {l : List Int} {i : Nat} (hi : l.length ≤ 2 * i + 1) : rvK l i = l.reverse := by
  refine List.ext_getElem (by rw [rvK_len]; simp) fun t h1 h2 => ?_
  have ht : t < l.length := by simpa using h2
  rw [rvK_at ht, List.getElem_reverse]
  have e : l.getD (l.length - 1 - t) 0 = l[l.length - 1 - t]'(by omega) := by simp [show l.length - 1 - t < l.length by omega]
  split
  · exact e
  · rename_i hn
    have : l.length - 1 - t = t := by omega
    rw [← e, this]
theorem rvK_step {l : List Int} {i : Nat} (hi : 2 * i + 1 < l.length) : ((rvK l i).set i (l.getD (l.length - 1 - i) 0)).set (l.length - 1 - i) (l.getD i 0) = rvK l (i + 1) := by
  refine List.ext_getElem (by simp [rvK_len]) fun t h1 h2 => ?_
  have ht : t < l.length := by rw [rvK_len] at h2; exact h2
  rw [List.getElem_set, rvK_at ht]
  by_cases c1 : l.length - 1 - i = t
  · rw [if_pos c1, if_pos (by omega)]
    congr 1; omega
  · rw [if_neg c1, List.getElem_set]
    by_cases c2 : i = t
    · rw [if_pos c2, if_pos (by omega), c2]
    · rw [if_neg c2, rvK_at ht]
      by_cases c3 : t < i ∨ l.length - i ≤ t
      · rw [if_pos c3, if_pos (by omega)]
      · rw [if_neg c3, if_neg (by omega)]
theorem spl_byte {l : List Int} {o : Nat} {x : Int} (ho : o < l.length) : spl (bcs l) o (Value.int .u8 x).cells.toList = bcs (l.set o x) := by
  show (bcs l).take o ++ [Value.int .u8 x] ++ (bcs l).drop (o + 1) = bcs (l.set o x)
  unfold bcs
  rw [List.map_set, List.set_eq_take_append_cons_drop, if_pos (by simpa using ho)]
  simp
end Go.Proofs.Ytkkjppeaaicgaaa
end

section
namespace Go.Ck
open Go
section
variable {P : Program} {n : Nat} {K : Bs} {F : List (Nat × Value)} {h : View} {L : List Res} {Q : Exit → Act → World → Prop}
theorem wp_region_lexL {ops : Array Oper} {S : World → Prop} {lo : Nat → Bool} {id : Nat} {Q : Exit → Act → World → Prop} {a : Act} {w : World} (hm : P.follows .mixedOrders = true) (hB : lexOkAt ops (masks ops) lo (barOf ops) = true)
    (h : wpX P ops S lo (barOf ops) (Q .normal) (enumFrom 0 ops.toList) a w.drew) : (Code.region id ops true).wp P Q a w := by
  refine wp_region_any hm (lex_any hB _ (enumFrom 0 ops.toList) _ a _ (by simp [enumFrom_length]) ⟨?_, ?_, ?_, ?_, ?_⟩ h)
  · intro p hp
    obtain ⟨j, h1, h2⟩ := (enumFrom_mem _ _ _).1 hp
    have : p.1 = j := by omega
    rw [this]; simpa using h1
  · exact enumFrom_sorted _ _
  · intro i hi
    simp only [Array.getD_eq_getD_getElem?, Array.getElem?_replicate, hi, if_true, Option.getD_some, true_iff]
    exact ⟨ops[i], (enumFrom_mem _ _ _).2 ⟨i, by simp [hi], by simp⟩⟩
  · intro i o ho hl
    simp only [Array.getD_eq_getD_getElem?, Array.getElem?_replicate] at hl
    split at hl <;> simp at hl
  · simp
/-- the operations of 'ex' are taken for loud ones -/
theorem cx_region_drawL {id : Nat} {ops : Array Oper} (LS : List Res) (ex : List Nat) (hm : P.follows .mixedOrders = true) (hB : lexOkAt ops (masks ops) (fun i => loOf ops i || ex.contains i) (barOf ops) = true)
    (hx : RX P n K ⟨ops, Hd h LS, fun i => loOf ops i || ex.contains i, barOf ops⟩ (enumFrom 0 ops.toList) F h L Q) : CX P n K (.region id ops true) F h L Q := by
  unfold CX
  unfold RX at hx
  exact fun a w f s => wp_region_lexL hm hB (hx a w.drew ⟨f.size, f.dfs, f.get⟩ s.drew)
end
end Go.Ck
namespace Go.Proofs.Ytkkjppeaaicgaaa
open Go Go.Ck
set_option maxRecDepth 100000
set_option maxHeartbeats 1000000
set_option linter.unusedVariables false

theorem byte_cell {h : View} {L : List Res} {g o i : Nat} {l : List Int} (c : Cells h L ⟨g, 0, none⟩ (bcs l)) (ho : o = 0 + i) (hi : i < l.length) : CellAt h L g o (.int .u8 (l.getD i 0)) := by
  rw [ho]
  exact c.cell (by simp [bcs, hi])

theorem byte_cellx {h : View} {L : List Res} {g o i : Nat} {l : List Int} {x : Int} (hx : l.getD i 0 = x) (c : Cells h L ⟨g, 0, none⟩ (bcs l)) (ho : o = 0 + i) (hi : i < l.length) : CellAt h L g o (.int .u8 x) := by
  rw [← hx]
  exact byte_cell c ho hi
theorem spl_byte' {l : List Int} {o t : Nat} {x : Int} (ho : o = t) (hi : t < l.length) : spl (bcs l) o (Value.int .u8 x).cells.toList = bcs (l.set t x) := by
  subst ho
  exact spl_byte hi

end Go.Proofs.Ytkkjppeaaicgaaa
end

section
namespace Go.Proofs.Ytkkjppeaaicgaaa
open Go Go.Ck
set_option maxRecDepth 100000
set_option maxHeartbeats 1000000
set_option linter.unusedVariables false

theorem qv_eql_pnil {P : Program} {n : Nat} {F : List (Nat × Value)} {h : View} {L : List Res} {dst : Option Nat} {ty : Nat} {pos : String} {af : Array Edge} {gd : Option (Nat × Bool)} {T T' e : Nat} {x y : Operand} {ad : Addr} [tu : TyU P T (.pointer e)] (hx : ev F x = some (.pointer (some ad))) (hy : ev F y = some (.pointer none)) :
    QV P n F h L ⟨dst, .binOp .eql T x y T', ty, pos, af, gd⟩ (.bool false) := by
  refine .mk fun a w f s => ?_
  have hp : P.underlying T = some (.pointer (P.pointee T)) := by
    have := tu.u
    simp [Program.pointee, this]
  have hg : (eqGuard .eql T x y (.pointer (some ad)) (.pointer none)).run P w = .ok () w := by simp [eqGuard]
  have he := run_equal_pointer_nil (P := P) (w := w) T (some ad) hp
  simp only [execOp, f.ev hx, f.ev hy, Sem.run_bind, hg, Result.andThen_ok, binOp, he]
  rfl

theorem wrap_u64 {n : Int} (h0 : 0 ≤ n) (h1 : n < 18446744073709551616) : IntKind.u64.wrap n = n := by
  simp [IntKind.wrap, IntKind.bits, IntKind.signed]; omega

theorem BClone_sp (sv : Value) (l : List Int) (h : View) (hs : Bs8 h sv l) (hl : l.length ≤ 1000000) (w : World) (s : St ⟨w, h, []⟩ h [] w) :
    Calls Try.prog 68 [sv].toArray w fun e w' => ∃ v, e = .returned v ∧ St ⟨w, h, []⟩ h [rowB v l] w' ∧ True := by
  obtain ⟨_, ad, cap, rfl, hcap, _⟩ := id hs
  refine calls_enter Try.func68 rfl Try.ntmps68 rfl s ?_
  repeat' (first | (refine ycf ?_; apply ybk; (· first | (first | (apply qv_eql_slnil <;> rfl))); (· rfl); (· rfl)) | refine t1_ ?_ | (refine ta_ ?_; intro _) | ((fail_if_success (refine ybi rfl ?_)); refine ybj rfl ?_ ?_ <;> (intro ht; rw [ht]; first | replace ht := of_decide_eq_true ht | replace ht := of_decide_eq_false ht | skip)) | (refine ych ?_; first | (refine ybw rfl ?_ ?_ <;> intro ht) | (refine ybx rfl ?_ ?_ <;> intro ht)))
  · cases ad with
    | some ad => cases ht
    | none =>
      have h0 : l = [] := by
        obtain ⟨h1, ad', cap', h2, h3, h4⟩ := hs
        cases h2
        rcases h4 with h4 | ⟨b, o, cs, e, fz, q1, _⟩
        · have := congrArg List.length h4
          rw [bcs_len] at this
          exact List.eq_nil_of_length_eq_zero this
        · cases q1
      subst h0
      refine nx_ret1 rfl (rv_tmp rfl) (fun w' s' => ⟨_, rfl, ?_, trivial⟩)
      exact s'.rowNil _ _
  · refine yba ma_buildSlice0 rfl rfl rfl ybf (fun _ => ybf) ?_
    intro b
    refine rx_rowOf 1 0 0 (by omega) (by unfold maxLen; omega) rfl ?_
    repeat' (first | (refine ycf ?_; apply ybk; (· first | (first | (apply qv_eql_slnil <;> rfl))); (· rfl); (· rfl)) | refine t1_ ?_ | (refine ta_ ?_; intro _) | ((fail_if_success (refine ybi rfl ?_)); refine ybj rfl ?_ ?_ <;> (intro ht; rw [ht]; first | replace ht := of_decide_eq_true ht | replace ht := of_decide_eq_false ht | skip)) | (refine ych ?_; first | (refine ybw rfl ?_ ?_ <;> intro ht) | (refine ybx rfl ?_ ?_ <;> intro ht)))
    refine rx_append_sc (sz := 1) 0 rfl rfl rfl hs (bcs_one l) rfl (by omega) (by unfold maxLen; omega) (by omega) rfl rfl rfl ybf (fun _ => ybf) ?_
    intro v' _
    repeat' (first | (refine ycf ?_; apply ybk; (· first | (first | (apply qv_eql_slnil <;> rfl))); (· rfl); (· rfl)) | refine t1_ ?_ | (refine ta_ ?_; intro _) | ((fail_if_success (refine ybi rfl ?_)); refine ybj rfl ?_ ?_ <;> (intro ht; rw [ht]; first | replace ht := of_decide_eq_true ht | replace ht := of_decide_eq_false ht | skip)) | (refine ych ?_; first | (refine ybw rfl ?_ ?_ <;> intro ht) | (refine ybx rfl ?_ ?_ <;> intro ht)))
    refine nx_ret1 rfl (rv_tmp rfl) (fun w' s' => ⟨_, rfl, ?_, trivial⟩)
    simpa using s'

end Go.Proofs.Ytkkjppeaaicgaaa
end

section
namespace Go.Ck
open Go
set_option linter.unusedVariables false
set_option linter.unusedSimpArgs false
section
variable {P : Program} {n : Nat} {K : Bs} {F : List (Nat × Value)} {h : View} {L : List Res} {Q : Exit → Act → World → Prop}
variable {dst : Option Nat} {ty : Nat} {pos : String} {af : Array Edge} {gd : Option (Nat × Bool)}

theorem zero_len (cs : Array Value) (k : Nat) : (Builtin.zeroCells cs k).toList.length = k * cs.size := by
  simp [Builtin.zeroCells]
theorem zero_one {cs : Array Value} (h : cs.toList.all Value.oneCell' = true) (k : Nat) : ∀ u ∈ (Builtin.zeroCells cs k).toList, u.oneCell' = true := fun u hu => by
  obtain ⟨i, hi, rfl⟩ := List.getElem_of_mem hu
  have hi' : i < k * cs.size := by rw [zero_len] at hi; exact hi
  have hpos : 0 < cs.size := Nat.pos_of_ne_zero fun e => by rw [e] at hi'; omega
  simp only [Builtin.zeroCells, Array.toList_map, Array.toList_range, List.getElem_map, List.getElem_range]
  have hm : i % cs.size < cs.size := Nat.mod_lt _ hpos
  have := List.all_eq_true.1 h cs[i % cs.size] (by simp)
  simpa [Array.getElem!_eq_getD, Array.getD, hm] using this

theorem rx_clear {g : Rg} {i : Nat} {r : List (Nat × Oper)} {T e : Nat} {x : Operand} {b o sz m cap cap' len : Nat} {z : Value} {xs : List Value} (k : Nat) [tu : TyU P T (.slice e)] [tz : TyZ P e z] (hx : ev F x = some (.slice (some ⟨b, o, none⟩) len cap'))
    (hk : L[k]? = some (Res.row e sz (.slice (some ⟨b, 0, none⟩) m cap) m xs)) (hlen : 0 < len) (hz : z.cells.size = sz) (hfit : o + len * sz ≤ m * sz) (h1 : z.cells.toList.all Value.oneCell' = true)
    (hw : wantedF g.ops F ⟨dst, .call ⟨.builtin .clear, #[x], #[T]⟩, ty, pos, af, gd⟩ = some true) (hd : okd n dst = true) (hl : g.lo i = true) (o1 : Owe g i h L) (o2 : ∀ xs', Owe g i h (L.set k (Res.row e sz (.slice (some ⟨b, 0, none⟩) m cap) m xs')))
    (hn : ∀ xs', xs'.take o = xs.take o → RX P n K g r (putF dst (.tuple #[]) F) h (L.set k (Res.row e sz (.slice (some ⟨b, 0, none⟩) m cap) m xs')) Q) : RX P n K g ((i, ⟨dst, .call ⟨.builtin .clear, #[x], #[T]⟩, ty, pos, af, gd⟩) :: r) F h L Q := by
  unfold RX at *
  intro a w f s
  obtain ⟨vs, hvs⟩ : ∃ vs, vs = (Builtin.zeroCells z.cells len).toList := ⟨_, rfl⟩
  have hvl : vs.length = len * sz := by rw [hvs, zero_len, hz]
  have hv1 : ∀ u ∈ vs, u.oneCell' = true := by rw [hvs]; exact zero_one h1 len
  have ho : w.ownsRow 0 e sz (.slice (some ⟨b, 0, none⟩) m cap) m xs := s.hd.own _ (List.mem_of_getElem? hk)
  obtain ⟨q0, q1 | ⟨g', cap', cur, q1, q2, q3, q4, q5, q6, q7⟩⟩ := ho
  · cases q1.1
  cases q1
  have hms : m * sz ≤ cap * sz := Nat.mul_le_mul_right _ q4
  have hb : w.heap[b]? = some (.cells cur e (0, 0)) := q3
  have hrun : (execOp a.eval ⟨dst, .call ⟨.builtin .clear, #[x], #[T]⟩, ty, pos, af, gd⟩).run P w = .ok (.value (.tuple #[])) (w.setRow b (spl cur.toList o vs).toArray) := by
    have hst := run_storeCells_at P b o e vs 0 cur w hb (by simp; omega) hv1
    simp only [Nat.add_zero] at hst
    obtain ⟨len, rfl⟩ : ∃ q, len = q + 1 := ⟨len - 1, by omega⟩
    simp [execOp, resolve, invoke, builtin, f.ev hx, Builtin.clear_, run_underlying tu.u, tz.z, ← hvs, hst, spl]
  have s' : St K h (L.set k (Res.row e sz (.slice (some ⟨b, 0, none⟩) m cap) m (spl xs o vs))) (w.setRow b (spl cur.toList o vs).toArray) := by
    refine s.swap hk rfl rfl rfl (by simp) (by simp) (fun j hj hjd => setRow_other w b j _ (fun e' => hjd ?_)) ⟨?_, .inr ⟨b, cap, _, rfl, Nat.zero_le _, setRow_heap w b cur _ e _ hb, q4, q5, ?_, ?_⟩⟩ ?_ (fun x hx => .inl ?_)
    · simp [Res.row, Value.ownBlock, e']
    · rw [spl_len (by rw [q0]; omega), q0]
    · simp only [List.size_toArray]
      rw [spl_len (by simp; omega)]
      simp [q6]
    · rw [← q7]
      exact spl_take (by omega) (by simp; omega)
    · simp [Res.row, Value.ownBlock]
    · have hx : x = b := by simpa [Res.row, Value.ownBlock] using hx
      subst hx
      simp [Res.row, Value.ownBlock]
  refine .inr (.inr ⟨wantedF_ok f hw, hl, o1.out s, ?_⟩)
  unfold Oper.wp
  rw [hrun]
  refine ⟨(o2 _).out s', hn _ ?_ _ _ (f.put hd _) s'⟩
  unfold spl
  rw [List.append_assoc, List.take_append_of_le_length (by simp; omega), List.take_take, Nat.min_self]
/-- a row's length is at most its room -/
theorem cx_rowcap {c : Code} {e : TypeId} {sz m cap b : Nat} {xs : List Value} (k : Nat) (hk : L[k]? = some (Res.row e sz (.slice (some ⟨b, 0, none⟩) m cap) m xs)) (hx : m ≤ cap → CX P n K c F h L Q) : CX P n K c F h L Q := by
  unfold CX at *
  intro a w f s
  have ho : w.ownsRow 0 e sz (.slice (some ⟨b, 0, none⟩) m cap) m xs := s.hd.own _ (List.mem_of_getElem? hk)
  obtain ⟨q0, q1 | ⟨g', cap', cur, q1, q2, q3, q4, q5, q6, q7⟩⟩ := ho
  · cases q1.1
  cases q1
  exact hx q4 a w f s
end
end Go.Ck
end

section
namespace Go.Proofs.Ytkkjppeaaicgaaa
open Go Go.Ck
set_option maxRecDepth 100000
set_option maxHeartbeats 2000000
set_option linter.unusedVariables false

def num8 (x : Int) : List Int := (putLow 8 x).reverse
def num1 (x : Int) : List Int := (putLow 1 x).reverse
def encD (d : Dt) : List Int := num8 d.1 ++ num8 d.2
def encW (u : List Int) (l : List Dt) : List Int := u.flatMap num8 ++ num1 l.length ++ l.flatMap encD
theorem num8_len (x : Int) : (num8 x).length = 8 := by simp [num8, putLow_len]
theorem num1_len (x : Int) : (num1 x).length = 1 := by simp [num1, putLow_len]
theorem encU_len : ∀ u : List Int, (u.flatMap num8).length = 8 * u.length
  | [] => rfl
  | x :: u => by rw [List.flatMap_cons, List.length_append, num8_len, encU_len u, List.length_cons]; omega
theorem encD_len (d : Dt) : (encD d).length = 16 := by simp [encD, num8_len]
theorem encL_len : ∀ l : List Dt, (l.flatMap encD).length = 16 * l.length
  | [] => rfl
  | x :: l => by rw [List.flatMap_cons, List.length_append, encD_len, encL_len l, List.length_cons]; omega
theorem flat_succ {α β : Type} {f : α → List β} {l : List α} {k : Nat} (hk : k < l.length) : (l.take (k + 1)).flatMap f = (l.take k).flatMap f ++ f l[k] := by
  rw [List.take_succ_eq_append_getElem hk, List.flatMap_append]
  simp

end Go.Proofs.Ytkkjppeaaicgaaa
end

section
namespace Go.Proofs.Ytkkjppeaaicgaaa
open Go Go.Ck
set_option maxRecDepth 100000
set_option maxHeartbeats 2000000
set_option linter.unusedVariables false

def bstr (l : List Int) : ByteArray := ⟨(l.map fun n => UInt8.ofNat n.toNat).toArray⟩
theorem bstr_app (l m : List Int) : bstr l ++ bstr m = bstr (l ++ m) := by
  apply ByteArray.ext
  simp [bstr]
theorem foldl_push : ∀ (l : List Int) (r : ByteArray), l.foldl (fun r n => r.push (UInt8.ofNat n.toNat)) r = ⟨r.data ++ (l.map fun n => UInt8.ofNat n.toNat).toArray⟩
  | [], r => by simp
  | b :: l, r => by
    simp only [List.foldl_cons]
    rw [foldl_push l]
    simp [ByteArray.push]

section
variable {P : Program} {n : Nat} {F : List (Nat × Value)} {h : View} {L : List Res} {dst : Option Nat} {ty : Nat} {pos : String} {af : Array Edge} {gd : Option (Nat × Bool)}
theorem qv_str_of {S D e : Nat} {x : Operand} {ad : Addr} {cap : Nat} {l : List Int} [tS : TyU P S (.slice e)] [te : TyU P e (.int .u8)] [tD : TyU P D .string] (hx : ev F x = some (.slice (some ad) l.length cap)) (hc : Cells h L ad (bcs l)) :
    QV P n F h L ⟨dst, .convert S D x, ty, pos, af, gd⟩ (.string (bstr l)) := by
  refine .mk fun a w f s => ?_
  have hl := run_loadCells_cells (P := P) (w := w) (ad := ad) (vs := bcs l) (hc w s)
  rw [bcs_len] at hl
  have h1 := run_convert_bytes_string (P := P) w S D e (some ad) l.length cap tS.u te.u tD.u
  rw [run_bytesToString w ad l.length cap l hl, foldl_push] at h1
  have h2 : (⟨ByteArray.empty.data ++ (l.map fun n => UInt8.ofNat n.toNat).toArray⟩ : ByteArray) = bstr l := by
    have he0 : ByteArray.empty.data = #[] := rfl
    rw [he0, Array.empty_append]
    rfl
  rw [h2] at h1
  simp only [execOp, f.ev hx, Sem.run_bind, h1]
  rfl
theorem qv_str_add {T T' : Nat} {x y : Operand} {a b c : ByteArray} (hx : ev F x = some (.string a)) (hy : ev F y = some (.string b)) (hs : a ++ b = c) (hb : a.size + b.size < 1000000) :
    QV P n F h L ⟨dst, .binOp .add T x y T', ty, pos, af, gd⟩ (.string c) := by
  subst hs
  refine .mk fun ac w f s => ?_
  have hg : (eqGuard .add T x y (.string a) (.string b)).run P w = .ok () w := by simp [eqGuard]
  simp only [execOp, f.ev hx, f.ev hy, Sem.run_bind, hg, Result.andThen_ok, binOp, Op.stringOp]
  have hmax : IntKind.i64.max = 9223372036854775807 := by decide
  rw [if_neg (by rw [hmax]; omega)]
  rfl
theorem qv_quo {T T' : Nat} {x y : Operand} {k : IntKind} {i j r : Int} (hx : ev F x = some (.int k i)) (hy : ev F y = some (.int k j)) (hj : j ≠ 0) (hr : k.wrap (i.tdiv j) = r) :
    QV P n F h L ⟨dst, .binOp .quo T x y T', ty, pos, af, gd⟩ (.int k r) := by
  subst hr
  exact .mk fun a w f s => by simp [execOp, f.ev hx, f.ev hy, run_guard_int, binOp, Op.intDiv, hj]
theorem qv_rem' {T T' : Nat} {x y : Operand} {k : IntKind} {i j r : Int} (hx : ev F x = some (.int k i)) (hy : ev F y = some (.int k j)) (hj : j ≠ 0) (hr : i.tmod j = r) :
    QV P n F h L ⟨dst, .binOp .rem T x y T', ty, pos, af, gd⟩ (.int k r) := by subst hr; exact qv_rem hx hy hj
theorem qv_eql_str {T T' : Nat} {x y : Operand} {a b : ByteArray} {t : Bool} (hx : ev F x = some (.string a)) (hy : ev F y = some (.string b)) (ht : (a.toList == b.toList) = t) :
    QV P n F h L ⟨dst, .binOp .eql T x y T', ty, pos, af, gd⟩ (.bool t) := by
  subst ht
  refine .mk fun ac w f s => ?_
  have hg : (eqGuard .eql T x y (.string a) (.string b)).run P w = .ok () w := by simp [eqGuard]
  simp only [execOp, f.ev hx, f.ev hy, Sem.run_bind, hg, Result.andThen_ok, binOp, Op.stringOp]
  rfl
end
section
variable {P : Program} {n : Nat} {F : List (Nat × Value)} {h : View} {L : List Res} {dst : Option Nat} {ty : Nat} {pos : String} {af : Array Edge} {gd : Option (Nat × Bool)}
theorem qv_str_none {S D e : Nat} {x : Operand} {len cap : Nat} [tS : TyU P S (.slice e)] [te : TyU P e (.int .u8)] [tD : TyU P D .string] (hx : ev F x = some (.slice none len cap)) :
    QV P n F h L ⟨dst, .convert S D x, ty, pos, af, gd⟩ (.string (bstr [])) := by
  refine .mk fun a w f s => ?_
  have h1 := run_convert_bytes_string (P := P) w S D e none len cap tS.u te.u tD.u
  have h2 : (Conv.bytesToString (.slice none len cap)).run P w = .ok (.string (bstr [])) w := by
    unfold Conv.bytesToString
    rfl
  rw [h2] at h1
  simp only [execOp, f.ev hx, Sem.run_bind, h1]
  rfl
theorem qv_str_bs {S D e : Nat} {x : Operand} {v : Value} {l : List Int} [tS : TyU P S (.slice e)] [te : TyU P e (.int .u8)] [tD : TyU P D .string] (hx : ev F x = some v) (hs : Bs8 h v l) :
    QV P n F h L ⟨dst, .convert S D x, ty, pos, af, gd⟩ (.string (bstr l)) := by
  obtain ⟨_, ad, cap, rfl, _, _⟩ := id hs
  rcases hs.src (L := L) with ⟨hn, _⟩ | ⟨b, o, rfl, hc⟩
  · have hl : l = [] := by simpa [bcs] using hn
    subst hl
    cases ad with
    | none => exact qv_str_none hx
    | some ad => exact qv_str_of (l := []) hx (fun w _ j u hj => by simp [bcs] at hj)
  · exact qv_str_of hx hc
end
theorem bstr_size (l : List Int) : (bstr l).size = l.length := by simp [bstr, ByteArray.size]

end Go.Proofs.Ytkkjppeaaicgaaa
end

section
namespace Go.Proofs.Ytkkjppeaaicgaaa
open Go Go.Ck
set_option maxRecDepth 100000
set_option maxHeartbeats 2000000
set_option linter.unusedVariables false

end Go.Proofs.Ytkkjppeaaicgaaa
end

section
namespace Go.Ck
open Go
set_option linter.unusedVariables false
section
variable {P : Program} {n : Nat} {F : List (Nat × Value)} {h : View} {L : List Res} {dst : Option Nat} {ty : Nat} {pos : String} {af : Array Edge} {gd : Option (Nat × Bool)}
def cutF (ad : Option Addr) (cap i k : Nat) : Option Addr := if cap = i then ad else ad.map (·.add (i * k))
/-- x[i:] -/
theorem qv_slice_from {T e k : Nat} {x y : Operand} {ad : Option Addr} {len cap i : Nat} {ki : IntKind} [tu : TyU P T (.slice e)] [ts : TyS P e k] (hx : ev F x = some (.slice ad len cap)) (hy : ev F y = some (.int ki i)) (h1 : i ≤ len) :
    QV P n F h L ⟨dst, .slice T x (some y) none none, ty, pos, af, gd⟩ (.slice (cutF ad cap i k) (len - i) (cap - i)) := .mk fun a w f s => by
  have h2 : (0 : Int) ≤ (i : Int) ∧ (i : Int) ≤ (len : Int) := by omega
  simp [execOp, f.ev hx, f.ev hy, Instr.sliceAt, Instr.slice, Instr.sliceBounds, Instr.sliceBound, asIntOf, run_underlying tu.u, h2, ts.s, cutF]
  try omega
theorem sc_drop {k m cap j : Nat} {ad : Option Addr} {xs : List Value} (s : Sc h k (.slice ad m cap) m xs) (hk : 0 < k) (hj : j ≤ m) : Sc h k (.slice (cutF ad cap j k) (m - j) (cap - j)) (m - j) (xs.drop (j * k)) := by
  obtain ⟨q1, ad', cap', q2, q3, q4⟩ := s
  cases q2
  refine ⟨by rw [List.length_drop, q1, Nat.sub_mul], _, _, rfl, by omega, ?_⟩
  by_cases hm : j = m
  · exact .inl (List.drop_eq_nil_of_le (by rw [q1, hm]; omega))
  · rcases q4 with q4 | ⟨b, o, cs, e, fz, rfl, q6, q7⟩
    · exact .inl (by rw [q4]; simp)
    · refine .inr ⟨b, o + j * k, cs, e, fz, ?_, q6, fun t u ht => ?_⟩
      · unfold cutF
        rw [if_neg (by omega)]
        show some ((⟨b, o, none⟩ : Addr).add (j * k)) = _
        rw [Addr.add_off]
      · rw [List.getElem?_drop] at ht
        have := q7 _ _ ht
        rwa [← Nat.add_assoc] at this
theorem qv_shl {T T' : Nat} {x y : Operand} {k k' : IntKind} {i r : Int} {j : Nat} (hx : ev F x = some (.int k i)) (hy : ev F y = some (.int k' j)) (hj : j < k.bits) (hr : k.wrap (i * 2 ^ j) = r) :
    QV P n F h L ⟨dst, .binOp .shl T x y T', ty, pos, af, gd⟩ (.int k r) := by
  subst hr
  refine .mk fun a w f s => ?_
  have h0 : ¬ ((j : Int) < 0) := by omega
  have h1 : min j k.bits = j := by omega
  have hg : (eqGuard .shl T x y (.int k i) (.int k' j)).run P w = .ok () w := by simp [eqGuard]
  simp [execOp, f.ev hx, f.ev hy, hg, binOp, Op.shift, h0, h1]
theorem or_add {x c : Int} (hx : 0 ≤ x) (hxb : x * 256 < 18446744073709551616) (hc : 0 ≤ c ∧ c < 256) : IntKind.u64.wrap (((BitVec.ofInt 64 (x * 256)) ||| (BitVec.ofInt 64 c)).toNat : Int) = x * 256 + c := by
  obtain ⟨a, rfl⟩ := Int.eq_ofNat_of_zero_le hx
  obtain ⟨b, rfl⟩ := Int.eq_ofNat_of_zero_le hc.1
  have e1 : BitVec.ofInt 64 ((a : Int) * 256) = BitVec.ofNat 64 (a * 256) := by
    rw [show (a : Int) * 256 = ((a * 256 : Nat) : Int) by omega]; exact BitVec.ofInt_natCast 64 _
  have e2 : BitVec.ofInt 64 (b : Int) = BitVec.ofNat 64 b := BitVec.ofInt_natCast 64 _
  have hor : a * 256 ||| b = a * 256 + b := by
    have := Nat.two_pow_add_eq_or_of_lt (i := 8) (b := b) (by omega) a
    have e8 : (2 : Nat) ^ 8 = 256 := by decide
    rw [e8] at this
    rw [Nat.mul_comm a 256, ← this]
  rw [e1, e2, BitVec.toNat_or, BitVec.toNat_ofNat, BitVec.toNat_ofNat, Nat.mod_eq_of_lt (by omega), Nat.mod_eq_of_lt (by omega), hor]
  simp [IntKind.wrap, IntKind.bits, IntKind.signed]
  omega
theorem qv_or {T T' : Nat} {x y : Operand} {i j c r : Int} (hx : ev F x = some (.int .u64 i)) (hy : ev F y = some (.int .u64 c)) (hi : i = j * 256) (h0 : 0 ≤ j) (h1 : j * 256 < 18446744073709551616) (hc : 0 ≤ c ∧ c < 256) (hr : j * 256 + c = r) :
    QV P n F h L ⟨dst, .binOp .or T x y T', ty, pos, af, gd⟩ (.int .u64 r) := by
  subst hr
  subst hi
  have := or_add h0 h1 hc
  refine .mk fun a w f s => ?_
  simp only [execOp, f.ev hx, f.ev hy, Sem.run_bind, run_guard_int, Result.andThen_ok, binOp, Op.intBits]
  simp only [IntKind.bits] at this ⊢
  simp
  exact this
end
end Go.Ck
namespace Go.Proofs.Ytkkjppeaaicgaaa
open Go Go.Ck
set_option maxRecDepth 100000
set_option maxHeartbeats 2000000
set_option linter.unusedVariables false

def valB (l : List Int) : Int := l.foldl (fun x c => x * 256 + c) 0
def lookC (l : List Int) (size : Nat) (most : Int) : Int × Int := if l.length < size then (0, 3) else if most < valB (l.take size) then (0, 5) else (valB (l.take size), 0)
def numC (s : List Int × Int) (size : Nat) (most : Int) : Int × (List Int × Int) :=
  if s.2 ≠ 0 then (0, s) else if (lookC s.1 size most).2 = 0 then ((lookC s.1 size most).1, (s.1.drop size, 0)) else (0, (s.1, (lookC s.1 size most).2))
def Bytes (l : List Int) : Prop := ∀ b ∈ l, 0 ≤ b ∧ b < 256
theorem valB_succ {l : List Int} {k : Nat} (hk : k < l.length) : valB (l.take (k + 1)) = valB (l.take k) * 256 + l[k] := by
  unfold valB
  rw [List.take_succ_eq_append_getElem hk, List.foldl_append]
  rfl
theorem valB_bd {l : List Int} (hb : Bytes l) : ∀ k, k ≤ l.length → 0 ≤ valB (l.take k) ∧ valB (l.take k) < 256 ^ k := by
  intro k
  induction k with
  | zero => intro _; simp [valB]
  | succ k ih =>
    intro hk
    obtain ⟨h1, h2⟩ := ih (by omega)
    have h3 := hb l[k] (List.getElem_mem _)
    rw [valB_succ (by omega), Int.pow_succ]
    omega

theorem p256 {k m : Nat} (h : k ≤ m) : (256 : Int) ^ k ≤ 256 ^ m := by exact_mod_cast Nat.pow_le_pow_right (by decide) h

def endC (s : List Int × Int) : Int := if s.2 = 0 ∧ 0 < s.1.length then 4 else s.2
end Go.Proofs.Ytkkjppeaaicgaaa
end

section
namespace Go.Proofs.Ytkkjppeaaicgaaa
open Go Go.Ck
set_option maxRecDepth 100000
set_option maxHeartbeats 2000000
set_option linter.unusedVariables false

abbrev RS : Type := List Int × Int
def upsC : Nat → RS → List Int × RS
  | 0, s => ([], s)
  | k + 1, s => ((upsC k s).1 ++ [(numC (upsC k s).2 8 1099511627776).1], (numC (upsC k s).2 8 1099511627776).2)
def dsC : Nat → RS → List Dt × RS
  | 0, s => ([], s)
  | k + 1, s => ((dsC k s).1 ++ [((numC (dsC k s).2 8 1099511627776).1, (numC (numC (dsC k s).2 8 1099511627776).2 8 1099511627776).1)], (numC (numC (dsC k s).2 8 1099511627776).2 8 1099511627776).2)
def smC (l : List Int) : Int × RS := numC (upsC 16 (l, 0)).2 1 32
def rdC (l : List Int) : List Int × List Dt × RS := ((upsC 16 (l, 0)).1, (dsC (smC l).1.toNat (smC l).2).1, (dsC (smC l).1.toNat (smC l).2).2)

structure RsOk (s : RS) : Prop where
  b : Bytes s.1
  l : s.1.length ≤ 1000000
theorem RsOk.num {s : RS} (h : RsOk s) (size : Nat) (most : Int) : RsOk (numC s size most).2 := by
  unfold numC
  split
  · exact h
  · split
    · exact ⟨fun x hx => h.b x (List.mem_of_mem_drop hx), by have := h.l; simp only [List.length_drop]; omega⟩
    · exact ⟨h.b, h.l⟩
theorem numC_bd {s : RS} (h : RsOk s) {size : Nat} {most : Int} (hm : 0 ≤ most) : 0 ≤ (numC s size most).1 ∧ (numC s size most).1 ≤ most := by
  unfold numC
  split
  · exact ⟨Int.le_refl _, hm⟩
  · split
    · unfold lookC
      split
      · exact ⟨Int.le_refl _, hm⟩
      · rename_i _ _ hs
        split
        · exact ⟨Int.le_refl _, hm⟩
        · have := valB_bd h.b size (by omega)
          exact ⟨this.1, by dsimp only; omega⟩
    · exact ⟨Int.le_refl _, hm⟩
theorem upsC_ok {s : RS} (h : RsOk s) : ∀ k, RsOk (upsC k s).2 ∧ (upsC k s).1.length = k
  | 0 => ⟨h, rfl⟩
  | k + 1 => ⟨(upsC_ok h k).1.num _ _, by simp [upsC, (upsC_ok h k).2]⟩
theorem dsC_ok {s : RS} (h : RsOk s) : ∀ k, RsOk (dsC k s).2 ∧ (dsC k s).1.length = k
  | 0 => ⟨h, rfl⟩
  | k + 1 => ⟨((dsC_ok h k).1.num _ _).num _ _, by simp [dsC, (dsC_ok h k).2]⟩

def padU (us : List Int) : List Int := us ++ List.replicate (16 - us.length) 0
theorem padU_len {us : List Int} (h : us.length ≤ 16) : (padU us).length = 16 := by simp [padU]; omega
theorem padU_set {us : List Int} {x : Int} {k : Nat} (hk : us.length = k) (h : k < 16) : (padU us).set k x = padU (us ++ [x]) := by
  subst hk
  unfold padU
  rw [List.set_append_right _ _ (Nat.le_refl _), Nat.sub_self, show 16 - us.length = (16 - (us ++ [x]).length) + 1 by simp; omega, List.replicate_succ, List.set_cons_zero]
  simp
theorem padU_full {us : List Int} (h : us.length = 16) : padU us = us := by simp [padU, h]

end Go.Proofs.Ytkkjppeaaicgaaa
end
