/-
  DotJa: Add and Join, the program's and the document's, told in one form.
  Conditions: each theorem states its own.
-/
import Derived.Test.YtbpahaciegfpfaaCkFloat
import Derived.Test.YtbpahaciegfpfaaDotZ
namespace Go.Proofs.Ytbpahaciegfpfaa
open Go Go.Ck
set_option maxRecDepth 100000
set_option maxHeartbeats 2000000
set_option linter.unusedVariables false

/-- what comes of an Add or a Join: an error, or the context of a set -/
def OutC (er : Int) (bad : Prop) (S : Dt → Bool) (cu : List Int) (cl : List Dt) : Prop :=
  (bad ∧ er = 1 ∧ cu = zeroU ∧ cl = []) ∨ (¬ bad ∧ ∃ U T, Inv U T ∧ (∀ x, rightB x = true → hasC U T x = S x) ∧ ((32 < T.length ∧ er = 11 ∧ cu = zeroU ∧ cl = []) ∨ (T.length ≤ 32 ∧ er = 0 ∧ cu = U ∧ cl = T)))
theorem OutC.same {er er' : Int} {bad : Prop} {S : Dt → Bool} {cu cu' : List Int} {cl cl' : List Dt} (h1 : OutC er bad S cu cl) (h2 : OutC er' bad S cu' cl') : er = er' ∧ cu = cu' ∧ cl = cl' := by
  rcases h1 with ⟨b, e1, e2, e3⟩ | ⟨b, U, T, i1, s1, o1⟩
  · rcases h2 with ⟨_, f1, f2, f3⟩ | ⟨b', _⟩
    · rw [e1, e2, e3, f1, f2, f3]; exact ⟨rfl, rfl, rfl⟩
    · exact absurd b b'
  · rcases h2 with ⟨b', _⟩ | ⟨_, U', T', i2, s2, o2⟩
    · exact absurd b' b
    · obtain ⟨rfl, rfl⟩ := ctx_uniq i1 i2 (fun x hx => by rw [s1 x hx, s2 x hx])
      rcases o1 with ⟨k1, e1, e2, e3⟩ | ⟨k1, e1, e2, e3⟩ <;> rcases o2 with ⟨k2, f1, f2, f3⟩ | ⟨k2, f1, f2, f3⟩
      · rw [e1, e2, e3, f1, f2, f3]; exact ⟨rfl, rfl, rfl⟩
      · omega
      · omega
      · rw [e1, e2, e3, f1, f2, f3]; exact ⟨rfl, rfl, rfl⟩
theorem OutC.len {er : Int} {bad : Prop} {S : Dt → Bool} {cu : List Int} {cl : List Dt} (h : OutC er bad S cu cl) : cl.length ≤ 32 := by
  rcases h with ⟨_, _, _, rfl⟩ | ⟨_, U, T, _, _, ⟨_, _, _, rfl⟩ | ⟨k, _, _, rfl⟩⟩
  · simp
  · simp
  · exact k

theorem add2_sp (cv : Value) (u : List Int) (l : List Dt) (d : Dt) (h : View) (hc : Cx h cv u l) (hl : l.length ≤ 1000) (w : World) (s : St ⟨w, h, []⟩ h [] w) :
    Calls Try.prog 9 [cv, dv d].toArray w fun e w' => ∃ x : View × Value × Int × List Int × List Dt, e = .returned (.tuple #[x.2.1, .int .i64 x.2.2.1]) ∧ St ⟨w, h, []⟩ x.1 [] w' ∧ Cx x.1 x.2.1 x.2.2.2.1 x.2.2.2.2 ∧
      OutC x.2.2.1 (checkC u l ≠ 0 ∨ rightB d = false) (fun y => hasC u l y || decide (y = d)) x.2.2.2.1 x.2.2.2.2 := by
  have hu := hc.len
  refine (Add_sp cv u l d h hc (by omega) w s).mono ?_
  rintro e w' ⟨⟨h4, v4, srt, er⟩, he, hs, px⟩
  dsimp only at he hs px
  by_cases hb : checkC u l ≠ 0 ∨ rightB d = false
  · rw [if_pos hb] at px
    exact ⟨(h4, v4, er, zeroU, []), he, hs, px.2, .inl ⟨hb, px.1, rfl, rfl⟩⟩
  · rw [if_neg hb] at px
    obtain ⟨p1, p2, p3⟩ := px
    have hk : checkC u l = 0 := Decidable.byContradiction fun h => hb (.inl h)
    have hR : rightB d = true := by
      cases hq : rightB d with
      | true => rfl
      | false => exact absurd (.inr hq) hb
    obtain ⟨g1, g2, g3⟩ := add_inv hu hk hR p1 p2
    by_cases hlen : 32 < (tfold u srt).2.length
    · rw [if_pos hlen] at p3
      exact ⟨(h4, v4, er, zeroU, []), he, hs, p3.2, .inr ⟨hb, _, _, g1, g3, .inl ⟨hlen, p3.1, rfl, rfl⟩⟩⟩
    · rw [if_neg hlen] at p3
      exact ⟨(h4, v4, er, _, _), he, hs, p3.2, .inr ⟨hb, _, _, g1, g3, .inr ⟨Nat.le_of_not_lt hlen, p3.1, rfl, rfl⟩⟩⟩

theorem join2_sp (cv dvv : Value) (u v : List Int) (l m : List Dt) (h : View) (hc : Cx h cv u l) (hd : Cx h dvv v m) (hl : l.length ≤ 1000) (hm : m.length ≤ 1000) (w : World) (s : St ⟨w, h, []⟩ h [] w) :
    Calls Try.prog 17 [cv, dvv].toArray w fun e w' => ∃ x : View × Value × Int × List Int × List Dt, e = .returned (.tuple #[x.2.1, .int .i64 x.2.2.1]) ∧ St ⟨w, h, []⟩ x.1 [] w' ∧ Cx x.1 x.2.1 x.2.2.2.1 x.2.2.2.2 ∧
      OutC x.2.2.1 (checkC u l ≠ 0 ∨ checkC v m ≠ 0) (fun y => hasC u l y || hasC v m y) x.2.2.2.1 x.2.2.2.2 := by
  have hu := hc.len
  have hv := hd.len
  refine (Join_sp cv dvv u v l m h hc hd (by omega) (by omega) w s).mono ?_
  rintro e w' ⟨⟨h4, v4, srt, er⟩, he, hs, px⟩
  dsimp only at he hs px
  by_cases hb : checkC u l ≠ 0 ∨ checkC v m ≠ 0
  · rw [if_pos hb] at px
    exact ⟨(h4, v4, er, zeroU, []), he, hs, px.2, .inl ⟨hb, px.1, rfl, rfl⟩⟩
  · rw [if_neg hb] at px
    obtain ⟨p1, p2, p3⟩ := px
    have k1 : checkC u l = 0 := Decidable.byContradiction fun h => hb (.inl h)
    have k2 : checkC v m = 0 := Decidable.byContradiction fun h => hb (.inr h)
    obtain ⟨g1, g3⟩ := join_inv (inv_check hu k1) (inv_check hv k2) p1 p2
    by_cases hlen : 32 < (tfold (maxU u v) srt).2.length
    · rw [if_pos hlen] at p3
      exact ⟨(h4, v4, er, zeroU, []), he, hs, p3.2, .inr ⟨hb, _, _, g1, g3, .inl ⟨hlen, p3.1, rfl, rfl⟩⟩⟩
    · rw [if_neg hlen] at p3
      exact ⟨(h4, v4, er, _, _), he, hs, p3.2, .inr ⟨hb, _, _, g1, g3, .inr ⟨Nat.le_of_not_lt hlen, p3.1, rfl, rfl⟩⟩⟩
end Go.Proofs.Ytbpahaciegfpfaa
