/-
  Part 9 of a proof: CkClear DotR SbA SbB SbC.
  Conditions: each theorem states its own.
-/
import Derived.Lib.SliceRun
import Derived.Test.YtkkjppeaaicgaaaGreatDoorSrGPM8
section
namespace Go.Ck
open Go
set_option linter.unusedVariables false
set_option linter.unusedSimpArgs false
section
variable {P : Program} {n : Nat} {K : Bs} {F : List (Nat × Value)} {h : View} {L : List Res} {Q : Exit → Act → World → Prop}
variable {dst : Option Nat} {ty : Nat} {pos : String} {af : Array Edge} {gd : Option (Nat × Bool)}
theorem zero_len (cs : Array Value) (k : Nat) : (Builtin.zeroCells cs k).toList.length = k * cs.size := by
  simp [Builtin.zeroCells]
theorem zero_one {cs : Array Value} (h : cs.toList.all Value.oneCell' = true) (k : Nat) : ∀ u ∈ (Builtin.zeroCells cs k).toList, u.oneCell' = true := fun u hu => by
  obtain ⟨i, hi, rfl⟩ := List.getElem_of_mem hu
  have hi' : i < k * cs.size := by rw [zero_len] at hi; exact hi
  have hpos : 0 < cs.size := Nat.pos_of_ne_zero fun e => by rw [e] at hi'; omega
  simp only [Builtin.zeroCells, Array.toList_map, Array.toList_range, List.getElem_map, List.getElem_range]
  have hm : i % cs.size < cs.size := Nat.mod_lt _ hpos
  have := List.all_eq_true.1 h cs[i % cs.size] (by simp)
  simpa [Array.getElem!_eq_getD, Array.getD, hm] using this
theorem rx_clear {g : Rg} {i : Nat} {r : List (Nat × Oper)} {T e : Nat} {x : Operand} {b o sz m cap cap' len : Nat} {z : Value} {xs : List Value} (k : Nat) [tu : TyU P T (.slice e)] [tz : TyZ P e z] (hx : ev F x = some (.slice (some ⟨b, o, none⟩) len cap'))
    (hk : L[k]? = some (Res.row e sz (.slice (some ⟨b, 0, none⟩) m cap) m xs)) (hlen : 0 < len) (hz : z.cells.size = sz) (hfit : o + len * sz ≤ m * sz) (h1 : z.cells.toList.all Value.oneCell' = true)
    (hw : wantedF g.ops F ⟨dst, .call ⟨.builtin .clear, #[x], #[T]⟩, ty, pos, af, gd⟩ = some true) (hd : okd n dst = true) (hl : g.lo i = true) (o1 : Owe g i h L) (o2 : ∀ xs', Owe g i h (L.set k (Res.row e sz (.slice (some ⟨b, 0, none⟩) m cap) m xs')))
    (hn : ∀ xs', xs'.take o = xs.take o → RX P n K g r (putF dst (.tuple #[]) F) h (L.set k (Res.row e sz (.slice (some ⟨b, 0, none⟩) m cap) m xs')) Q) : RX P n K g ((i, ⟨dst, .call ⟨.builtin .clear, #[x], #[T]⟩, ty, pos, af, gd⟩) :: r) F h L Q := by
  unfold RX at *
  intro a w f s
  obtain ⟨vs, hvs⟩ : ∃ vs, vs = (Builtin.zeroCells z.cells len).toList := ⟨_, rfl⟩
  have hvl : vs.length = len * sz := by rw [hvs, zero_len, hz]
  have hv1 : ∀ u ∈ vs, u.oneCell' = true := by rw [hvs]; exact zero_one h1 len
  have ho : w.ownsRow 0 e sz (.slice (some ⟨b, 0, none⟩) m cap) m xs := s.hd.own _ (List.mem_of_getElem? hk)
  obtain ⟨q0, q1 | ⟨g', cap', cur, q1, q2, q3, q4, q5, q6, q7⟩⟩ := ho
  · cases q1.1
  cases q1
  have hms : m * sz ≤ cap * sz := Nat.mul_le_mul_right _ q4
  have hb : w.heap[b]? = some (.cells cur e (0, 0)) := q3
  have hrun : (execOp a.eval ⟨dst, .call ⟨.builtin .clear, #[x], #[T]⟩, ty, pos, af, gd⟩).run P w = .ok (.value (.tuple #[])) (w.setRow b (spl cur.toList o vs).toArray) := by
    have hst := run_storeCells_at P b o e vs 0 cur w hb (by simp; omega) hv1
    simp only [Nat.add_zero] at hst
    obtain ⟨len, rfl⟩ : ∃ q, len = q + 1 := ⟨len - 1, by omega⟩
    simp [execOp, resolve, invoke, builtin, f.ev hx, Builtin.clear_, run_underlying tu.u, tz.z, ← hvs, hst, spl]
  have s' : St K h (L.set k (Res.row e sz (.slice (some ⟨b, 0, none⟩) m cap) m (spl xs o vs))) (w.setRow b (spl cur.toList o vs).toArray) := by
    refine s.swap hk rfl rfl rfl (by simp) (by simp) (fun j hj hjd => setRow_other w b j _ (fun e' => hjd ?_)) ⟨?_, .inr ⟨b, cap, _, rfl, Nat.zero_le _, setRow_heap w b cur _ e _ hb, q4, q5, ?_, ?_⟩⟩ ?_ (fun x hx => .inl ?_)
    · simp [Res.row, Value.ownBlock, e']
    · rw [spl_len (by rw [q0]; omega), q0]
    · simp only [List.size_toArray]
      rw [spl_len (by simp; omega)]
      simp [q6]
    · rw [← q7]
      exact spl_take (by omega) (by simp; omega)
    · simp [Res.row, Value.ownBlock]
    · have hx : x = b := by simpa [Res.row, Value.ownBlock] using hx
      subst hx
      simp [Res.row, Value.ownBlock]
  refine .inr (.inr ⟨wantedF_ok f hw, hl, o1.out s, ?_⟩)
  unfold Oper.wp
  rw [hrun]
  refine ⟨(o2 _).out s', hn _ ?_ _ _ (f.put hd _) s'⟩
  unfold spl
  rw [List.append_assoc, List.take_append_of_le_length (by simp; omega), List.take_take, Nat.min_self]
theorem cx_rowcap {c : Code} {e : TypeId} {sz m cap b : Nat} {xs : List Value} (k : Nat) (hk : L[k]? = some (Res.row e sz (.slice (some ⟨b, 0, none⟩) m cap) m xs)) (hx : m ≤ cap → CX P n K c F h L Q) : CX P n K c F h L Q := by
  unfold CX at *
  intro a w f s
  have ho : w.ownsRow 0 e sz (.slice (some ⟨b, 0, none⟩) m cap) m xs := s.hd.own _ (List.mem_of_getElem? hk)
  obtain ⟨q0, q1 | ⟨g', cap', cur, q1, q2, q3, q4, q5, q6, q7⟩⟩ := ho
  · cases q1.1
  cases q1
  exact hx q4 a w f s
end
end Go.Ck
end

section
namespace Go.Proofs.YtkkjppeaaicgaaaGreatDoor
open Go Go.Ck Go.Shelf
set_option maxRecDepth 100000
set_option maxHeartbeats 1000000
set_option linter.unusedVariables false
def AddR (h : View) (v : Value) (er : Int) (u : List Int) (l : List Dt) (d : Dt) (u' : List Int) (l' : List Dt) : Prop :=
  Cx h v u' l' ∧ ((rightB d = false ∧ er = 1) ∨ (rightB d = true ∧ er = 0 ∧ Inv u' l' ∧ l'.length ≤ l.length + 1 ∧ ∀ x, rightB x = true → hasC u' l' x = (hasC u l x || decide (x = d))))
theorem Add_in (cv : Value) (u : List Int) (l : List Dt) (d : Dt) (h : View) (hc : Cx h cv u l) (hi : Inv u l) (hl : l.length < 32) (w : World) (s : St ⟨w, h, []⟩ h [] w) :
    Calls Tryz.prog 32 [cv, dv d].toArray w fun e w' => ∃ x : View × Value × Int × List Int × List Dt, e = .returned (.tuple #[x.2.1, .int .i64 x.2.2.1]) ∧ St ⟨w, h, []⟩ x.1 [] w' ∧ AddR x.1 x.2.1 x.2.2.1 u l d x.2.2.2.1 x.2.2.2.2 := by
  refine (Add_sp cv u l d h hc (by omega) w s).mono ?_
  rintro e w' ⟨⟨h4, v4, srt, er⟩, he, hs, px⟩
  dsimp only at he hs px
  have hk : checkC u l = 0 := check_inv hi (by omega)
  cases hR : rightB d with
  | false =>
    rw [if_pos (.inr hR)] at px
    exact ⟨(h4, v4, er, zeroU, []), he, hs, px.2, .inl ⟨hR, px.1⟩⟩
  | true =>
    rw [if_neg (by simp [hk, hR])] at px
    obtain ⟨p1, p2, p3⟩ := px
    obtain ⟨g1, g2, g3⟩ := add_inv hi.len hk hR p1 p2
    rw [if_neg (by omega)] at p3
    exact ⟨(h4, v4, er, _, _), he, hs, p3.2, .inr ⟨hR, p3.1, g1, g2, g3⟩⟩
structure GSt where
  k : Nat
  h : View
  ua : List Int
  la : List Dt
  va : Value
  ub : List Int
  lb : List Dt
  vb : Value
structure GOk (h0 : View) (L : List Dt) (g : GSt) : Prop where
  kl : g.k ≤ L.length
  le : Le h0 g.h
  ca : Inv g.ua g.la
  cb : Inv g.ub g.lb
  na : g.la.length ≤ g.k
  nb : g.lb.length ≤ g.k
  da : Ds g.h g.va g.la
  db : Ds g.h g.vb g.lb
  sa : ∀ x, rightB x = true → hasC g.ua g.la x = decide (x ∈ L.take g.k)
  sb : ∀ x, rightB x = true → hasC g.ub g.lb x = decide (x ∈ L.reverse.take g.k)
end Go.Proofs.YtkkjppeaaicgaaaGreatDoor
end

section
namespace Go.Proofs.YtkkjppeaaicgaaaGreatDoor
open Go Go.Ck
set_option maxRecDepth 100000
set_option maxHeartbeats 2000000
set_option linter.unusedVariables false
structure Sb where
  d : Dt
  u : List Int
  hu : u.length = 16
  l : List Dt
  mv : Value
  b : List Int
  bv : Value
def sbc (s : Sb) : List Value := dcs s.d ++ (cxc s.u s.mv ++ [s.bv])
def sbv (s : Sb) : Value := .agg (sbc s).toArray
theorem sbc_len (s : Sb) : (sbc s).length = 20 := by
  have := ycj (mv := s.mv) s.hu
  simp [sbc, dcs_len, this]
structure Sv (h : View) (s : Sb) : Prop where
  ds : Ds h s.mv s.l
  bs : Bs8 h s.bv s.b
  by8 : Bytes s.b
theorem Sv.mono {h h' : View} {s : Sb} (v : Sv h s) (hl : Le h h') : Sv h' s := ⟨v.ds.mono hl, v.bs.mono hl, v.by8⟩
abbrev Ab := Dt × List Int × List Dt × List Int
def Sb.a (s : Sb) : Ab := (s.d, s.u, s.l, s.b)
def Ss (h : View) (v : Value) (l : List Sb) : Prop := Sc h 20 v l.length (l.flatMap sbc) ∧ ∀ s ∈ l, Sv h s
theorem Ss.mono {h h' : View} {v : Value} {l : List Sb} (s : Ss h v l) (hl : Le h h') : Ss h' v l := ⟨s.1.mono hl, fun x hx => (s.2 x hx).mono hl⟩
def hasA (a : Ab) (d : Dt) : Bool := decide (checkC a.2.1 a.2.2.1 = 0) && rightB d && hasC a.2.1 a.2.2.1 d
def rightA (a : Ab) : Bool := rightB a.1 && (decide (checkC a.2.1 a.2.2.1 = 0) && (!hasA a a.1 && decide ((a.2.2.2.length : Int) ≤ 16384)))
section
variable {h : View} {L : List Res} {b o : Nat} {s : Sb}
theorem sb_past (c : Cells h L ⟨b, o, none⟩ (sbc s)) : Cells h L ⟨b, o + 2, none⟩ (cxc s.u s.mv) := by
  have h1 := (c.drop 2).take 17
  have h2 : ((sbc s).drop 2).take 17 = cxc s.u s.mv := by
    show (cxc s.u s.mv ++ [s.bv]).take 17 = _
    rw [List.take_append_of_le_length (by rw [ycj s.hu]; omega), List.take_of_length_le (by rw [ycj s.hu]; omega)]
  rwa [h2] at h1
theorem sb_dot (c : Cells h L ⟨b, o, none⟩ (sbc s)) : Cells h L ⟨b, o, none⟩ (dcs s.d) := c.take 2
theorem sb_cl (c : Cells h L ⟨b, o, none⟩ (sbc s)) : CellAt h L b (o + 0) (.int .i64 s.d.1) := c.cell rfl
theorem sb_nu (c : Cells h L ⟨b, o, none⟩ (sbc s)) : CellAt h L b (o + 1) (.int .i64 s.d.2) := c.cell rfl
theorem sb_body (c : Cells h L ⟨b, o, none⟩ (sbc s)) : CellAt h L b (o + 19) s.bv := by
  refine c.cell ?_
  show (cxc s.u s.mv ++ [s.bv])[17]? = _
  rw [List.getElem?_append_right (by rw [ycj s.hu]; omega), ycj s.hu]
  rfl
theorem sb_body' {v : Value} (c : Cells h L ⟨b, o, none⟩ (sbc s)) (e : s.bv = v) : CellAt h L b (o + 19) v := e ▸ sb_body c
end
theorem sbc_sz (s : Sb) : (Value.agg (sbc s).toArray).cells.size = 20 := by
  show (sbc s).toArray.size = 20
  simpa using sbc_len s
theorem sbc_fit {s : Sb} {cs : Array Value} (h : cs.size = 20) : 0 + (Value.agg (sbc s).toArray).cells.size ≤ cs.size := by rw [sbc_sz, h]; omega
theorem sbc_all {s : Sb} {cs : List Value} (h : cs.length = 20) : (Value.agg (sbc s).toArray).cells.toList.length = cs.length := by
  rw [h]
  exact sbc_len s
theorem sbc_one {s : Sb} (h1 : s.mv.oneCell' = true) (h2 : s.bv.oneCell' = true) : (Value.agg (sbc s).toArray).cells.toList.all Value.oneCell' = true := by
  show (sbc s).all Value.oneCell' = true
  have h3 := cxc_one (u := s.u) h1
  have h4 : (cxc s.u s.mv).all Value.oneCell' = true := h3
  simp only [sbc, List.all_append, h4, List.all_cons, List.all_nil, h2, Bool.and_true, dcs]
  rfl
theorem Sv.one {h : View} {s : Sb} (v : Sv h s) : s.mv.oneCell' = true ∧ s.bv.oneCell' = true := by
  obtain ⟨_, _, _, e1, _⟩ := v.ds
  obtain ⟨_, _, _, e2, _⟩ := v.bs
  rw [e1, e2]
  exact ⟨rfl, rfl⟩
theorem sorder_sp (x y : Sb) (h : View) (w : World) (s : St ⟨w, h, []⟩ h [] w) :
    Calls Tryz.prog 36 [sbv x, sbv y].toArray w fun e w' => e = .returned (.int .i64 (ordD x.d y.d)) ∧ St ⟨w, h, []⟩ h [] w' := by
  refine calls_enter Tryz.func36 rfl Tryz.ntmps36 rfl s ?_
  repeat' (first|refine tw_ ?_|(refine ta_ ?_;intro _)|((fail_if_success (refine ybi rfl ?_));refine ybj rfl ?_ ?_<;>(intro ht;rw [ht];first|replace ht := oet_ ht|replace ht := oef_ ht|skip))|(refine ych ?_;first|(refine ybw rfl ?_ ?_<;>intro ht)|(refine ybx rfl ?_ ?_<;>intro ht)))
  refine cx_region_draw' rfl (by kernel_rfl) ?_
  repeat' (refine ycf ?_;(first|refine tz_ ?_|((fail_if_success (refine ybi rfl ?_));refine ybj rfl ?_ ?_<;>(intro ht;rw [ht];first|replace ht := oet_ ht|replace ht := oef_ ht|skip))|(refine tb_ ?_ ?_ ?_;(·exact to_);(·intro _;exact to_);intro _)|refine ycg ?_))
  (refine ycn (ycp Tryz.func31 rfl (by kernel_rfl) rfl) (compare_sp _ _ h) rfl rfl rfl ?_ ?_; (· (exact to_)))
  repeat' (refine ycf ?_;(first|refine tz_ ?_|((fail_if_success (refine ybi rfl ?_));refine ybj rfl ?_ ?_<;>(intro ht;rw [ht];first|replace ht := oet_ ht|replace ht := oef_ ht|skip))|(refine tb_ ?_ ?_ ?_;(·exact to_);(·intro _;exact to_);intro _)|refine ycg ?_))
  (refine ycn (ycp Tryz.func31 rfl (by kernel_rfl) rfl) (compare_sp _ _ h) rfl rfl rfl ?_ ?_; (· (exact to_)))
  repeat' (refine ycf ?_;(first|refine tz_ ?_|((fail_if_success (refine ybi rfl ?_));refine ybj rfl ?_ ?_<;>(intro ht;rw [ht];first|replace ht := oet_ ht|replace ht := oef_ ht|skip))|(refine tb_ ?_ ?_ ?_;(·exact to_);(·intro _;exact to_);intro _)|refine ycg ?_))
  (refine rx_call_m (ycp Tryz.func30 rfl (by kernel_rfl) rfl) (perm_at (k := 0) rfl) (or2_sp _ _ _ _ h) rfl rfl rfl ?_ ?_ ?_; (· (exact to_)); (· intro _ _ hle; (exact to_)); intro x px hle)
  repeat' (refine ycf ?_;(first|refine tz_ ?_|((fail_if_success (refine ybi rfl ?_));refine ybj rfl ?_ ?_<;>(intro ht;rw [ht];first|replace ht := oet_ ht|replace ht := oef_ ht|skip))|(refine tb_ ?_ ?_ ?_;(·exact to_);(·intro _;exact to_);intro _)|refine ycg ?_))
  repeat' (first|refine tw_ ?_|(refine ta_ ?_;intro _)|((fail_if_success (refine ybi rfl ?_));refine ybj rfl ?_ ?_<;>(intro ht;rw [ht];first|replace ht := oet_ ht|replace ht := oef_ ht|skip))|(refine ych ?_;first|(refine ybw rfl ?_ ?_<;>intro ht)|(refine ybx rfl ?_ ?_<;>intro ht)))
  exact nx_ret1 rfl (rv_tmp rfl) (fun w' s' => ⟨rfl, s'.nil⟩)
theorem inv_zero : Inv zeroU [] := ⟨rfl, fun x hx => by rw [List.eq_of_mem_replicate hx]; decide, by simp, by simp⟩
theorem Add_zero (d : Dt) (h : View) (w : World) (s : St ⟨w, h, []⟩ h [] w) :
    Calls Tryz.prog 32 [cxv zeroU (.slice none 0 0), dv d].toArray w fun e w' => ∃ x : View × Value × List Int × List Dt, e = .returned (.tuple #[x.2.1, .int .i64 (if rightB d = true then 0 else 1)]) ∧ St ⟨w, h, []⟩ x.1 [] w' ∧ Cx x.1 x.2.1 x.2.2.1 x.2.2.2 := by
  refine (Add_in _ zeroU [] d h ⟨rfl, _, rfl, Sc.nil h 2 none 0⟩ inv_zero (by decide) w s).mono ?_
  rintro e w' ⟨⟨h4, v4, er, u', l'⟩, he, hs, px⟩
  dsimp only at he hs px
  rcases px.2 with ⟨hr, h1⟩ | ⟨hr, h1, _⟩
  · exact ⟨(h4, v4, u', l'), by rw [he, hr, h1]; rfl, hs, px.1⟩
  · exact ⟨(h4, v4, u', l'), by rw [he, hr, h1]; rfl, hs, px.1⟩
theorem sright_sp (z : Sb) (h : View) (hx : Sv h z) (hl : z.l.length ≤ 4611686018427387904) (w : World) (s : St ⟨w, h, []⟩ h [] w) :
    Calls Tryz.prog 35 [sbv z].toArray w fun e w' => e = .returned (.bool (rightA z.a)) ∧ St ⟨w, h, []⟩ h [] w' := by
  obtain ⟨_, ab, capb, hbv, _, _⟩ := id hx.bs
  refine calls_enter Tryz.func35 rfl Tryz.ntmps35 rfl s ?_
  repeat' (first|(refine ycf ?_;apply ybk;(·first|(first|(apply yad;(·rfl);(·exact sb_past (yaz 1 rfl));(·exact ycj z.hu))|(apply yad;(·rfl);(·exact sb_dot (yaz 1 rfl));(·rfl))|(apply yad;(·rfl);(·exact sb_past (yaz 2 rfl));(·exact ycj z.hu))|(apply yad;(·rfl);(·exact sb_dot (yaz 2 rfl));(·rfl))));(·rfl);(·rfl))|refine t1_ ?_|(refine ta_ ?_;intro _)|((fail_if_success (refine ybi rfl ?_));refine ybj rfl ?_ ?_<;>(intro ht;rw [ht];first|replace ht := oet_ ht|replace ht := oef_ ht|skip))|(refine ych ?_;first|(refine ybw rfl ?_ ?_<;>intro ht)|(refine ybx rfl ?_ ?_<;>intro ht)))
  (refine yco (ycp Tryz.func32 rfl (by kernel_rfl) rfl) (Add_zero z.d h) rfl rfl rfl ?_ ?_ ?_; (· (exact to_)); (· intro _ _ hle; (exact to_)); intro x px hle)
  obtain ⟨h1, v1, u1, l1⟩ := x
  replace hle : Le h h1 := hle
  have hc1 : Cx h1 (cxv z.u z.mv) z.u z.l := ⟨z.hu, _, rfl, hx.ds.mono hle⟩
  have c1 : Cx h1 v1 u1 l1 := px
  clear px hle
  obtain ⟨hu1, x1, rfl, s1⟩ := c1
  have ea : rightA z.a = (rightB z.d && (decide (checkC z.u z.l = 0) && (!(decide (checkC z.u z.l = 0) && rightB z.d && hasC z.u z.l z.d) && decide ((z.b.length : Int) ≤ 16384)))) := rfl
  rw [ea]
  cases hR : rightB z.d with
  | false =>
    repeat' (first|(refine ycf ?_;apply ybk;(·first|(first|(apply yad;(·rfl);(·exact sb_past (yaz 1 rfl));(·exact ycj z.hu))|(apply yad;(·rfl);(·exact sb_dot (yaz 1 rfl));(·rfl))|(apply yad;(·rfl);(·exact sb_past (yaz 2 rfl));(·exact ycj z.hu))|(apply yad;(·rfl);(·exact sb_dot (yaz 2 rfl));(·rfl)))|(apply yae;(·rfl);(·(exact sb_body' (yaz 2 rfl) hbv))));(·rfl);(·rfl))|(refine ybg 0 rfl rfl rfl (cxc_sz hu1) (cxc_fit hu1) (cxc_one (by obtain ⟨_, _, _, rfl, _⟩ := s1;rfl)) (ybh (cxc_all hu1)) rfl rfl ?_ ?_ ?_;(·(exact to_));(·(exact to_)))|refine t1_ ?_|(refine ta_ ?_;intro _)|((fail_if_success (refine ybi rfl ?_));refine ybj rfl ?_ ?_<;>(intro ht;rw [ht];first|replace ht := oet_ ht|replace ht := oef_ ht|skip))|(refine ych ?_;first|(refine ybw rfl ?_ ?_<;>intro ht)|(refine ybx rfl ?_ ?_<;>intro ht)))
    exact nx_ret1 rfl (rv_tmp rfl) (fun w' s' => ⟨by simp, s'.nil.base⟩)
  | true =>
    have K1 := check_sp _ z.u z.l h1 hc1 hl
    have H1 := Has_sp _ z.u z.l z.d h1 hc1 hl
    rw [hR, Bool.and_true] at H1
    by_cases hk : checkC z.u z.l = 0
    · rw [hk] at K1 H1 ⊢
      rw [show decide ((0 : Int) = 0) = true from rfl, Bool.true_and] at H1 ⊢
      cases hH : hasC z.u z.l z.d with
      | true =>
        rw [hH] at H1
        repeat' (first|(refine ycf ?_;apply ybk;(·first|(first|(apply yad;(·rfl);(·exact sb_past (yaz 1 rfl));(·exact ycj z.hu))|(apply yad;(·rfl);(·exact sb_dot (yaz 1 rfl));(·rfl))|(apply yad;(·rfl);(·exact sb_past (yaz 2 rfl));(·exact ycj z.hu))|(apply yad;(·rfl);(·exact sb_dot (yaz 2 rfl));(·rfl)))|(apply yae;(·rfl);(·(exact sb_body' (yaz 2 rfl) hbv))));(·rfl);(·rfl))|(refine ybg 0 rfl rfl rfl (cxc_sz hu1) (cxc_fit hu1) (cxc_one (by obtain ⟨_, _, _, rfl, _⟩ := s1;rfl)) (ybh (cxc_all hu1)) rfl rfl ?_ ?_ ?_;(·(exact to_));(·(exact to_)))|refine t1_ ?_|(refine ta_ ?_;intro _)|((fail_if_success (refine ybi rfl ?_));refine ybj rfl ?_ ?_<;>(intro ht;rw [ht];first|replace ht := oet_ ht|replace ht := oef_ ht|skip))|(refine ych ?_;first|(refine ybw rfl ?_ ?_<;>intro ht)|(refine ybx rfl ?_ ?_<;>intro ht)))
        (refine ycn (ycp Tryz.func55 rfl (by kernel_rfl) rfl) (K1) rfl rfl rfl ?_ ?_; (· (exact to_)))
        repeat' (first|(refine ycf ?_;apply ybk;(·first|(first|(apply yad;(·rfl);(·exact sb_past (yaz 1 rfl));(·exact ycj z.hu))|(apply yad;(·rfl);(·exact sb_dot (yaz 1 rfl));(·rfl))|(apply yad;(·rfl);(·exact sb_past (yaz 2 rfl));(·exact ycj z.hu))|(apply yad;(·rfl);(·exact sb_dot (yaz 2 rfl));(·rfl)))|(apply yae;(·rfl);(·(exact sb_body' (yaz 2 rfl) hbv))));(·rfl);(·rfl))|(refine ybg 0 rfl rfl rfl (cxc_sz hu1) (cxc_fit hu1) (cxc_one (by obtain ⟨_, _, _, rfl, _⟩ := s1;rfl)) (ybh (cxc_all hu1)) rfl rfl ?_ ?_ ?_;(·(exact to_));(·(exact to_)))|refine t1_ ?_|(refine ta_ ?_;intro _)|((fail_if_success (refine ybi rfl ?_));refine ybj rfl ?_ ?_<;>(intro ht;rw [ht];first|replace ht := oet_ ht|replace ht := oef_ ht|skip))|(refine ych ?_;first|(refine ybw rfl ?_ ?_<;>intro ht)|(refine ybx rfl ?_ ?_<;>intro ht)))
        (refine ycn (ycp Tryz.func68 rfl (by kernel_rfl) rfl) (H1) rfl rfl rfl ?_ ?_; (· (exact to_)))
        repeat' (first|(refine ycf ?_;apply ybk;(·first|(first|(apply yad;(·rfl);(·exact sb_past (yaz 1 rfl));(·exact ycj z.hu))|(apply yad;(·rfl);(·exact sb_dot (yaz 1 rfl));(·rfl))|(apply yad;(·rfl);(·exact sb_past (yaz 2 rfl));(·exact ycj z.hu))|(apply yad;(·rfl);(·exact sb_dot (yaz 2 rfl));(·rfl)))|(apply yae;(·rfl);(·(exact sb_body' (yaz 2 rfl) hbv))));(·rfl);(·rfl))|(refine ybg 0 rfl rfl rfl (cxc_sz hu1) (cxc_fit hu1) (cxc_one (by obtain ⟨_, _, _, rfl, _⟩ := s1;rfl)) (ybh (cxc_all hu1)) rfl rfl ?_ ?_ ?_;(·(exact to_));(·(exact to_)))|refine t1_ ?_|(refine ta_ ?_;intro _)|((fail_if_success (refine ybi rfl ?_));refine ybj rfl ?_ ?_<;>(intro ht;rw [ht];first|replace ht := oet_ ht|replace ht := oef_ ht|skip))|(refine ych ?_;first|(refine ybw rfl ?_ ?_<;>intro ht)|(refine ybx rfl ?_ ?_<;>intro ht)))
        exact nx_ret1 rfl (rv_tmp rfl) (fun w' s' => ⟨by simp, s'.nil.base⟩)
      | false =>
        rw [hH] at H1
        repeat' (first|(refine ycf ?_;apply ybk;(·first|(first|(apply yad;(·rfl);(·exact sb_past (yaz 1 rfl));(·exact ycj z.hu))|(apply yad;(·rfl);(·exact sb_dot (yaz 1 rfl));(·rfl))|(apply yad;(·rfl);(·exact sb_past (yaz 2 rfl));(·exact ycj z.hu))|(apply yad;(·rfl);(·exact sb_dot (yaz 2 rfl));(·rfl)))|(apply yae;(·rfl);(·(exact sb_body' (yaz 2 rfl) hbv))));(·rfl);(·rfl))|(refine ybg 0 rfl rfl rfl (cxc_sz hu1) (cxc_fit hu1) (cxc_one (by obtain ⟨_, _, _, rfl, _⟩ := s1;rfl)) (ybh (cxc_all hu1)) rfl rfl ?_ ?_ ?_;(·(exact to_));(·(exact to_)))|refine t1_ ?_|(refine ta_ ?_;intro _)|((fail_if_success (refine ybi rfl ?_));refine ybj rfl ?_ ?_<;>(intro ht;rw [ht];first|replace ht := oet_ ht|replace ht := oef_ ht|skip))|(refine ych ?_;first|(refine ybw rfl ?_ ?_<;>intro ht)|(refine ybx rfl ?_ ?_<;>intro ht)))
        (refine ycn (ycp Tryz.func55 rfl (by kernel_rfl) rfl) (K1) rfl rfl rfl ?_ ?_; (· (exact to_)))
        repeat' (first|(refine ycf ?_;apply ybk;(·first|(first|(apply yad;(·rfl);(·exact sb_past (yaz 1 rfl));(·exact ycj z.hu))|(apply yad;(·rfl);(·exact sb_dot (yaz 1 rfl));(·rfl))|(apply yad;(·rfl);(·exact sb_past (yaz 2 rfl));(·exact ycj z.hu))|(apply yad;(·rfl);(·exact sb_dot (yaz 2 rfl));(·rfl)))|(apply yae;(·rfl);(·(exact sb_body' (yaz 2 rfl) hbv))));(·rfl);(·rfl))|(refine ybg 0 rfl rfl rfl (cxc_sz hu1) (cxc_fit hu1) (cxc_one (by obtain ⟨_, _, _, rfl, _⟩ := s1;rfl)) (ybh (cxc_all hu1)) rfl rfl ?_ ?_ ?_;(·(exact to_));(·(exact to_)))|refine t1_ ?_|(refine ta_ ?_;intro _)|((fail_if_success (refine ybi rfl ?_));refine ybj rfl ?_ ?_<;>(intro ht;rw [ht];first|replace ht := oet_ ht|replace ht := oef_ ht|skip))|(refine ych ?_;first|(refine ybw rfl ?_ ?_<;>intro ht)|(refine ybx rfl ?_ ?_<;>intro ht)))
        (refine ycn (ycp Tryz.func68 rfl (by kernel_rfl) rfl) (H1) rfl rfl rfl ?_ ?_; (· (exact to_)))
        repeat' (first|(refine ycf ?_;apply ybk;(·first|(first|(apply yad;(·rfl);(·exact sb_past (yaz 1 rfl));(·exact ycj z.hu))|(apply yad;(·rfl);(·exact sb_dot (yaz 1 rfl));(·rfl))|(apply yad;(·rfl);(·exact sb_past (yaz 2 rfl));(·exact ycj z.hu))|(apply yad;(·rfl);(·exact sb_dot (yaz 2 rfl));(·rfl)))|(apply yae;(·rfl);(·(exact sb_body' (yaz 2 rfl) hbv))));(·rfl);(·rfl))|(refine ybg 0 rfl rfl rfl (cxc_sz hu1) (cxc_fit hu1) (cxc_one (by obtain ⟨_, _, _, rfl, _⟩ := s1;rfl)) (ybh (cxc_all hu1)) rfl rfl ?_ ?_ ?_;(·(exact to_));(·(exact to_)))|refine t1_ ?_|(refine ta_ ?_;intro _)|((fail_if_success (refine ybi rfl ?_));refine ybj rfl ?_ ?_<;>(intro ht;rw [ht];first|replace ht := oet_ ht|replace ht := oef_ ht|skip))|(refine ych ?_;first|(refine ybw rfl ?_ ?_<;>intro ht)|(refine ybx rfl ?_ ?_<;>intro ht)))
        exact nx_ret1 rfl (rv_tmp rfl) (fun w' s' => ⟨by simp, s'.nil.base⟩)
    · generalize checkC z.u z.l = cz at hk K1 ⊢
      rw [decide_eq_false hk]
      repeat' (first|(refine ycf ?_;apply ybk;(·first|(first|(apply qv_eql_no;(·rfl);(·rfl);(·exact hk))|(apply yad;(·rfl);(·exact sb_past (yaz 2 rfl));(·exact ycj z.hu))|(apply yad;(·rfl);(·exact sb_dot (yaz 2 rfl));(·rfl)))|(apply yae;(·rfl);(·(exact sb_body' (yaz 2 rfl) hbv))));(·rfl);(·rfl))|(refine ybg 0 rfl rfl rfl (cxc_sz hu1) (cxc_fit hu1) (cxc_one (by obtain ⟨_, _, _, rfl, _⟩ := s1;rfl)) (ybh (cxc_all hu1)) rfl rfl ?_ ?_ ?_;(·(exact to_));(·(exact to_)))|refine t1_ ?_|(refine ta_ ?_;intro _)|((fail_if_success (refine ybi rfl ?_));refine ybj rfl ?_ ?_<;>(intro ht;rw [ht];first|replace ht := oet_ ht|replace ht := oef_ ht|skip))|(refine ych ?_;first|(refine ybw rfl ?_ ?_<;>intro ht)|(refine ybx rfl ?_ ?_<;>intro ht)))
      (refine ycn (ycp Tryz.func55 rfl (by kernel_rfl) rfl) (K1) rfl rfl rfl ?_ ?_; (· (exact to_)))
      repeat' (first|(refine ycf ?_;apply ybk;(·first|(first|(apply qv_eql_no;(·rfl);(·rfl);(·exact hk))|(apply yad;(·rfl);(·exact sb_past (yaz 2 rfl));(·exact ycj z.hu))|(apply yad;(·rfl);(·exact sb_dot (yaz 2 rfl));(·rfl)))|(apply yae;(·rfl);(·(exact sb_body' (yaz 2 rfl) hbv))));(·rfl);(·rfl))|(refine ybg 0 rfl rfl rfl (cxc_sz hu1) (cxc_fit hu1) (cxc_one (by obtain ⟨_, _, _, rfl, _⟩ := s1;rfl)) (ybh (cxc_all hu1)) rfl rfl ?_ ?_ ?_;(·(exact to_));(·(exact to_)))|refine t1_ ?_|(refine ta_ ?_;intro _)|((fail_if_success (refine ybi rfl ?_));refine ybj rfl ?_ ?_<;>(intro ht;rw [ht];first|replace ht := oet_ ht|replace ht := oef_ ht|skip))|(refine ych ?_;first|(refine ybw rfl ?_ ?_<;>intro ht)|(refine ybx rfl ?_ ?_<;>intro ht)))
      exact nx_ret1 rfl (rv_tmp rfl) (fun w' s' => ⟨by simp, s'.nil.base⟩)
end Go.Proofs.YtkkjppeaaicgaaaGreatDoor
end

section
namespace Go.Proofs.YtkkjppeaaicgaaaGreatDoor
open Go Go.Ck
set_option maxRecDepth 100000
set_option maxHeartbeats 2000000
set_option linter.unusedVariables false
theorem sindexFunc_sp (g : Nat) (cp : List Value) (fu : Func) (cd : Code) (p : Sb → Bool) (sv : Value) (l : List Sb) (h : View) (hs : Ss h sv l) (hl : l.length ≤ 4611686018427387904)
    (hf : Tryz.prog.funcs[g]? = some fu) (hb : fu.body = some cd) (hnm : (fu.name == "runtime.NumGoroutine") = false)
    (hp : ∀ d ∈ l, ∀ w, St ⟨w, h, []⟩ h [] w → Calls Tryz.prog g (sbv d :: cp).toArray w fun e w' => e = .returned (.bool (p d)) ∧ St ⟨w, h, []⟩ h [] w') (w : World) (s : St ⟨w, h, []⟩ h [] w) :
    Calls Tryz.prog 69 [sv, .func (.func g) #[] cp.toArray].toArray w fun e w' => ∃ r : Int, e = .returned (.int .i64 r) ∧ St ⟨w, h, []⟩ h [] w' ∧ (0 ≤ r ↔ l.any p = true) := by
  obtain ⟨hs, _⟩ := hs
  obtain ⟨_, ad, cap, rfl, hcap, _⟩ := id hs
  refine calls_enter Tryz.func69 rfl Tryz.ntmps69 rfl s ?_
  repeat' (first|refine tw_ ?_|(refine ta_ ?_;intro _)|((fail_if_success (refine ybi rfl ?_));refine ybj rfl ?_ ?_<;>(intro ht;rw [ht];first|replace ht := oet_ ht|replace ht := oef_ ht|skip))|(refine ych ?_;first|(refine ybw rfl ?_ ?_<;>intro ht)|(refine ybx rfl ?_ ?_<;>intro ht)))
  refine cx_loop (X := Nat) (fun k => [(0, .slice ad l.length cap), (1, .func (.func g) #[] cp.toArray), (7, .int .i64 l.length), (8, .int .i64 k)]) (fun _ => h) (fun _ => _) (fun k => k ≤ l.length ∧ ∀ j (hj : j < l.length), j < k → p l[j] = false) (fun k => l.length - k) 0 ⟨by omega, by omega⟩ ts_ (fun _ s => s) ?_
  rintro k ⟨hk, hno⟩
  by_cases hkl : k < l.length
  · obtain ⟨bs, o, rfl⟩ := hs.ad (by omega) (by omega)
    have hel : ∀ L, Cells h L ⟨bs, o + k * 20, none⟩ (sbc l[k]) := fun L => hs.elem sbc_len k hkl
    have hpk := hp l[k] (List.getElem_mem hkl)
    have hlen := sbc_len l[k]
    cases hP : p l[k] with
    | true =>
      rw [hP] at hpk
      repeat' (first|(refine ycf ?_;apply ybk;(·first|(first|(apply yad;(·rfl);(·exact hel _);(·exact hlen))));(·rfl);(·rfl))|refine t1_ ?_|(refine ta_ ?_;intro _)|((fail_if_success (refine ybi rfl ?_));refine ybj rfl ?_ ?_<;>(intro ht;rw [ht];first|replace ht := oet_ ht|replace ht := oef_ ht|skip))|(refine ych ?_;first|(refine ybw rfl ?_ ?_<;>intro ht)|(refine ybx rfl ?_ ?_<;>intro ht)))
      · (refine ycn (call_val rfl hf hb hnm rfl) hpk rfl rfl rfl ?_ ?_; (· (exact to_)))
        repeat' (first|(refine ycf ?_;apply ybk;(·first|(first|(apply yad;(·rfl);(·exact hel _);(·exact hlen))));(·rfl);(·rfl))|refine t1_ ?_|(refine ta_ ?_;intro _)|((fail_if_success (refine ybi rfl ?_));refine ybj rfl ?_ ?_<;>(intro ht;rw [ht];first|replace ht := oet_ ht|replace ht := oef_ ht|skip))|(refine ych ?_;first|(refine ybw rfl ?_ ?_<;>intro ht)|(refine ybx rfl ?_ ?_<;>intro ht)))
        refine nx_ret1 rfl (rv_tmp rfl) (fun w' s' => ⟨_, rfl, s'.nil, ?_⟩)
        constructor
        · intro _; exact List.any_eq_true.2 ⟨l[k], List.getElem_mem hkl, hP⟩
        · intro _; omega
      · omega
    | false =>
      rw [hP] at hpk
      repeat' (first|(refine ycf ?_;apply ybk;(·first|(first|(apply yad;(·rfl);(·exact hel _);(·exact hlen))));(·rfl);(·rfl))|refine t1_ ?_|(refine ta_ ?_;intro _)|((fail_if_success (refine ybi rfl ?_));refine ybj rfl ?_ ?_<;>(intro ht;rw [ht];first|replace ht := oet_ ht|replace ht := oef_ ht|skip))|(refine ych ?_;first|(refine ybw rfl ?_ ?_<;>intro ht)|(refine ybx rfl ?_ ?_<;>intro ht)))
      · (refine ycn (call_val rfl hf hb hnm rfl) hpk rfl rfl rfl ?_ ?_; (· (exact to_)))
        repeat' (first|(refine ycf ?_;apply ybk;(·first|(first|(apply yad;(·rfl);(·exact hel _);(·exact hlen))));(·rfl);(·rfl))|refine t1_ ?_|(refine ta_ ?_;intro _)|((fail_if_success (refine ybi rfl ?_));refine ybj rfl ?_ ?_<;>(intro ht;rw [ht];first|replace ht := oet_ ht|replace ht := oef_ ht|skip))|(refine ych ?_;first|(refine ybw rfl ?_ ?_<;>intro ht)|(refine ybx rfl ?_ ?_<;>intro ht)))
        refine nx_round (k + 1) ⟨by omega, fun j hj hjk => ?_⟩ (by omega) ts_ (fun _ s => s)
        by_cases hjk' : j = k
        · subst hjk'; exact hP
        · exact hno j hj (by omega)
      · omega
  · repeat' (first|(refine ycf ?_;apply ybk;(·first|(first|(apply yad;(·rfl);(·exact hel _);(·exact hlen))));(·rfl);(·rfl))|refine t1_ ?_|(refine ta_ ?_;intro _)|((fail_if_success (refine ybi rfl ?_));refine ybj rfl ?_ ?_<;>(intro ht;rw [ht];first|replace ht := oet_ ht|replace ht := oef_ ht|skip))|(refine ych ?_;first|(refine ybw rfl ?_ ?_<;>intro ht)|(refine ybx rfl ?_ ?_<;>intro ht)))
    · omega
    refine nx_ret1 rfl (rv_tmp rfl) (fun w' s' => ⟨_, rfl, s'.nil, ?_⟩)
    constructor
    · intro hx; omega
    · intro hm
      obtain ⟨d, hd, hpd⟩ := List.any_eq_true.1 hm
      obtain ⟨j, hj, rfl⟩ := List.getElem_of_mem hd
      rw [hno j hj (by omega)] at hpd; cases hpd
theorem scontainsFunc_sp (g : Nat) (cp : List Value) (fu : Func) (cd : Code) (p : Sb → Bool) (sv : Value) (l : List Sb) (h : View) (hs : Ss h sv l) (hl : l.length ≤ 4611686018427387904)
    (hf : Tryz.prog.funcs[g]? = some fu) (hb : fu.body = some cd) (hnm : (fu.name == "runtime.NumGoroutine") = false)
    (hp : ∀ d ∈ l, ∀ w, St ⟨w, h, []⟩ h [] w → Calls Tryz.prog g (sbv d :: cp).toArray w fun e w' => e = .returned (.bool (p d)) ∧ St ⟨w, h, []⟩ h [] w') (w : World) (s : St ⟨w, h, []⟩ h [] w) :
    Calls Tryz.prog 37 [sv, .func (.func g) #[] cp.toArray].toArray w fun e w' => e = .returned (.bool (l.any p)) ∧ St ⟨w, h, []⟩ h [] w' := by
  refine calls_enter Tryz.func37 rfl Tryz.ntmps37 rfl s ?_
  repeat' (first|(refine ycf ?_;apply ybk;(·first|(first|(apply yad;(·rfl);(·exact hel _);(·exact hlen))));(·rfl);(·rfl))|refine t1_ ?_|(refine ta_ ?_;intro _)|((fail_if_success (refine ybi rfl ?_));refine ybj rfl ?_ ?_<;>(intro ht;rw [ht];first|replace ht := oet_ ht|replace ht := oef_ ht|skip))|(refine ych ?_;first|(refine ybw rfl ?_ ?_<;>intro ht)|(refine ybx rfl ?_ ?_<;>intro ht)))
  (refine yco (ycp Tryz.func69 rfl (by kernel_rfl) rfl) (sindexFunc_sp g cp fu cd p _ l h hs hl hf hb hnm hp) rfl rfl rfl ?_ ?_ ?_; (· (exact to_)); (· intro _ _ hle; (exact to_)); intro x px hle)
  repeat' (first|(refine ycf ?_;apply ybk;(·first|(first|(apply yad;(·rfl);(·exact hel _);(·exact hlen))));(·rfl);(·rfl))|refine t1_ ?_|(refine ta_ ?_;intro _)|((fail_if_success (refine ybi rfl ?_));refine ybj rfl ?_ ?_<;>(intro ht;rw [ht];first|replace ht := oet_ ht|replace ht := oef_ ht|skip))|(refine ych ?_;first|(refine ybw rfl ?_ ?_<;>intro ht)|(refine ybx rfl ?_ ?_<;>intro ht)))
  refine nx_ret1 rfl (rv_tmp rfl) (fun w' s' => ⟨?_, s'.nil⟩)
  congr 2
  rw [Bool.eq_iff_iff, decide_eq_true_iff]; exact px
theorem seen1_sp (b : Nat) (x : Sb) (d : Dt) (h : View) (hx : Sv h x) (hb : h b = some (.cells (dcs d).toArray 53 (0, 0))) (hl : x.l.length ≤ 4611686018427387904) (w : World) (s : St ⟨w, h, []⟩ h [] w) :
    Calls Tryz.prog 70 [sbv x, .pointer (some ⟨b, 0, none⟩)].toArray w fun e w' => e = .returned (.bool (hasA x.a d)) ∧ St ⟨w, h, []⟩ h [] w' := by
  have hcell : ∀ L, Cells h L ⟨b, 0, none⟩ (dcs d) := fun L w hd j v hj => by
    have := hd.view _ _ hb
    rw [Addr.add_off]
    simp [World.cell?, this, hj]
  have hhas := Has_sp (cxv x.u x.mv) x.u x.l d h ⟨x.hu, x.mv, rfl, hx.ds⟩ hl
  refine calls_enter Tryz.func70 rfl Tryz.ntmps70 rfl s ?_
  repeat' (first|(refine ycf ?_;apply ybk;(·first|(first|(apply yad;(·rfl);(·exact hcell _);(·rfl))|(apply yad;(·rfl);(·exact sb_past (yaz 0 rfl));(·exact ycj x.hu))));(·rfl);(·rfl))|refine t1_ ?_|(refine ta_ ?_;intro _)|((fail_if_success (refine ybi rfl ?_));refine ybj rfl ?_ ?_<;>(intro ht;rw [ht];first|replace ht := oet_ ht|replace ht := oef_ ht|skip))|(refine ych ?_;first|(refine ybw rfl ?_ ?_<;>intro ht)|(refine ybx rfl ?_ ?_<;>intro ht)))
  (refine ycn (ycp Tryz.func68 rfl (by kernel_rfl) rfl) (hhas) rfl rfl rfl ?_ ?_; (· (exact to_)))
  repeat' (first|(refine ycf ?_;apply ybk;(·first|(first|(apply yad;(·rfl);(·exact hcell _);(·rfl))|(apply yad;(·rfl);(·exact sb_past (yaz 0 rfl));(·exact ycj x.hu))));(·rfl);(·rfl))|refine t1_ ?_|(refine ta_ ?_;intro _)|((fail_if_success (refine ybi rfl ?_));refine ybj rfl ?_ ?_<;>(intro ht;rw [ht];first|replace ht := oet_ ht|replace ht := oef_ ht|skip))|(refine ych ?_;first|(refine ybw rfl ?_ ?_<;>intro ht)|(refine ybx rfl ?_ ?_<;>intro ht)))
  exact nx_ret1 rfl (rv_tmp rfl) (fun w' s' => ⟨rfl, s'.nil⟩)
theorem seen_sp (v : Value) (l : List Sb) (d : Dt) (h : View) (hs : Ss h v l) (hl : l.length ≤ 4611686018427387904) (hll : ∀ x ∈ l, x.l.length ≤ 4611686018427387904) (w : World) (s : St ⟨w, h, []⟩ h [] w) :
    Calls Tryz.prog 39 [v, dv d].toArray w fun e w' => e = .returned (.bool (l.any fun x => hasA x.a d)) ∧ St ⟨w, h, []⟩ h [] w' := by
  refine calls_enter Tryz.func39 rfl Tryz.ntmps39 rfl s ?_
  repeat' (first|(refine ycf ?_;apply ybk;(·first|(first|(apply yad;(·rfl);(·exact hcell _);(·rfl))|(apply yad;(·rfl);(·exact sb_past (yaz 0 rfl));(·exact ycj x.hu))));(·rfl);(·rfl))|refine t1_ ?_|(refine ta_ ?_;intro _)|((fail_if_success (refine ybi rfl ?_));refine ybj rfl ?_ ?_<;>(intro ht;rw [ht];first|replace ht := oet_ ht|replace ht := oef_ ht|skip))|(refine ych ?_;first|(refine ybw rfl ?_ ?_<;>intro ht)|(refine ybx rfl ?_ ?_<;>intro ht)))
  rename_i b0
  refine rx_bpersist rfl fun hbn => ?_
  have hle := Le.addV (h := h) (o := .cells (dcs d).toArray 53 (0, 0)) hbn
  (refine ycn (ycp Tryz.func37 rfl (by kernel_rfl) rfl) (scontainsFunc_sp 70 [.pointer (some ⟨b0, 0, none⟩)] _ _ (fun x => hasA x.a d) v l _ (hs.mono hle) hl Tryz.func70 rfl (by kernel_rfl) (fun x hx => seen1_sp b0 x d _ ((hs.2 x hx).mono hle) addV_same (hll x hx))) rfl rfl rfl ?_ ?_; (· (exact to_)))
  repeat' (first|(refine ycf ?_;apply ybk;(·first|(first|(apply yad;(·rfl);(·exact hcell _);(·rfl))|(apply yad;(·rfl);(·exact sb_past (yaz 0 rfl));(·exact ycj x.hu))));(·rfl);(·rfl))|refine t1_ ?_|(refine ta_ ?_;intro _)|((fail_if_success (refine ybi rfl ?_));refine ybj rfl ?_ ?_<;>(intro ht;rw [ht];first|replace ht := oet_ ht|replace ht := oef_ ht|skip))|(refine ych ?_;first|(refine ybw rfl ?_ ?_<;>intro ht)|(refine ybx rfl ?_ ?_<;>intro ht)))
  exact nx_ret1 rfl (rv_tmp rfl) (fun w' s' => ⟨rfl, s'.base⟩)
theorem check1_sp (b : Nat) (v : Value) (l : List Sb) (x : Sb) (h : View) (hs : Ss h v l) (hb : h b = some (.cells #[v] 24 (0, 0))) (hl : l.length ≤ 4611686018427387904) (hll : ∀ x ∈ l, x.l.length ≤ 4611686018427387904) (w : World) (s : St ⟨w, h, []⟩ h [] w) :
    Calls Tryz.prog 38 [sbv x, .pointer (some ⟨b, 0, none⟩)].toArray w fun e w' => e = .returned (.bool (l.any fun y => hasA y.a x.d)) ∧ St ⟨w, h, []⟩ h [] w' := by
  have hcell : ∀ L, CellAt h L b 0 v := fun L => cell_at fun w hd => by
    have := hd.view _ _ hb
    simp [World.cell?, this]
  have hsn := seen_sp v l x.d h hs hl hll
  refine calls_enter Tryz.func38 rfl Tryz.ntmps38 rfl s ?_
  repeat' (first|(refine ycf ?_;apply ybk;(·first|(first|(apply yad;(·rfl);(·exact sb_dot (yaz 0 rfl));(·rfl)))|(apply yae;(·rfl);(·(exact hcell _))));(·rfl);(·rfl))|refine t1_ ?_|(refine ta_ ?_;intro _)|((fail_if_success (refine ybi rfl ?_));refine ybj rfl ?_ ?_<;>(intro ht;rw [ht];first|replace ht := oet_ ht|replace ht := oef_ ht|skip))|(refine ych ?_;first|(refine ybw rfl ?_ ?_<;>intro ht)|(refine ybx rfl ?_ ?_<;>intro ht)))
  (refine ycn (ycp Tryz.func39 rfl (by kernel_rfl) rfl) (hsn) rfl rfl rfl ?_ ?_; (· (exact to_)))
  repeat' (first|(refine ycf ?_;apply ybk;(·first|(first|(apply yad;(·rfl);(·exact sb_dot (yaz 0 rfl));(·rfl)))|(apply yae;(·rfl);(·(exact hcell _))));(·rfl);(·rfl))|refine t1_ ?_|(refine ta_ ?_;intro _)|((fail_if_success (refine ybi rfl ?_));refine ybj rfl ?_ ?_<;>(intro ht;rw [ht];first|replace ht := oet_ ht|replace ht := oef_ ht|skip))|(refine ych ?_;first|(refine ybw rfl ?_ ?_<;>intro ht)|(refine ybx rfl ?_ ?_<;>intro ht)))
  exact nx_ret1 rfl (rv_tmp rfl) (fun w' s' => ⟨rfl, s'.nil⟩)
def badAt (l : List Ab) (i : Nat) : Bool := !(l[i]?.any rightA) || (decide (0 < i) && decide (0 ≤ ordD ((l[i - 1]?.map (·.1)).getD (0, 0)) ((l[i]?.map (·.1)).getD (0, 0))))
def checkA (l : List Ab) : Int := if 64 < l.length then 5 else if (List.range l.length).any (badAt l) = true then 1 else if l.any (fun x => l.any fun y => hasA y x.1) = true then 14 else 0
theorem badAt_eq {l : List Sb} {k : Nat} (hk : k < l.length) : badAt (l.map Sb.a) k = (!rightA l[k].a || (decide (0 < k) && decide (0 ≤ ordD l[k - 1].d l[k].d))) := by
  have h1 : (l.map Sb.a)[k]? = some l[k].a := by simp [hk]
  have h2 : (l.map Sb.a)[k - 1]? = some l[k - 1].a := by simp [show k - 1 < l.length by omega]
  unfold badAt
  rw [h1, h2]
  rfl
theorem bad_no {l : List Ab} (h : ∀ j, j < l.length → badAt l j = false) : (List.range l.length).any (badAt l) = false := by
  rw [List.any_eq_false]
  intro j hj
  rw [h j (List.mem_range.1 hj)]
  decide
theorem bad_yes {l : List Ab} {k : Nat} (hk : k < l.length) (h : badAt l k = true) : (List.range l.length).any (badAt l) = true := List.any_eq_true.2 ⟨k, List.mem_range.2 hk, h⟩
theorem scheck_sp (v : Value) (l : List Sb) (h : View) (hs : Ss h v l) (hl : l.length ≤ 4611686018427387904) (hll : ∀ x ∈ l, x.l.length ≤ 4611686018427387904) (w : World) (s : St ⟨w, h, []⟩ h [] w) :
    Calls Tryz.prog 12 [v].toArray w fun e w' => e = .returned (.int .i64 (checkA (l.map Sb.a))) ∧ St ⟨w, h, []⟩ h [] w' := by
  have hs0 := hs
  obtain ⟨hs, hsv⟩ := hs
  obtain ⟨_, ad, cap, rfl, hcap, _⟩ := id hs
  have hlm : (l.map Sb.a).length = l.length := by simp
  refine calls_enter Tryz.func12 rfl Tryz.ntmps12 rfl s ?_
  repeat' (first|(refine ycf ?_;apply ybk;(·first|(first|(apply yad;(·rfl);(·exact sb_dot (yaz 0 rfl));(·rfl)))|(apply yae;(·rfl);(·(exact hcell _))));(·rfl);(·rfl))|refine t1_ ?_|(refine ta_ ?_;intro _)|((fail_if_success (refine ybi rfl ?_));refine ybj rfl ?_ ?_<;>(intro ht;rw [ht];first|replace ht := oet_ ht|replace ht := oef_ ht|skip))|(refine ych ?_;first|(refine ybw rfl ?_ ?_<;>intro ht)|(refine ybx rfl ?_ ?_<;>intro ht)))
  · refine nx_ret1 rfl (rv_tmp rfl) (fun w' s' => ⟨?_, s'.nil⟩)
    unfold checkA
    rw [hlm, if_pos (by omega)]
  rename_i b0
  have h64 : ¬ 64 < l.length := by omega
  refine cx_loop (X := Nat) (fun x => [(1, .pointer (some ⟨b0, 0, none⟩)), (2, .int .i64 0), (8, .slice ad l.length cap), (9, .int .i64 l.length), (10, .int .i64 x)]) (fun x => h) (fun _ => _)
    (fun x => x ≤ l.length ∧ ∀ j, j < x → badAt (l.map Sb.a) j = false) (fun x => l.length - x) 0 ⟨by simp, by intro j hj; cases hj⟩ ts_ (fun _ s => s) ?_
  rintro k ⟨hk, hno⟩
  by_cases hkl : k < l.length
  · obtain ⟨bs, o, rfl⟩ := hs.ad (by omega) (by omega)
    have hel : ∀ L, Cells h L ⟨bs, o + k * 20, none⟩ (sbc l[k]) := fun L => hs.elem sbc_len k hkl
    have hsk : Sv h l[k] := hsv _ (List.getElem_mem hkl)
    have hlk := hll _ (List.getElem_mem hkl)
    have hlen := sbc_len l[k]
    have hbk := badAt_eq hkl
    have SR := sright_sp l[k] h hsk hlk
    cases hR : rightA l[k].a with
    | false =>
      rw [hR] at SR
      repeat' (first|(refine ycf ?_;apply ybk;(·first|(first|exact tk_|(apply yad;(·rfl);(·exact hel _);(·exact hlen))|(apply yad;(·rfl);(·exact yaz 0 rfl);(·exact hlen)))|(apply yae;(·rfl);(·(exact hcell _))));(·rfl);(·rfl))|(refine ybg 0 rfl rfl rfl (sbc_sz _) (sbc_fit rfl) (sbc_one hsk.one.1 hsk.one.2) (ybh (sbc_all rfl)) rfl rfl ?_ ?_ ?_;(·(exact to_));(·(exact to_)))|refine t1_ ?_|(refine ta_ ?_;intro _)|((fail_if_success (refine ybi rfl ?_));refine ybj rfl ?_ ?_<;>(intro ht;rw [ht];first|replace ht := oet_ ht|replace ht := oef_ ht|skip))|(refine ych ?_;first|(refine ybw rfl ?_ ?_<;>intro ht)|(refine ybx rfl ?_ ?_<;>intro ht)))
      refine cx_region_draw' rfl (by kernel_rfl) ?_
      repeat' (refine ycf ?_;(first|(first|(apply ybm;(·(first|(first|exact tk_|(apply yad;(·rfl);(·exact hel _);(·exact hlen))|(apply yad;(·rfl);(·exact yaz 0 rfl);(·exact hlen)))|(apply yae;(·rfl);(·(exact hcell _)))|exact tq_));(·rfl);(·rfl);(·(exact th_)))|refine ybl rfl rfl ?_|((fail_if_success (refine ybi rfl ?_));refine ybj rfl ?_ ?_<;>(intro ht;rw [ht];first|replace ht := oet_ ht|replace ht := oef_ ht|skip))|(refine tb_ ?_ ?_ ?_;(·(exact to_));(·intro _;(exact to_));intro _)|(first|(refine ybg 0 rfl rfl rfl (sbc_sz _) (sbc_fit rfl) (sbc_one hsk.one.1 hsk.one.2) (ybh (sbc_all rfl)) rfl rfl ?_ ?_ ?_;(·(exact to_));(·(exact to_)))|(refine tqs_ ?_ ?_ ?_;(·(exact to_));(·(exact to_))))|(apply ybn;(·(first|(first|exact tk_|(apply yad;(·rfl);(·exact hel _);(·exact hlen))|(apply yad;(·rfl);(·exact yaz 0 rfl);(·exact hlen)))|(apply yae;(·rfl);(·(exact hcell _)))|exact tq_));(·rfl);(·rfl);(·rfl);(·(exact to_))))|refine ycg ?_))
      (refine ycn (ycp Tryz.func35 rfl (by kernel_rfl) rfl) (SR) rfl rfl rfl ?_ ?_; (· (exact to_)))
      repeat' (refine ycf ?_;(first|(first|(apply ybm;(·(first|(first|exact tk_|(apply yad;(·rfl);(·exact hel _);(·exact hlen))|(apply yad;(·rfl);(·exact yaz 0 rfl);(·exact hlen)))|(apply yae;(·rfl);(·(exact hcell _)))|exact tq_));(·rfl);(·rfl);(·(exact th_)))|refine ybl rfl rfl ?_|((fail_if_success (refine ybi rfl ?_));refine ybj rfl ?_ ?_<;>(intro ht;rw [ht];first|replace ht := oet_ ht|replace ht := oef_ ht|skip))|(refine tb_ ?_ ?_ ?_;(·(exact to_));(·intro _;(exact to_));intro _)|(first|(refine ybg 0 rfl rfl rfl (sbc_sz _) (sbc_fit rfl) (sbc_one hsk.one.1 hsk.one.2) (ybh (sbc_all rfl)) rfl rfl ?_ ?_ ?_;(·(exact to_));(·(exact to_)))|(refine tqs_ ?_ ?_ ?_;(·(exact to_));(·(exact to_))))|(apply ybn;(·(first|(first|exact tk_|(apply yad;(·rfl);(·exact hel _);(·exact hlen))|(apply yad;(·rfl);(·exact yaz 0 rfl);(·exact hlen)))|(apply yae;(·rfl);(·(exact hcell _)))|exact tq_));(·rfl);(·rfl);(·rfl);(·(exact to_))))|refine ycg ?_))
      repeat' (first|(refine ycf ?_;apply ybk;(·first|(first|exact tk_|(apply yad;(·rfl);(·exact hel _);(·exact hlen))|(apply yad;(·rfl);(·exact yaz 0 rfl);(·exact hlen)))|(apply yae;(·rfl);(·(exact hcell _))));(·rfl);(·rfl))|(refine ybg 0 rfl rfl rfl (sbc_sz _) (sbc_fit rfl) (sbc_one hsk.one.1 hsk.one.2) (ybh (sbc_all rfl)) rfl rfl ?_ ?_ ?_;(·(exact to_));(·(exact to_)))|refine t1_ ?_|(refine ta_ ?_;intro _)|((fail_if_success (refine ybi rfl ?_));refine ybj rfl ?_ ?_<;>(intro ht;rw [ht];first|replace ht := oet_ ht|replace ht := oef_ ht|skip))|(refine ych ?_;first|(refine ybw rfl ?_ ?_<;>intro ht)|(refine ybx rfl ?_ ?_<;>intro ht)))
      refine nx_ret1 rfl (rv_tmp rfl) (fun w' s' => ⟨?_, s'.nil⟩)
      unfold checkA
      rw [hlm, if_neg h64, if_pos]
      rw [← hlm]
      exact bad_yes (by rw [hlm]; exact hkl) (by rw [hbk, hR]; rfl)
    | true =>
      rw [hR] at SR
      rw [hR] at hbk
      by_cases h0 : 0 < k
      · have hlen' := sbc_len l[k - 1]
        have hel' : ∀ L, Cells h L ⟨bs, o + ((k : Int) - 1).toNat * 20, none⟩ (sbc l[k - 1]) := fun L => by
          rw [show ((k : Int) - 1).toNat = k - 1 by omega]
          exact hs.elem sbc_len (k - 1) (by omega)
        repeat' (first|(refine ycf ?_;apply ybk;(·first|(first|exact tk_|(apply yad;(·rfl);(·exact hel _);(·exact hlen))|(apply yad;(·rfl);(·exact hel' _);(·exact hlen'))|(apply yad;(·rfl);(·exact yaz 0 rfl);(·exact hlen)))|(apply yae;(·rfl);(·(exact hcell _))));(·rfl);(·rfl))|(refine ybg 0 rfl rfl rfl (sbc_sz _) (sbc_fit rfl) (sbc_one hsk.one.1 hsk.one.2) (ybh (sbc_all rfl)) rfl rfl ?_ ?_ ?_;(·(exact to_));(·(exact to_)))|refine t1_ ?_|(refine ta_ ?_;intro _)|((fail_if_success (refine ybi rfl ?_));refine ybj rfl ?_ ?_<;>(intro ht;rw [ht];first|replace ht := oet_ ht|replace ht := oef_ ht|skip))|(refine ych ?_;first|(refine ybw rfl ?_ ?_<;>intro ht)|(refine ybx rfl ?_ ?_<;>intro ht)))
        refine cx_region_draw' rfl (by kernel_rfl) ?_
        repeat' (refine ycf ?_;(first|(first|(apply ybm;(·(first|(first|exact tk_|(apply yad;(·rfl);(·exact hel _);(·exact hlen))|(apply yad;(·rfl);(·exact hel' _);(·exact hlen'))|(apply yad;(·rfl);(·exact yaz 0 rfl);(·exact hlen)))|(apply yae;(·rfl);(·(exact hcell _)))|exact tq_));(·rfl);(·rfl);(·(exact th_)))|refine ybl rfl rfl ?_|((fail_if_success (refine ybi rfl ?_));refine ybj rfl ?_ ?_<;>(intro ht;rw [ht];first|replace ht := oet_ ht|replace ht := oef_ ht|skip))|(refine tb_ ?_ ?_ ?_;(·(exact to_));(·intro _;(exact to_));intro _)|(first|(refine ybg 0 rfl rfl rfl (sbc_sz _) (sbc_fit rfl) (sbc_one hsk.one.1 hsk.one.2) (ybh (sbc_all rfl)) rfl rfl ?_ ?_ ?_;(·(exact to_));(·(exact to_)))|(refine tqs_ ?_ ?_ ?_;(·(exact to_));(·(exact to_))))|(apply ybn;(·(first|(first|exact tk_|(apply yad;(·rfl);(·exact hel _);(·exact hlen))|(apply yad;(·rfl);(·exact hel' _);(·exact hlen'))|(apply yad;(·rfl);(·exact yaz 0 rfl);(·exact hlen)))|(apply yae;(·rfl);(·(exact hcell _)))|exact tq_));(·rfl);(·rfl);(·rfl);(·(exact to_))))|refine ycg ?_))
        (refine ycn (ycp Tryz.func35 rfl (by kernel_rfl) rfl) (SR) rfl rfl rfl ?_ ?_; (· (exact to_)))
        repeat' (refine ycf ?_;(first|(first|(apply ybm;(·(first|(first|exact tk_|(apply yad;(·rfl);(·exact hel _);(·exact hlen))|(apply yad;(·rfl);(·exact hel' _);(·exact hlen'))|(apply yad;(·rfl);(·exact yaz 0 rfl);(·exact hlen)))|(apply yae;(·rfl);(·(exact hcell _)))|exact tq_));(·rfl);(·rfl);(·(exact th_)))|refine ybl rfl rfl ?_|((fail_if_success (refine ybi rfl ?_));refine ybj rfl ?_ ?_<;>(intro ht;rw [ht];first|replace ht := oet_ ht|replace ht := oef_ ht|skip))|(refine tb_ ?_ ?_ ?_;(·(exact to_));(·intro _;(exact to_));intro _)|(first|(refine ybg 0 rfl rfl rfl (sbc_sz _) (sbc_fit rfl) (sbc_one hsk.one.1 hsk.one.2) (ybh (sbc_all rfl)) rfl rfl ?_ ?_ ?_;(·(exact to_));(·(exact to_)))|(refine tqs_ ?_ ?_ ?_;(·(exact to_));(·(exact to_))))|(apply ybn;(·(first|(first|exact tk_|(apply yad;(·rfl);(·exact hel _);(·exact hlen))|(apply yad;(·rfl);(·exact hel' _);(·exact hlen'))|(apply yad;(·rfl);(·exact yaz 0 rfl);(·exact hlen)))|(apply yae;(·rfl);(·(exact hcell _)))|exact tq_));(·rfl);(·rfl);(·rfl);(·(exact to_))))|refine ycg ?_))
        (refine ycn (ycp Tryz.func36 rfl (by kernel_rfl) rfl) (sorder_sp l[k - 1] l[k] h) rfl rfl rfl ?_ ?_; (· (exact to_)))
        rw [decide_eq_true h0, Bool.true_and] at hbk
        by_cases hO : 0 ≤ ordD l[k - 1].d l[k].d
        · repeat' (refine ycf ?_;(first|(first|(apply ybm;(·(first|(first|exact tk_|(apply yad;(·rfl);(·exact hel _);(·exact hlen))|(apply yad;(·rfl);(·exact hel' _);(·exact hlen'))|(apply yad;(·rfl);(·exact yaz 0 rfl);(·exact hlen)))|(apply yae;(·rfl);(·(exact hcell _)))|exact tq_));(·rfl);(·rfl);(·(exact th_)))|refine ybl rfl rfl ?_|((fail_if_success (refine ybi rfl ?_));refine ybj rfl ?_ ?_<;>(intro ht;rw [ht];first|replace ht := oet_ ht|replace ht := oef_ ht|skip))|(refine tb_ ?_ ?_ ?_;(·(exact to_));(·intro _;(exact to_));intro _)|(first|(refine ybg 0 rfl rfl rfl (sbc_sz _) (sbc_fit rfl) (sbc_one hsk.one.1 hsk.one.2) (ybh (sbc_all rfl)) rfl rfl ?_ ?_ ?_;(·(exact to_));(·(exact to_)))|(refine tqs_ ?_ ?_ ?_;(·(exact to_));(·(exact to_))))|(apply ybn;(·(first|(first|exact tk_|(apply yad;(·rfl);(·exact hel _);(·exact hlen))|(apply yad;(·rfl);(·exact hel' _);(·exact hlen'))|(apply yad;(·rfl);(·exact yaz 0 rfl);(·exact hlen)))|(apply yae;(·rfl);(·(exact hcell _)))|exact tq_));(·rfl);(·rfl);(·rfl);(·(exact to_))))|refine ycg ?_))
          repeat' (first|(refine ycf ?_;apply ybk;(·first|(first|exact tk_|(apply yad;(·rfl);(·exact hel _);(·exact hlen))|(apply yad;(·rfl);(·exact hel' _);(·exact hlen'))|(apply yad;(·rfl);(·exact yaz 0 rfl);(·exact hlen)))|(apply yae;(·rfl);(·(exact hcell _))));(·rfl);(·rfl))|(refine ybg 0 rfl rfl rfl (sbc_sz _) (sbc_fit rfl) (sbc_one hsk.one.1 hsk.one.2) (ybh (sbc_all rfl)) rfl rfl ?_ ?_ ?_;(·(exact to_));(·(exact to_)))|refine t1_ ?_|(refine ta_ ?_;intro _)|((fail_if_success (refine ybi rfl ?_));refine ybj rfl ?_ ?_<;>(intro ht;rw [ht];first|replace ht := oet_ ht|replace ht := oef_ ht|skip))|(refine ych ?_;first|(refine ybw rfl ?_ ?_<;>intro ht)|(refine ybx rfl ?_ ?_<;>intro ht)))
          refine nx_ret1 rfl (rv_tmp rfl) (fun w' s' => ⟨?_, s'.nil⟩)
          unfold checkA
          rw [hlm, if_neg h64, if_pos]
          rw [← hlm]
          exact bad_yes (by rw [hlm]; exact hkl) (by rw [hbk]; simp [hO])
        · repeat' (refine ycf ?_;(first|(first|(apply ybm;(·(first|(first|exact tk_|(apply yad;(·rfl);(·exact hel _);(·exact hlen))|(apply yad;(·rfl);(·exact hel' _);(·exact hlen'))|(apply yad;(·rfl);(·exact yaz 0 rfl);(·exact hlen)))|(apply yae;(·rfl);(·(exact hcell _)))|exact tq_));(·rfl);(·rfl);(·(exact th_)))|refine ybl rfl rfl ?_|((fail_if_success (refine ybi rfl ?_));refine ybj rfl ?_ ?_<;>(intro ht;rw [ht];first|replace ht := oet_ ht|replace ht := oef_ ht|skip))|(refine tb_ ?_ ?_ ?_;(·(exact to_));(·intro _;(exact to_));intro _)|(first|(refine ybg 0 rfl rfl rfl (sbc_sz _) (sbc_fit rfl) (sbc_one hsk.one.1 hsk.one.2) (ybh (sbc_all rfl)) rfl rfl ?_ ?_ ?_;(·(exact to_));(·(exact to_)))|(refine tqs_ ?_ ?_ ?_;(·(exact to_));(·(exact to_))))|(apply ybn;(·(first|(first|exact tk_|(apply yad;(·rfl);(·exact hel _);(·exact hlen))|(apply yad;(·rfl);(·exact hel' _);(·exact hlen'))|(apply yad;(·rfl);(·exact yaz 0 rfl);(·exact hlen)))|(apply yae;(·rfl);(·(exact hcell _)))|exact tq_));(·rfl);(·rfl);(·rfl);(·(exact to_))))|refine ycg ?_))
          repeat' (first|(refine ycf ?_;apply ybk;(·first|(first|exact tk_|(apply yad;(·rfl);(·exact hel _);(·exact hlen))|(apply yad;(·rfl);(·exact hel' _);(·exact hlen'))|(apply yad;(·rfl);(·exact yaz 0 rfl);(·exact hlen)))|(apply yae;(·rfl);(·(exact hcell _))));(·rfl);(·rfl))|(refine ybg 0 rfl rfl rfl (sbc_sz _) (sbc_fit rfl) (sbc_one hsk.one.1 hsk.one.2) (ybh (sbc_all rfl)) rfl rfl ?_ ?_ ?_;(·(exact to_));(·(exact to_)))|refine t1_ ?_|(refine ta_ ?_;intro _)|((fail_if_success (refine ybi rfl ?_));refine ybj rfl ?_ ?_<;>(intro ht;rw [ht];first|replace ht := oet_ ht|replace ht := oef_ ht|skip))|(refine ych ?_;first|(refine ybw rfl ?_ ?_<;>intro ht)|(refine ybx rfl ?_ ?_<;>intro ht)))
          refine nx_round (k + 1) ⟨by show k + 1 ≤ _; omega, fun j hj => ?_⟩ (by show l.length - (k + 1) < l.length - k; omega) ts_ (fun _ s => s.tl)
          by_cases hjk : j = k
          · subst hjk; rw [hbk]; simp [hO]
          · exact hno j (by have : j < k + 1 := hj; omega)
      · repeat' (first|(refine ycf ?_;apply ybk;(·first|(first|exact tk_|(apply yad;(·rfl);(·exact hel _);(·exact hlen))|(apply yad;(·rfl);(·exact hel' _);(·exact hlen'))|(apply yad;(·rfl);(·exact yaz 0 rfl);(·exact hlen)))|(apply yae;(·rfl);(·(exact hcell _))));(·rfl);(·rfl))|(refine ybg 0 rfl rfl rfl (sbc_sz _) (sbc_fit rfl) (sbc_one hsk.one.1 hsk.one.2) (ybh (sbc_all rfl)) rfl rfl ?_ ?_ ?_;(·(exact to_));(·(exact to_)))|refine t1_ ?_|(refine ta_ ?_;intro _)|((fail_if_success (refine ybi rfl ?_));refine ybj rfl ?_ ?_<;>(intro ht;rw [ht];first|replace ht := oet_ ht|replace ht := oef_ ht|skip))|(refine ych ?_;first|(refine ybw rfl ?_ ?_<;>intro ht)|(refine ybx rfl ?_ ?_<;>intro ht)))
        refine cx_region_draw' rfl (by kernel_rfl) ?_
        repeat' (refine ycf ?_;(first|(first|(apply ybm;(·(first|(first|exact tk_|(apply yad;(·rfl);(·exact hel _);(·exact hlen))|(apply yad;(·rfl);(·exact hel' _);(·exact hlen'))|(apply yad;(·rfl);(·exact yaz 0 rfl);(·exact hlen)))|(apply yae;(·rfl);(·(exact hcell _)))|exact tq_));(·rfl);(·rfl);(·(exact th_)))|refine ybl rfl rfl ?_|((fail_if_success (refine ybi rfl ?_));refine ybj rfl ?_ ?_<;>(intro ht;rw [ht];first|replace ht := oet_ ht|replace ht := oef_ ht|skip))|(refine tb_ ?_ ?_ ?_;(·(exact to_));(·intro _;(exact to_));intro _)|(first|(refine ybg 0 rfl rfl rfl (sbc_sz _) (sbc_fit rfl) (sbc_one hsk.one.1 hsk.one.2) (ybh (sbc_all rfl)) rfl rfl ?_ ?_ ?_;(·(exact to_));(·(exact to_)))|(refine tqs_ ?_ ?_ ?_;(·(exact to_));(·(exact to_))))|(apply ybn;(·(first|(first|exact tk_|(apply yad;(·rfl);(·exact hel _);(·exact hlen))|(apply yad;(·rfl);(·exact hel' _);(·exact hlen'))|(apply yad;(·rfl);(·exact yaz 0 rfl);(·exact hlen)))|(apply yae;(·rfl);(·(exact hcell _)))|exact tq_));(·rfl);(·rfl);(·rfl);(·(exact to_))))|refine ycg ?_))
        (refine ycn (ycp Tryz.func35 rfl (by kernel_rfl) rfl) (SR) rfl rfl rfl ?_ ?_; (· (exact to_)))
        repeat' (refine ycf ?_;(first|(first|(apply ybm;(·(first|(first|exact tk_|(apply yad;(·rfl);(·exact hel _);(·exact hlen))|(apply yad;(·rfl);(·exact hel' _);(·exact hlen'))|(apply yad;(·rfl);(·exact yaz 0 rfl);(·exact hlen)))|(apply yae;(·rfl);(·(exact hcell _)))|exact tq_));(·rfl);(·rfl);(·(exact th_)))|refine ybl rfl rfl ?_|((fail_if_success (refine ybi rfl ?_));refine ybj rfl ?_ ?_<;>(intro ht;rw [ht];first|replace ht := oet_ ht|replace ht := oef_ ht|skip))|(refine tb_ ?_ ?_ ?_;(·(exact to_));(·intro _;(exact to_));intro _)|(first|(refine ybg 0 rfl rfl rfl (sbc_sz _) (sbc_fit rfl) (sbc_one hsk.one.1 hsk.one.2) (ybh (sbc_all rfl)) rfl rfl ?_ ?_ ?_;(·(exact to_));(·(exact to_)))|(refine tqs_ ?_ ?_ ?_;(·(exact to_));(·(exact to_))))|(apply ybn;(·(first|(first|exact tk_|(apply yad;(·rfl);(·exact hel _);(·exact hlen))|(apply yad;(·rfl);(·exact hel' _);(·exact hlen'))|(apply yad;(·rfl);(·exact yaz 0 rfl);(·exact hlen)))|(apply yae;(·rfl);(·(exact hcell _)))|exact tq_));(·rfl);(·rfl);(·rfl);(·(exact to_))))|refine ycg ?_))
        repeat' (first|(refine ycf ?_;apply ybk;(·first|(first|exact tk_|(apply yad;(·rfl);(·exact hel _);(·exact hlen))|(apply yad;(·rfl);(·exact hel' _);(·exact hlen'))|(apply yad;(·rfl);(·exact yaz 0 rfl);(·exact hlen)))|(apply yae;(·rfl);(·(exact hcell _))));(·rfl);(·rfl))|(refine ybg 0 rfl rfl rfl (sbc_sz _) (sbc_fit rfl) (sbc_one hsk.one.1 hsk.one.2) (ybh (sbc_all rfl)) rfl rfl ?_ ?_ ?_;(·(exact to_));(·(exact to_)))|refine t1_ ?_|(refine ta_ ?_;intro _)|((fail_if_success (refine ybi rfl ?_));refine ybj rfl ?_ ?_<;>(intro ht;rw [ht];first|replace ht := oet_ ht|replace ht := oef_ ht|skip))|(refine ych ?_;first|(refine ybw rfl ?_ ?_<;>intro ht)|(refine ybx rfl ?_ ?_<;>intro ht)))
        refine nx_round (k + 1) ⟨by show k + 1 ≤ _; omega, fun j hj => ?_⟩ (by show l.length - (k + 1) < l.length - k; omega) ts_ (fun _ s => s.tl)
        by_cases hjk : j = k
        · subst hjk; rw [hbk, decide_eq_false h0]; rfl
        · exact hno j (by have : j < k + 1 := hj; omega)
  · have hbad : (List.range (l.map Sb.a).length).any (badAt (l.map Sb.a)) = false := bad_no fun j hj => hno j (by rw [hlm] at hj; omega)
    repeat' (first|(refine ycf ?_;apply ybk;(·first|(exact tk_)|(apply yae;(·rfl);(·(exact hcell _))));(·rfl);(·rfl))|(refine ybg 0 rfl rfl rfl (sbc_sz _) (sbc_fit rfl) (sbc_one hsk.one.1 hsk.one.2) (ybh (sbc_all rfl)) rfl rfl ?_ ?_ ?_;(·(exact to_));(·(exact to_)))|refine t1_ ?_|(refine ta_ ?_;intro _)|((fail_if_success (refine ybi rfl ?_));refine ybj rfl ?_ ?_<;>(intro ht;rw [ht];first|replace ht := oet_ ht|replace ht := oef_ ht|skip))|(refine ych ?_;first|(refine ybw rfl ?_ ?_<;>intro ht)|(refine ybx rfl ?_ ?_<;>intro ht)))
    refine rx_bpersist rfl fun hbn => ?_
    have hle := Le.addV (h := h) (o := .cells #[.slice ad l.length cap] 24 (0, 0)) hbn
    have hs2 := hs0.mono hle
    (refine ycn (ycp Tryz.func37 rfl (by kernel_rfl) rfl) (scontainsFunc_sp 38 [.pointer (some ⟨b0, 0, none⟩)] _ _ (fun x => l.any fun y => hasA y.a x.d) _ l _ hs2 hl Tryz.func38 rfl (by kernel_rfl) (fun x hx => check1_sp b0 _ l x _ hs2 addV_same hl hll)) rfl rfl rfl ?_ ?_; (· (exact to_)))
    have hany : (l.map Sb.a).any (fun x => (l.map Sb.a).any fun y => hasA y x.1) = l.any fun x => l.any fun y => hasA y.a x.d := by
      rw [List.any_map]
      congr 1
      funext x
      rw [Function.comp_apply, List.any_map]
      rfl
    cases hA : (l.any fun x => l.any fun y => hasA y.a x.d) with
    | true =>
      repeat' (first|(refine ycf ?_;apply ybk;(·first|(exact tk_)|(apply yae;(·rfl);(·(exact hcell _))));(·rfl);(·rfl))|(refine ybg 0 rfl rfl rfl (sbc_sz _) (sbc_fit rfl) (sbc_one hsk.one.1 hsk.one.2) (ybh (sbc_all rfl)) rfl rfl ?_ ?_ ?_;(·(exact to_));(·(exact to_)))|refine t1_ ?_|(refine ta_ ?_;intro _)|((fail_if_success (refine ybi rfl ?_));refine ybj rfl ?_ ?_<;>(intro ht;rw [ht];first|replace ht := oet_ ht|replace ht := oef_ ht|skip))|(refine ych ?_;first|(refine ybw rfl ?_ ?_<;>intro ht)|(refine ybx rfl ?_ ?_<;>intro ht)))
      refine nx_ret1 rfl (rv_tmp rfl) (fun w' s' => ⟨?_, s'.base⟩)
      unfold checkA
      rw [hlm, if_neg h64, if_neg (by rw [← hlm, hbad]; decide), hany, hA, if_pos rfl]
    | false =>
      repeat' (first|(refine ycf ?_;apply ybk;(·first|(exact tk_)|(apply yae;(·rfl);(·(exact hcell _))));(·rfl);(·rfl))|(refine ybg 0 rfl rfl rfl (sbc_sz _) (sbc_fit rfl) (sbc_one hsk.one.1 hsk.one.2) (ybh (sbc_all rfl)) rfl rfl ?_ ?_ ?_;(·(exact to_));(·(exact to_)))|refine t1_ ?_|(refine ta_ ?_;intro _)|((fail_if_success (refine ybi rfl ?_));refine ybj rfl ?_ ?_<;>(intro ht;rw [ht];first|replace ht := oet_ ht|replace ht := oef_ ht|skip))|(refine ych ?_;first|(refine ybw rfl ?_ ?_<;>intro ht)|(refine ybx rfl ?_ ?_<;>intro ht)))
      refine nx_ret1 rfl (rv_tmp rfl) (fun w' s' => ⟨?_, s'.base⟩)
      unfold checkA
      rw [hlm, if_neg h64, if_neg (by rw [← hlm, hbad]; decide), hany, hA, if_neg (by decide)]
end Go.Proofs.YtkkjppeaaicgaaaGreatDoor
end

section
namespace Go.Proofs.YtkkjppeaaicgaaaGreatDoor
open Go Go.Ck
set_option maxRecDepth 100000
set_option maxHeartbeats 2000000
set_option linter.unusedVariables false
abbrev rowS (g cap m : Nat) (l : List Sb) : Res := Res.row 57 20 (.slice (some ⟨g, 0, none⟩) m cap) m (l.flatMap sbc)
def ordV : Value := .func (.func 36) #[] #[]
def Ones (l : List Sb) : Prop := ∀ x ∈ l, x.mv.oneCell' = true ∧ x.bv.oneCell' = true
section
variable {h : View} {L : List Res}
theorem row_el {g : Nat} {l : List Sb} {i j : Nat} {x : Sb} (c : Cells h L ⟨g, 0, none⟩ (l.flatMap sbc)) (hx : l[i]? = some x) (hj : j = i) : Cells h L ⟨g, 0 + j * 20, none⟩ (sbc x) := by
  subst hj
  obtain ⟨hi, rfl⟩ := List.getElem?_eq_some_iff.1 hx
  have h1 := (c.drop (j * 20)).take 20
  rwa [flat_at sbc_len l j hi] at h1
theorem spl_flat {l : List Sb} {j o : Nat} {x : Sb} (ho : o = j * 20) (hj : j < l.length) : spl (l.flatMap sbc) o (Value.agg (sbc x).toArray).cells.toList = (l.set j x).flatMap sbc := by
  subst ho
  show spl (l.flatMap sbc) (j * 20) (sbc x) = _
  induction l generalizing j with
  | nil => simp at hj
  | cons y l ih =>
    have hy := sbc_len y
    cases j with
    | zero =>
      unfold spl
      simp only [List.flatMap_cons, List.set_cons_zero, Nat.zero_mul, List.take_zero, List.nil_append, Nat.zero_add]
      rw [sbc_len, ← hy, List.drop_left]
    | succ j =>
      have h1 := ih (j := j) (by simpa using hj)
      unfold spl at h1 ⊢
      simp only [List.flatMap_cons, List.set_cons_succ]
      have e1 : (j + 1) * 20 = (sbc y).length + j * 20 := by omega
      rw [e1, List.take_length_add_append, Nat.add_assoc, List.drop_length_add_append, List.append_assoc, List.append_assoc, ← List.append_assoc (List.take _ _), h1]
theorem row_part {g cap m : Nat} {l : List Sb} {i o : Nat} {x : Sb} (hx : l[i]? = some x) (ho : o = 0 + i * 20) : ∀ w, Hd h [rowS g cap m l] w → Hd h [Res.part g o (.int .i64 x.d.1) ((sbc x).tail)] w := fun w s => ⟨s.view, fun r hr => by
  have hr : r = Res.part g o (.int .i64 x.d.1) ((sbc x).tail) := by simpa using hr
  subst hr
  intro j u hj
  subst ho
  have hc := row_el (h := h) (L := [rowS g cap m l]) (row_cells 0 rfl) hx rfl
  have := hc w s j u hj
  rwa [Addr.add_off] at this⟩
end
def KF (l m : List Sb) : Prop := ∀ d : Dt, l.filter (fun x => decide (x.d = d)) = m.filter (fun x => decide (x.d = d))
theorem KF.refl (l : List Sb) : KF l l := fun _ => rfl
theorem KF.symm {l m : List Sb} (h : KF l m) : KF m l := fun d => (h d).symm
theorem KF.trans {l m n : List Sb} (h : KF l m) (k : KF m n) : KF l n := fun d => (h d).trans (k d)
theorem KF.app {a b c d : List Sb} (h : KF a b) (k : KF c d) : KF (a ++ c) (b ++ d) := fun x => by rw [List.filter_append, List.filter_append, h x, k x]
theorem KF.mem {l m : List Sb} (h : KF l m) (x : Sb) : x ∈ l ↔ x ∈ m := by
  have := h x.d
  constructor
  · intro hx
    have : x ∈ m.filter (fun y => decide (y.d = x.d)) := by rw [← this]; exact List.mem_filter.2 ⟨hx, by simp⟩
    exact (List.mem_filter.1 this).1
  · intro hx
    have : x ∈ l.filter (fun y => decide (y.d = x.d)) := by rw [this]; exact List.mem_filter.2 ⟨hx, by simp⟩
    exact (List.mem_filter.1 this).1
theorem KF.move {x : Sb} : ∀ {l : List Sb}, (∀ y ∈ l, y.d ≠ x.d) → KF (l ++ [x]) (x :: l)
  | [], _ => KF.refl _
  | y :: l, h => fun d => by
    have ih := KF.move (l := l) (fun z hz => h z (List.mem_cons_of_mem _ hz)) d
    have hy := h y (List.mem_cons_self ..)
    rw [List.cons_append, List.filter_cons, ih]
    by_cases e1 : x.d = d
    · have e2 : y.d ≠ d := fun e => hy (e.trans e1.symm)
      simp [e1, e2]
    · simp [List.filter_cons, e1]
theorem KF.perm {l m : List Sb} (h : KF l m) : l.Perm m := by
  classical
  refine List.perm_iff_count.2 fun x => ?_
  have h1 := h x.d
  have e1 := List.count_filter (p := fun y : Sb => decide (y.d = x.d)) (a := x) (l := l) (by simp)
  have e2 := List.count_filter (p := fun y : Sb => decide (y.d = x.d)) (a := x) (l := m) (by simp)
  rw [← e1, ← e2, h1]
theorem KF.len {l m : List Sb} (h : KF l m) : l.length = m.length := h.perm.length_eq
theorem KF.swap {a b : List Sb} (h : ∀ x ∈ a, ∀ y ∈ b, y.d ≠ x.d) : KF (a ++ b) (b ++ a) := fun d => by
  rw [List.filter_append, List.filter_append]
  by_cases h1 : ∃ x ∈ a, x.d = d
  · obtain ⟨x, hx, rfl⟩ := h1
    have : b.filter (fun y => decide (y.d = x.d)) = [] := List.filter_eq_nil_iff.2 fun y hy => by simpa using h x hx y hy
    rw [this, List.append_nil, List.nil_append]
  · have : a.filter (fun y => decide (y.d = d)) = [] := List.filter_eq_nil_iff.2 fun y hy => by simpa using fun e => h1 ⟨y, hy, e⟩
    rw [this, List.append_nil, List.nil_append]
def SortS (l : List Sb) : Prop := l.Pairwise fun x y => ordD x.d y.d ≤ 0
theorem ord_le {x y : Dt} : ordD x y ≤ 0 ↔ ¬ ordD y x < 0 := by
  unfold ordD cmpI
  constructor
  · intro h1 h2
    split at h1 <;> split at h2 <;> (repeat' split at *) <;> omega
  · intro h1
    split at h1 <;> (repeat' split at *) <;> omega
theorem ord_le_trans {x y z : Dt} (h1 : ordD x y ≤ 0) (h2 : ordD y z ≤ 0) : ordD x z ≤ 0 := by
  rw [ord_le, ord_iff] at *
  omega
theorem ord_le_lt {x y : Dt} (h1 : ordD x y < 0) : ordD x y ≤ 0 := by omega
end Go.Proofs.YtkkjppeaaicgaaaGreatDoor
end
