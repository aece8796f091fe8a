/-
  Part 15 of a proof: CiE VaS CiF CmC CkSst VaR CiG CiH CiJ.
  Conditions: each theorem states its own.
-/
import Derived.Laws.Slices
import Derived.Test.YtaofgcahmfailaaGreatDoorCmNPM14
set_option maxRecDepth 100000
set_option linter.unusedVariables false
set_option linter.unusedSimpArgs false
section
namespace Go.Proofs.YtaofgcahmfailaaGreatDoor
open Go Go.Ck
set_option maxHeartbeats 1000000
theorem addN_idx (N : List (List Int)) (nm : List Int) : (addN N nm).idxOf nm = N.idxOf nm := by
  unfold addN
  split
  · rfl
  · rename_i h
    rw [List.idxOf_append, if_neg h, List.idxOf_eq_length h]
    simp
theorem addX_name (idl : Bool) (key : List Int) (N : List (List Int)) (nm : List Int) : nameX idl key (addX idl N nm) nm = nameX idl key N nm := by
  cases idl
  · rfl
  · show blindF key (addN N nm) nm = blindF key N nm
    unfold blindF
    rw [addN_idx]
theorem addX_add (idl : Bool) (N : List (List Int)) (nm : List Int) : addX idl (addX idl N nm) nm = addX idl N nm := by
  cases idl
  · rfl
  · show addN (addN N nm) nm = addN N nm
    have h : nm ∈ addN N nm := by
      unfold addN
      split
      · assumption
      · simp
    exact if_pos h
theorem addX_names {idl : Bool} {N : List (List Int)} (hN : Names N) {nm : List Int} (hx : Bytes nm) : Names (addX idl N nm) := by
  cases idl
  · exact hN
  · exact addN_names hN hx
theorem addX_len {idl : Bool} {N : List (List Int)} {nm : List Int} : (addX idl N nm).length ≤ N.length + 1 := by
  cases idl
  · exact Nat.le_succ _
  · show (addN N nm).length ≤ _
    unfold addN
    split
    · omega
    · simp
theorem openX_add (idl : Bool) (key : List Int) (N : List (List Int)) (T : Tab) (nm ek : List Int) (q : Hdr) (se : List Int) : openX idl key (addX idl N nm) T nm ek q se = openX idl key N T nm ek q se := by
  cases idl
  · rfl
  · show openF key (addN N nm) T nm ek q se = openF key N T nm ek q se
    have h : blindF key (addN N nm) nm = blindF key N nm := addX_name true key N nm
    unfold openF
    rw [h]
theorem copF_add (idl : Bool) (key : List Int) (N : List (List Int)) (T : Tab) (nm : List Int) (a : Ab) : copF idl key (addX idl N nm) T nm a = copF idl key N T nm a := by
  unfold copF
  rw [openX_add]
def OneN (idl : Bool) (N : List (List Int)) (nm : List Int) (M : List (List Int)) : Prop := M = N ∨ M = addX idl N nm
theorem OneN.cop {idl : Bool} {N M : List (List Int)} {nm : List Int} (h : OneN idl N nm M) (key : List Int) (T : Tab) (a : Ab) : copF idl key M T nm a = copF idl key N T nm a := by
  rcases h with rfl | rfl
  · rfl
  · exact copF_add ..
theorem OneN.con {idl : Bool} {N M : List (List Int)} {nm : List Int} (h : OneN idl N nm M) (a : Ab) : OneN idl N nm (copN idl M nm a) := by
  unfold copN
  split
  · rcases h with rfl | rfl
    · exact .inr rfl
    · exact .inr (addX_add ..)
  · exact h
theorem OneN.names {idl : Bool} {N M : List (List Int)} {nm : List Int} (h : OneN idl N nm M) (hN : Names N) (hx : Bytes nm) : Names M := by
  rcases h with rfl | rfl
  · exact hN
  · exact addX_names hN hx
theorem OneN.len {idl : Bool} {N M : List (List Int)} {nm : List Int} (h : OneN idl N nm M) : M.length ≤ N.length + 1 := by
  rcases h with rfl | rfl
  · omega
  · exact addX_len
abbrev Tv := Dt × List Int × List Dt × Int × Bool × List Int
def Vl.t (v : Vl) : Tv := (v.d, v.u, v.l, v.ep, v.gone, v.b)
def rdV (idl : Bool) (key : List Int) (N : List (List Int)) (T : Tab) (nm : List Int) (L : List Ab) : List Tv := L.filterMap fun a => if (copF idl key N T nm a).1 = 0 then some (a.1, a.2.1, a.2.2.1, (copF idl key N T nm a).2) else none
def rdE (idl : Bool) (key : List Int) (N : List (List Int)) (T : Tab) (nm : List Int) (L : List Ab) : List Int := L.filterMap fun a => if (copF idl key N T nm a).1 = 0 then none else some (copF idl key N T nm a).1
def Vs (h : View) (v : Value) (O : List Vl) : Prop := Sc h 22 v O.length (O.flatMap vlc) ∧ ∀ o ∈ O, Vv h o
theorem Vv.mono {h h' : View} {v : Vl} (s : Vv h v) (hl : Le h h') : Vv h' v := ⟨s.ds.mono hl, s.bs.mono hl⟩
theorem Vs.mono {h h' : View} {v : Value} {O : List Vl} (s : Vs h v O) (hl : Le h h') : Vs h' v O := ⟨s.1.mono hl, fun o ho => (s.2 o ho).mono hl⟩
abbrev rowV (v : Value) (O : List Vl) : Res := Res.row 71 22 v O.length (O.flatMap vlc)
theorem Vv.one {h : View} {v : Vl} (s : Vv h v) : (Value.agg (vlc v).toArray).cells.toList.all Value.oneCell' = true := by
  show (vlc v).all Value.oneCell' = true
  obtain ⟨_, _, _, e1, _⟩ := s.ds
  obtain ⟨_, _, _, e2, _⟩ := s.bs
  have h1 : v.mv.oneCell' = true := by rw [e1]; rfl
  have h2 : v.bv.oneCell' = true := by rw [e2]; rfl
  have h4 : (cxc v.u v.mv).all Value.oneCell' = true := cxc_one h1
  simp only [vlc, List.all_append, h4, List.all_cons, List.all_nil, h2, Bool.and_true, dcs]
  rfl
theorem CRead_sp (idl : Bool) (hO : OpenC idl) (b : Nat) (id : Int) (bv : Nat) (ep ct : Int) (bm : Nat) (key : List Int) (bn bu bt : Nat) (N : List (List Int)) (T : Tab) (nm : List Int) (l : List Sb) (vn vl : Value) (hk : Bytes key) (hk32 : key.length = 32)
    (hN : Names N) (hNl : N.length < 800000) (hTl : ∀ x ∈ T, x.2.2.length ≤ 900000 ∧ Bytes x.2.2) (hnm : Bytes nm) (hnl : 1 ≤ nm.length ∧ nm.length ≤ 64) (hll : l.length ≤ 1000) (hlim : ∀ g ∈ l, g.b.length ≤ 140737488355328 ∧ g.l.length ≤ 4611686018427387904)
    (h : View) (hT : TbOk h T) (hv : Vb h bv idl key bn bu bt) (hsn : Bs8 h vn nm) (hl : Ss h vl l) (hg : idl = false → ShG h) (w : World) (s : St ⟨w, h, doms [clR b id bv ep ct bm, nmR bn N, tbR bt T]⟩ h [clR b id bv ep ct bm, nmR bn N, tbR bt T] w) :
    Calls Tryz.prog 16 [.pointer (some ⟨b, 0, none⟩), vn, vl].toArray w fun e w' => ∃ y : View × Value × List Vl × List (List Int), e = .returned (.tuple #[y.2.1, .int .i64 ((rdE idl key N T nm (l.map Sb.a)).length : Nat), .int .i64 ((rdE idl key N T nm (l.map Sb.a)).headD 0)]) ∧
      St ⟨w, h, doms [clR b id bv ep ct bm, nmR bn N, tbR bt T]⟩ y.1 [clR b id bv ep ct bm, nmR bn y.2.2.2, tbR bt T] w' ∧ (Vs y.1 y.2.1 y.2.2.1 ∧ OneN idl N nm y.2.2.2 ∧ y.2.2.1.map Vl.t = rdV idl key N T nm (l.map Sb.a)) := by
  obtain ⟨_, adn, capn, rfl, hcapn, _⟩ := (show Bs8 _ _ _ from hsn)
  obtain ⟨_, adl, capl, rfl, hcapl, _⟩ := (show Sc _ _ _ _ _ from hl.1)
  refine calls_enter Tryz.func16 rfl Tryz.ntmps16 rfl s ?_
  repeat' (first|(refine ycf ?_;apply ybk;(·first|(first|exact tk_|(apply qv_eql_pnil<;>rfl)|(apply qv_nilCheck;rfl)));(·rfl);(·rfl))|refine t1_ ?_|(refine ta_ ?_;intro _)|((fail_if_success (refine ybi rfl ?_));refine ybj rfl ?_ ?_<;>(intro ht;rw [ht];first|replace ht := oet_ ht|replace ht := oef_ ht|skip))|(refine ych ?_;first|(refine ybw rfl ?_ ?_<;>intro ht)|(refine ybx rfl ?_ ?_<;>intro ht)))
  refine cx_row 71 22 ?_
  refine cx_loop (X := Nat × View × List (List Int) × Value × List Vl) (fun y => [(0, .pointer (some ⟨b, 0, none⟩)), (1, .slice adn nm.length capn), (9, y.2.2.2.1), (10, .int .i64 ((rdE idl key N T nm ((l.take y.1).map Sb.a)).length : Nat)), (11, .int .i64 ((rdE idl key N T nm ((l.take y.1).map Sb.a)).headD 0)), (28, .slice adl l.length capl), (29, .int .i64 (l.length : Nat)), (30, .int .i64 (y.1 : Nat))]) (fun y => y.2.1)
    (fun y => [rowV y.2.2.2.1 y.2.2.2.2, clR b id bv ep ct bm, nmR bn y.2.2.1, tbR bt T]) (fun y => y.1 ≤ l.length ∧ Le h y.2.1 ∧ OneN idl N nm y.2.2.1 ∧ (∀ o ∈ y.2.2.2.2, Vv y.2.1 o) ∧ y.2.2.2.2.map Vl.t = rdV idl key N T nm ((l.take y.1).map Sb.a)) (fun y => l.length - y.1)
    (0, h, N, .slice none 0 0, []) ⟨Nat.zero_le _, Le.refl _, .inl rfl, fun o ho => (by cases ho), rfl⟩ ts_ (fun _ s => s) ?_
  rintro ⟨k, hh, M, vo, O⟩ ⟨p1, p2, p3, p4, p5⟩
  dsimp only at p1 p2 p3 p4 p5 ⊢
  have hOl : O.length ≤ k := by
    have e := congrArg List.length p5
    rw [List.length_map] at e
    rw [e]
    refine Nat.le_trans (List.length_filterMap_le _ _) ?_
    rw [List.length_map, List.length_take]
    omega
  have hEl : (rdE idl key N T nm ((l.take k).map Sb.a)).length ≤ k := by
    refine Nat.le_trans (List.length_filterMap_le _ _) ?_
    rw [List.length_map, List.length_take]
    omega
  by_cases hkl : k < l.length
  · obtain ⟨bs, o, rfl⟩ := (hl.1.mono p2).ad (by omega) (by omega)
    have hs3 := hl.1.mono p2
    have hel : ∀ L, Cells hh L ⟨bs, o + k * 20, none⟩ (sbc l[k]) := fun L => hs3.elem sbc_len k hkl
    have hxv : Sv hh l[k] := (hl.2 _ (List.getElem_mem hkl)).mono p2
    have hxm := hlim _ (List.getElem_mem hkl)
    have htV : rdV idl key N T nm ((l.take (k + 1)).map Sb.a) = rdV idl key N T nm ((l.take k).map Sb.a) ++ rdV idl key N T nm [l[k].a] := by
      rw [List.take_succ_eq_append_getElem hkl, List.map_append]
      exact List.filterMap_append
    have htE : rdE idl key N T nm ((l.take (k + 1)).map Sb.a) = rdE idl key N T nm ((l.take k).map Sb.a) ++ rdE idl key N T nm [l[k].a] := by
      rw [List.take_succ_eq_append_getElem hkl, List.map_append]
      exact List.filterMap_append
    generalize l[k] = g at hel hxv hxm htV htE
    have hgl := sbc_len g
    have hone := hxv.one
    have hcp := p3.cop key T g.a
    have O1 := copen_sp idl hO b id bv ep ct bm key bn bu bt M T nm g _ hk hk32 (p3.names hN hnm) (by have := p3.len; omega) hTl hnm hnl hxm.1 hxm.2 hh (hT.mono p2) (hv.mono p2) (hsn.mono p2) hxv (fun e => (hg e).mono p2)
    have p6 := p3.con g.a
    rw [hcp] at O1
    generalize copN idl M nm g.a = M2 at O1 p6
    have hrV : rdV idl key N T nm [g.a] = if (copF idl key N T nm g.a).1 = 0 then [(g.d, g.u, g.l, (copF idl key N T nm g.a).2)] else [] := by
      unfold rdV
      rw [List.filterMap_cons, List.filterMap_nil]
      split <;> (split at * <;> simp_all [Sb.a])
    have hrE : rdE idl key N T nm [g.a] = if (copF idl key N T nm g.a).1 = 0 then [] else [(copF idl key N T nm g.a).1] := by
      unfold rdE
      rw [List.filterMap_cons, List.filterMap_nil]
      split <;> (split at * <;> simp_all)
    rw [hrV] at htV
    rw [hrE] at htE
    generalize copF idl key N T nm g.a = cp at O1 htV htE
    obtain ⟨ce, cr⟩ := cp
    dsimp only at O1 htV htE
    repeat' (first|(refine ycf ?_;apply ybk;(·first|(first|exact tk_|(apply yad;(·rfl);(·exact hel _);(·exact hgl))|(apply yad;(·rfl);(·exact yaz 0 rfl);(·exact hgl))));(·rfl);(·rfl))|(refine ybg 0 rfl rfl rfl (sbc_sz g) (sbc_fit rfl) (sbc_one hone.1 hone.2) (ybh (sbc_all rfl)) rfl rfl ?_ ?_ ?_;(·(exact to_));(·(exact to_)))|refine t1_ ?_|(refine ta_ ?_;intro _)|((fail_if_success (refine ybi rfl ?_));refine ybj rfl ?_ ?_<;>(intro ht;rw [ht];first|replace ht := oet_ ht|replace ht := oef_ ht|skip))|(refine ych ?_;first|(refine ybw rfl ?_ ?_<;>intro ht)|(refine ybx rfl ?_ ?_<;>intro ht)))
    refine rx_call_l (ycp Tryz.func29 rfl (by kernel_rfl) rfl) (pick3 2 2 2 rfl rfl rfl) O1 rfl rfl rfl ybf (fun _ _ _ => ybf) ?_
    rintro ⟨h2, z⟩ ⟨hz, hze⟩ hle2
    dsimp only at hz hze hle2 ⊢
    have hzl := vlc_len z
    have hzo := hz.one
    have p22 : Le h h2 := Le.trans p2 hle2
    have p42 : ∀ o ∈ O, Vv h2 o := fun o ho => (p4 o ho).mono hle2
    by_cases hce : ce = 0
    · subst hce
      obtain ⟨z1, z2, z3, z4⟩ := hze rfl
      rw [if_pos rfl] at htV htE
      rw [List.append_nil] at htE
      repeat' (first|(refine ycf ?_;apply ybk;(·first|(first|exact tk_|(apply yad;(·rfl);(·exact yaz 0 rfl);(·exact hzl))));(·rfl);(·rfl))|(refine ybg 0 rfl rfl rfl (by show (vlc z).toArray.size = 22;rw [List.size_toArray, vlc_len]) (by show 0 + (vlc z).toArray.size ≤ 22;rw [List.size_toArray, vlc_len];omega) hzo (ybh (by show (vlc z).length = 22;rw [vlc_len])) rfl rfl ?_ ?_ ?_;(·(exact to_));(·(exact to_)))|refine t1_ ?_|(refine ta_ ?_;intro _)|((fail_if_success (refine ybi rfl ?_));refine ybj rfl ?_ ?_<;>(intro ht;rw [ht];first|replace ht := oet_ ht|replace ht := oef_ ht|skip))|(refine ych ?_;first|(refine ybw rfl ?_ ?_<;>intro ht)|(refine ybx rfl ?_ ?_<;>intro ht)))
      refine yba (ybd rfl rfl rfl (ybe rfl (by show (vlc z).toArray.size = 22; rw [List.size_toArray, vlc_len]))) rfl rfl rfl ybf (fun _ => ybf) ?_
      intro bs2
      refine rx_append (sz := 22) 6 rfl rfl rfl (yaz 0 rfl) (by show (vlc z).length = 1 * 22; exact vlc_len z) (fun u hu => List.all_eq_true.1 hzo u hu) rfl (by omega) (by unfold maxLen; omega) (by omega) rfl rfl rfl ybf (fun _ => ybf) ?_
      intro v2 _
      repeat' (first|(refine ycf ?_;apply ybk;(·first|(exact tk_));(·rfl);(·rfl))|refine t1_ ?_|(refine ta_ ?_;intro _)|((fail_if_success (refine ybi rfl ?_));refine ybj rfl ?_ ?_<;>(intro ht;rw [ht];first|replace ht := oet_ ht|replace ht := oef_ ht|skip))|(refine ych ?_;first|(refine ybw rfl ?_ ?_<;>intro ht)|(refine ybx rfl ?_ ?_<;>intro ht)))
      refine nx_round (k + 1, h2, M2, v2, O ++ [z]) ⟨by show k + 1 ≤ _; omega, p22, p6, fun o ho => ?_, ?_⟩ (by show l.length - (k + 1) < l.length - k; omega) ?_ (fun _ s => ?_)
      · rcases List.mem_append.1 ho with ho | ho
        · exact p42 o ho
        · rw [List.mem_singleton.1 ho]; exact hz
      · dsimp only
        rw [htV, List.map_append, p5]
        show _ ++ [z.t] = _
        rw [show z.t = (g.d, g.u, g.l, cr) by show (z.d, z.u, z.l, z.ep, z.gone, z.b) = _; rw [z1, z2, z3, z4]]
      · dsimp only
        rw [htE]
        exact ts_
      · have s2 := s.picks [6, 2, 2, 2]
        dsimp only
        show St _ _ [Res.row _ _ v2 (O ++ [z]).length ((O ++ [z]).flatMap vlc), _, _, _] _
        rw [List.length_append, List.flatMap_append, show [z].flatMap vlc = vlc z by simp]
        exact s2
    · rw [if_neg hce] at htV htE
      rw [List.append_nil] at htV
      have hlen2 : (((rdE idl key N T nm ((l.take (k + 1)).map Sb.a)).length : Nat) : Int) = ((rdE idl key N T nm ((l.take k).map Sb.a)).length : Nat) + 1 := by rw [htE, List.length_append]; rfl
      have hhd2 : ∀ x : Int, (x = if (((rdE idl key N T nm ((l.take k).map Sb.a)).length : Nat) : Int) = 0 then ce else (rdE idl key N T nm ((l.take k).map Sb.a)).headD 0) → (rdE idl key N T nm ((l.take (k + 1)).map Sb.a)).headD 0 = x := by
        intro x hx
        rw [hx, htE]
        generalize rdE idl key N T nm ((l.take k).map Sb.a) = E0
        cases E0 with
        | nil => rfl
        | cons e E0 =>
          rw [if_neg (by simp; omega)]
          rfl
      repeat' (first|(refine ycf ?_;apply ybk;(·first|(exact tk_));(·rfl);(·rfl))|(refine ybg 0 rfl rfl rfl (by show (vlc z).toArray.size = 22;rw [List.size_toArray, vlc_len]) (by show 0 + (vlc z).toArray.size ≤ 22;rw [List.size_toArray, vlc_len];omega) hzo (ybh (by show (vlc z).length = 22;rw [vlc_len])) rfl rfl ?_ ?_ ?_;(·(exact to_));(·(exact to_)))|refine t1_ ?_|(refine ta_ ?_;intro _)|((fail_if_success (refine ybi rfl ?_));refine ybj rfl ?_ ?_<;>(intro ht;rw [ht];first|replace ht := oet_ ht|replace ht := oef_ ht|skip))|(refine ych ?_;first|(refine ybw rfl ?_ ?_<;>intro ht)|(refine ybx rfl ?_ ?_<;>intro ht)))
      all_goals
        refine nx_round (k + 1, h2, M2, vo, O) ⟨by show k + 1 ≤ _; omega, p22, p6, p42, by dsimp only; rw [htV]; exact p5⟩ (by show l.length - (k + 1) < l.length - k; omega) ?_ (fun _ s => s.picks [5, 1, 1, 1])
        dsimp only
      · rw [hlen2, hhd2 ce (by rw [if_pos (by assumption)])]
        exact ts_
      · rw [hlen2, hhd2 _ (by rw [if_neg (by assumption)])]
        exact ts_
  have ek : k = l.length := by omega
  subst ek
  rw [List.take_length] at p5 ⊢
  repeat' (first|(refine ycf ?_;apply ybk;(·first|(exact tk_));(·rfl);(·rfl))|refine t1_ ?_|(refine ta_ ?_;intro _)|((fail_if_success (refine ybi rfl ?_));refine ybj rfl ?_ ?_<;>(intro ht;rw [ht];first|replace ht := oet_ ht|replace ht := oef_ ht|skip))|(refine ych ?_;first|(refine ybw rfl ?_ ?_<;>intro ht)|(refine ybx rfl ?_ ?_<;>intro ht)))
  exact nx_ret3 rfl (rv_tmp rfl) (rv_tmp rfl) (rv_tmp rfl) (fun w' s' => by
    obtain ⟨h3, hle3, hrow, s3⟩ := s'.rowPersistA (by intro z hz;simp [doms, Res.mp, Res.blk] at hz;simp [doms, Res.mp, Res.blk];rcases hz with rfl | rfl | rfl<;>simp)
    exact ⟨(h3, vo, O, M), rfl, s3, ⟨hrow, fun o ho => (p4 o ho).mono hle3⟩, p3, p5⟩)
end Go.Proofs.YtaofgcahmfailaaGreatDoor
end

section
namespace Go.Proofs.YtaofgcahmfailaaGreatDoor
open Go Go.Ck
set_option maxHeartbeats 4000000
theorem idx_add {N : List (List Int)} {x : List Int} : (addN N x).idxOf x = N.idxOf x := by
  unfold addN
  split
  · rfl
  · rename_i h
    rw [List.idxOf_append, if_neg h, List.idxOf_eq_length h, List.idxOf_cons_self, Nat.zero_add]
theorem blindF_add (key : List Int) (N : List (List Int)) (x : List Int) : blindF key (addN N x) x = blindF key N x := by
  unfold blindF
  rw [idx_add]
theorem blindF_ne (key : List Int) {N M : List (List Int)} {x y : List Int} (h1 : N.idxOf x < 900000) (h2 : M.idxOf y < 900000) (h : N.idxOf x ≠ M.idxOf y) : blindF key N x ≠ blindF key M y :=
  drawF_ne key (by omega) (by omega) (by omega)
theorem byC_putV {b r : List Int} {most : Int} (hl : (b.length : Int) ≤ most) (h4 : b.length < 4294967296) : byC (num4 (b.length : Int) ++ b ++ r, 0) most = (b, (r, 0)) := by
  have h1 : lookC (num4 (b.length : Int) ++ b ++ r) 4 most = ((b.length : Int), 0) := by
    have := numC_put (size := 4) (x := (b.length : Int)) (most := most) (r := b ++ r) (by omega) hl (by
      have e : (256 : Int) ^ 4 = 4294967296 := by decide
      rw [e]; omega)
    unfold numC at this
    rw [if_neg (by simp)] at this
    dsimp only at this
    rw [show (putLow 4 (b.length : Int)).reverse ++ (b ++ r) = num4 (b.length : Int) ++ b ++ r by rw [List.append_assoc]; rfl] at this
    split at this
    · rename_i hz
      have e1 := congrArg Prod.fst this
      dsimp only at e1
      exact Prod.ext e1 hz
    · rename_i hz
      have e2 := congrArg (fun p => p.2.2) this
      exact absurd e2 hz
  have hlen : (num4 (b.length : Int) ++ b ++ r).length = 4 + b.length + r.length := by simp only [List.length_append, num4_len]
  have hd : (num4 (b.length : Int) ++ b ++ r).drop 4 = b ++ r := by
    rw [List.append_assoc, List.drop_append_of_le_length (by rw [num4_len]; exact Nat.le_refl _), List.drop_of_length_le (by rw [num4_len]; exact Nat.le_refl _), List.nil_append]
  unfold byC
  rw [if_neg (by simp)]
  dsimp only
  rw [h1, if_neg (by simp)]
  dsimp only
  rw [hlen, Int.toNat_natCast, if_neg (by omega), hd]
  rw [List.take_left, List.drop_left]
theorem cutV_pad {b : List Int} (hb : Bytes b) (hl : b.length ≤ 4000) : cutV (padW b) = b := by
  unfold cutV padW
  rw [byC_putV (by omega) (by omega)]
theorem cutOk_pad {b : List Int} (hb : Bytes b) (hl : b.length ≤ 4000) : cutOk (padW b) = true := by
  unfold cutOk
  rw [cutV_pad hb hl]
  simp
theorem valF_pad {del : Bool} {val : List Int} (hb : Bytes val) (hl : del = false → val.length ≤ 3999) : valF (padW (inF del val)) = (if del then [] else val, del, 0) := by
  unfold valF
  rw [if_pos (cutOk_pad (inF_by hb) (inF_len hl)), cutV_pad (inF_by hb) (inF_len hl)]
  unfold vlF inF
  cases del <;> simp
end Go.Proofs.YtaofgcahmfailaaGreatDoor
end

section
namespace Go.Proofs.YtaofgcahmfailaaGreatDoor
open Go Go.Ck
set_option maxHeartbeats 1000000
theorem nput {x : Int} {r : List Int} (h : 0 ≤ x ∧ x ≤ 4611686018427387904) : numC (num8 x ++ r, 0) 8 4611686018427387904 = (x, (r, 0)) :=
  numC_put h.1 h.2 (by have : (256 : Int) ^ 8 = 18446744073709551616 := by decide
                       rw [this]; omega)
theorem rdN4_put {a b c d : Int} {r : List Int} (ha : 0 ≤ a ∧ a ≤ 4611686018427387904) (hb : 0 ≤ b ∧ b ≤ 4611686018427387904) (hc : 0 ≤ c ∧ c ≤ 4611686018427387904) (hd : 0 ≤ d ∧ d ≤ 4611686018427387904) :
    rdN (num8 a ++ (num8 b ++ (num8 c ++ (num8 d ++ r))), 0) 4 = ([a, b, c, d], (r, 0)) := by
  simp only [rdN, nput ha, nput hb, nput hc, nput hd]
  rfl
theorem rd_enc {ek : List Int} {q : Hdr} {se : List Int} (hk : ek.length = 32) (hq : q.ok) (hs : 16 ≤ se.length ∧ se.length ≤ 8192) :
    rdOk (encE ek q se) ∧ (rdK (encE ek q se)).1 = ek ∧ rdQ (encE ek q se) = q ∧ (rdZ (encE ek q se)).1 = se := by
  obtain ⟨⟨e1, e2⟩, ⟨c1, c2⟩, ⟨d1, d2⟩, ⟨n1, n2⟩, pl⟩ := id hq
  have k0 : rdK (encE ek q se) = (ek, (num8 q.ep ++ (num8 q.ct ++ (num8 q.cl ++ (num8 q.nu ++ (num4 q.past.length ++ q.past ++ (num4 se.length ++ se ++ []))))), 0)) := by
    unfold rdK fixC encE boundF
    have e : ek ++ num8 q.ep ++ num8 q.ct ++ num8 q.cl ++ num8 q.nu ++ num4 ↑q.past.length ++ q.past ++ num4 ↑se.length ++ se = ek ++ (num8 q.ep ++ (num8 q.ct ++ (num8 q.cl ++ (num8 q.nu ++ (num4 q.past.length ++ q.past ++ (num4 se.length ++ se ++ [])))))) := by simp
    dsimp only
    rw [e, if_neg (by simp), if_neg (by rw [List.length_append]; omega), List.take_left' hk, List.drop_left' hk]
  have h0 : rdH (encE ek q se) = ([q.ep, q.ct, q.cl, q.nu], (num4 q.past.length ++ q.past ++ (num4 se.length ++ se ++ []), 0)) := by
    unfold rdH
    rw [k0]
    exact rdN4_put (by omega) (by omega) (by omega) (by omega)
  have p0 : rdP (encE ek q se) = (q.past, (num4 se.length ++ se ++ [], 0)) := by
    unfold rdP
    rw [h0]
    exact byC_putV (by omega) (by omega)
  have z0 : rdZ (encE ek q se) = (se, ([], 0)) := by
    unfold rdZ
    rw [p0]
    exact byC_putV (by omega) (by omega)
  have q0 : rdQ (encE ek q se) = q := by
    unfold rdQ
    rw [h0, p0]
    rfl
  refine ⟨⟨?_, ?_, ?_⟩, by rw [k0], q0, by rw [z0]⟩
  · rw [z0]; rfl
  · rw [q0]; exact hq
  · rw [z0]; exact hs
theorem cop_written {idl : Bool} {key : List Int} {N : List (List Int)} {T : Tab} {nm ek se : List Int} {q : Hdr} {u : List Int} {l : List Dt} (hk : ek.length = 32) (hq : q.ok) (hs : 16 ≤ se.length ∧ se.length ≤ 8192) (hc : checkC u l = 0) (hp : q.past = encW u l) :
    copF idl key N T nm ((q.cl, q.nu), u, l, encE ek q se) = if (openX idl key N T nm ek q se).2.2 = 0 then (0, q.ep, (openX idl key N T nm ek q se).2.1, (openX idl key N T nm ek q se).1) else ((openX idl key N T nm ek q se).2.2, 0, false, []) := by
  obtain ⟨r1, r2, r3, r4⟩ := rd_enc hk hq hs
  unfold copF
  dsimp only
  rw [if_pos r1, r2, r3, r4, if_pos ⟨hc, rfl, hp.symm⟩]
theorem openF_in {key : List Int} {N : List (List Int)} {T : Tab} {nm ek se : List Int} {q : Hdr} {x : Value × List Int} (h1 : blindF key N nm = ek) (h2 : mget T (q.cl, q.ct, q.ep, bstr (boundF ek q), bstr se) = some x) : openX true key N T nm ek q se = valF x.2 := by
  show openF key N T nm ek q se = _
  unfold openF
  rw [if_pos h1, h2]
end Go.Proofs.YtaofgcahmfailaaGreatDoor
end

section
namespace Go.Proofs.YtaofgcahmfailaaGreatDoor
open Go Go.Ck
set_option maxHeartbeats 1000000
theorem num8_injT {x y : Int} (hx : 0 ≤ x ∧ x < 18446744073709551616) (hy : 0 ≤ y ∧ y < 18446744073709551616) (h : num8 x = num8 y) : x = y := by
  have h2 := congrArg valB h
  unfold num8 at h2
  rw [val_putLow 8 x hx.1 (by have := hx.2; omega), val_putLow 8 y hy.1 (by have := hy.2; omega)] at h2
  exact h2
theorem bound_injT {ek ek' : List Int} {q q' : Hdr} (h1 : ek.length = 32) (h2 : ek'.length = 32) (hx : 0 ≤ q.nu ∧ q.nu < 18446744073709551616) (hy : 0 ≤ q'.nu ∧ q'.nu < 18446744073709551616) (h : boundF ek q = boundF ek' q') :
    ek = ek' ∧ q.nu = q'.nu ∧ q.past = q'.past := by
  unfold boundF at h
  simp only [List.append_assoc] at h
  obtain ⟨e1, h⟩ := List.append_inj h (by rw [h1, h2])
  obtain ⟨_, h⟩ := List.append_inj h (by rw [num8_len, num8_len])
  obtain ⟨_, h⟩ := List.append_inj h (by rw [num8_len, num8_len])
  obtain ⟨_, h⟩ := List.append_inj h (by rw [num8_len, num8_len])
  obtain ⟨e2, h⟩ := List.append_inj h (by rw [num8_len, num8_len])
  obtain ⟨_, e3⟩ := List.append_inj h (by rw [num4_len, num4_len])
  exact ⟨e1, num8_injT hx hy e2, e3⟩
theorem boundF_byT {ek : List Int} {q : Hdr} (h1 : Bytes ek) (h2 : Bytes q.past) : Bytes (boundF ek q) :=
  cbytes_app (cbytes_app (cbytes_app (cbytes_app (cbytes_app (cbytes_app h1 (putLow_bytes' 8 _)) (putLow_bytes' 8 _)) (putLow_bytes' 8 _)) (putLow_bytes' 8 _)) (putLow_bytes' 4 _)) h2
theorem blindF_inj {key : List Int} {N : List (List Int)} {x y : List Int} (hN : N.length < 900000) (hy : y ∈ N) (h : blindF key N x = blindF key N y) : x = y := by
  have hlt : N.idxOf y < N.length := List.idxOf_lt_length_iff.2 hy
  by_cases e : N.idxOf x = N.idxOf y
  · have hx : N.idxOf x < N.length := by omega
    have e1 := List.getElem_idxOf hx
    have e2 := List.getElem_idxOf hlt
    rw [← e1, ← e2]
    congr 1
  · have := List.idxOf_le_length (a := x) (l := N)
    exact absurd h (blindF_ne key (by omega) (by omega) e)
theorem blindF_old {key : List Int} {N : List (List Int)} {x y : List Int} (hy : y ∈ N) : blindF key (addN N x) y = blindF key N y := by
  unfold addN
  split
  · rfl
  · unfold blindF
    rw [List.idxOf_append, if_pos hy]
theorem mem_addN {N : List (List Int)} {x y : List Int} (hy : y ∈ N) : y ∈ addN N x := by
  unfold addN
  split
  · exact hy
  · exact List.mem_append_left _ hy
theorem mem_addN_self {N : List (List Int)} {x : List Int} : x ∈ addN N x := by
  unfold addN
  split
  · assumption
  · exact List.mem_append_right _ (List.mem_singleton.2 rfl)
def Told1 (key : List Int) (N : List (List Int)) (A : List Tv) (M : List (List Int)) (x : SeaK × Value × List Int) : Prop :=
  ∃ (j : Nat) (nm : List Int) (q : Hdr) (u : List Int) (l : List Dt), M[j]? = some nm ∧ nm ∈ N ∧ q.ok ∧ u.length = 16 ∧ checkC u l = 0 ∧ q.past = encW u l ∧ x.1.1 = q.cl ∧ x.1.2.1 = q.ct ∧ x.1.2.2.1 = q.ep ∧
    x.1.2.2.2.1 = bstr (boundF (blindF key N nm) q) ∧ A[j]? = some ((q.cl, q.nu), u, l, q.ep, (valF x.2.2).2.1, (valF x.2.2).1)
def Told (key : List Int) (N : List (List Int)) (T : Tab) (A : List Tv) (M : List (List Int)) : Prop := ∀ x ∈ T, Told1 key N A M x
theorem Told1.grow {key : List Int} {N : List (List Int)} {A : List Tv} {M : List (List Int)} {x : SeaK × Value × List Int} (h : Told1 key N A M x) (nm : List Int) (a : Tv) (m : List Int) : Told1 key (addN N nm) (A ++ [a]) (M ++ [m]) x := by
  obtain ⟨j, n1, q, u, l, h1, h2, h3, h4, h5, h6, h7, h8, h9, h10, h11⟩ := h
  refine ⟨j, n1, q, u, l, ?_, mem_addN h2, h3, h4, h5, h6, h7, h8, h9, ?_, ?_⟩
  · rw [List.getElem?_append_left (List.getElem?_eq_some_iff.1 h1).1]; exact h1
  · rw [blindF_old h2]; exact h10
  · rw [List.getElem?_append_left (List.getElem?_eq_some_iff.1 h11).1]; exact h11
theorem Told.add {key : List Int} {N : List (List Int)} {T : Tab} {A : List Tv} {M : List (List Int)} (h : Told key N T A M) (hAM : A.length = M.length) {nm val se : List Int} {q : Hdr} {u : List Int} {l : List Dt} {del : Bool} {tv : Value}
    (hq : q.ok) (hu : u.length = 16) (hc : checkC u l = 0) (hp : q.past = encW u l) (hv : Bytes val) (hvl : val.length ≤ 3999) :
    Told key (addN N nm) (T ++ [((q.cl, q.ct, q.ep, bstr (boundF (blindF key N nm) q), bstr se), tv, padW (inF del val))]) (A ++ [((q.cl, q.nu), u, l, q.ep, del, if del then [] else val)]) (M ++ [nm]) := by
  intro x hx
  rcases List.mem_append.1 hx with hx | hx
  · exact (h x hx).grow nm _ nm
  · rw [List.mem_singleton.1 hx]
    have hvf := valF_pad (del := del) hv (fun _ => hvl)
    refine ⟨M.length, nm, q, u, l, by simp, mem_addN_self, hq, hu, hc, hp, rfl, rfl, rfl, ?_, ?_⟩
    · dsimp only; rw [blindF_add]
    · dsimp only
      rw [hvf, ← hAM]
      simp
theorem told_cop {key : List Int} {N : List (List Int)} {T : Tab} {A : List Tv} {M : List (List Int)} (h : Told key N T A M) (hN : N.length < 900000) (hNy : Names N) {nm : List Int} {a : Ab} (hb : Bytes a.2.2.2) (hl : a.2.2.2.length ≤ 140737488355328) (hu : a.2.1.length = 16)
    (h0 : (copF true key N T nm a).1 = 0) : ∃ j : Nat, M[j]? = some nm ∧ A[j]? = some (a.1, a.2.1, a.2.2.1, (copF true key N T nm a).2) := by
  obtain ⟨d, u, l, b⟩ := a
  dsimp only at hb hl hu ⊢
  unfold copF at h0 ⊢
  dsimp only at h0 ⊢
  by_cases hr : rdOk b
  · rw [if_pos hr] at h0 ⊢
    by_cases hc : checkC u l = 0 ∧ ((rdQ b).cl, (rdQ b).nu) = d ∧ encW u l = (rdQ b).past
    · rw [if_pos hc] at h0 ⊢
      obtain ⟨hc1, hc2, hc3⟩ := hc
      have hek := rdOk_key hb hl hr
      obtain ⟨hyp, hyz, hyk⟩ := rd_bytes hb hl hr
      have hqok := hr.2.1
      show ∃ j : Nat, M[j]? = some nm ∧ A[j]? = some (d, u, l, (if (openF key N T nm (rdK b).1 (rdQ b) (rdZ b).1).2.2 = 0 then _ else _ : Int × Int × Bool × List Int).2)
      replace h0 : (if (openF key N T nm (rdK b).1 (rdQ b) (rdZ b).1).2.2 = 0 then (0, (rdQ b).ep, (openF key N T nm (rdK b).1 (rdQ b) (rdZ b).1).2.1, (openF key N T nm (rdK b).1 (rdQ b) (rdZ b).1).1) else ((openF key N T nm (rdK b).1 (rdQ b) (rdZ b).1).2.2, 0, false, []) : Int × Int × Bool × List Int).1 = 0 := h0
      by_cases ho : (openF key N T nm (rdK b).1 (rdQ b) (rdZ b).1).2.2 = 0
      · rw [if_pos ho]
        show ∃ j : Nat, M[j]? = some nm ∧ A[j]? = some (d, u, l, (rdQ b).ep, (openF key N T nm (rdK b).1 (rdQ b) (rdZ b).1).2.1, (openF key N T nm (rdK b).1 (rdQ b) (rdZ b).1).1)
        unfold openF at ho ⊢
        by_cases hbl : blindF key N nm = (rdK b).1
        · rw [if_pos hbl] at ho ⊢
          cases hm : mget T ((rdQ b).cl, (rdQ b).ct, (rdQ b).ep, bstr (boundF (rdK b).1 (rdQ b)), bstr (rdZ b).1) with
          | none => rw [hm] at ho; exact absurd ho (by decide)
          | some x =>
            dsimp only
            obtain ⟨j, n1, q, u', l', t1, t2, t3, t4, t5, t6, t7, t8, t9, t10, t11⟩ := h _ (mget_mem hm)
            dsimp only at t7 t8 t9 t10 t11
            have hyn : Bytes (blindF key N n1) := drawF_by _ _ _ _
            have hln : (blindF key N n1).length = 32 := drawF_len _ _ _ _ (by omega)
            have hyq : Bytes q.past := by rw [t6]; exact encW_bytes _ _
            have eb := bstr_inj (boundF_byT hyk hyp) (boundF_byT hyn hyq) t10
            have hn1 := hqok.2.2.2.1
            have hn2 := t3.2.2.2.1
            obtain ⟨e1, e2, e3⟩ := bound_injT hek hln (by omega) (by omega) eb
            have enm : nm = n1 := blindF_inj hN t2 (hbl.trans e1)
            have ep : encW u l = encW u' l' := by rw [hc3, e3, t6]
            have r1 := (rd_put hu hc1).1
            have r2 := (rd_put t4 t5).1
            rw [ep, r2] at r1
            have ru : u' = u := congrArg (fun z => z.1) r1
            have rl : l' = l := congrArg (fun z => z.2.1) r1
            refine ⟨j, by rw [enm]; exact t1, ?_⟩
            rw [t11, ← t7, ← e2, ← t9, ru, rl, ← hc2]
        · rw [if_neg hbl] at ho
          exact absurd ho (by decide)
      · rw [if_neg ho] at h0
        exact absurd h0 ho
    · rw [if_neg hc] at h0
      exact absurd h0 (by decide)
  · rw [if_neg hr] at h0
    exact absurd h0 (by decide)
theorem cop_err {key : List Int} {N : List (List Int)} {T : Tab} {nm : List Int} {a : Ab} : (copF true key N T nm a).1 = 0 ∨ (copF true key N T nm a).1 = 2 ∨ (copF true key N T nm a).1 = 6 := by
  unfold copF
  split
  · split
    · have ho : (openX true key N T nm (rdK a.2.2.2).1 (rdQ a.2.2.2) (rdZ a.2.2.2).1).2.2 = 0 ∨ (openX true key N T nm (rdK a.2.2.2).1 (rdQ a.2.2.2) (rdZ a.2.2.2).1).2.2 = 2 ∨ (openX true key N T nm (rdK a.2.2.2).1 (rdQ a.2.2.2) (rdZ a.2.2.2).1).2.2 = 6 := by
        show (openF _ _ _ _ _ _ _).2.2 = 0 ∨ (openF _ _ _ _ _ _ _).2.2 = 2 ∨ (openF _ _ _ _ _ _ _).2.2 = 6
        unfold openF
        split
        · split
          · unfold valF
            split
            · unfold vlF
              split
              · exact .inl rfl
              · split
                · exact .inl rfl
                · exact .inr (.inl rfl)
            · exact .inr (.inl rfl)
          · exact .inr (.inr rfl)
        · exact .inr (.inr rfl)
      split
      · exact .inl rfl
      · exact ho
    · exact .inr (.inr rfl)
  · exact .inr (.inl rfl)
theorem rd_count {key : List Int} {N : List (List Int)} {T : Tab} {nm : List Int} (L : List Ab) : (rdV true key N T nm L).length + (rdE true key N T nm L).length = L.length := by
  induction L with
  | nil => rfl
  | cons a L ih =>
    unfold rdV rdE at ih ⊢
    simp only [List.filterMap_cons, List.length_cons]
    by_cases h : (copF true key N T nm a).1 = 0
    · simp only [h, if_true, List.length_cons]; omega
    · simp only [h, if_false, List.length_cons]; omega
theorem rdE_mem {key : List Int} {N : List (List Int)} {T : Tab} {nm : List Int} {L : List Ab} {e : Int} (he : e ∈ rdE true key N T nm L) : e = 2 ∨ e = 6 := by
  unfold rdE at he
  obtain ⟨a, _, h⟩ := List.mem_filterMap.1 he
  split at h
  · cases h
  · rename_i hn
    cases h
    rcases cop_err (key := key) (N := N) (T := T) (nm := nm) (a := a) with h | h
    · exact absurd h hn
    · exact h
theorem rdV_mem {key : List Int} {N : List (List Int)} {T : Tab} {A : List Tv} {M : List (List Int)} (h : Told key N T A M) (hN : N.length < 900000) (hNy : Names N) {nm : List Int} {L : List Ab} (hL : ∀ a ∈ L, Bytes a.2.2.2 ∧ a.2.2.2.length ≤ 140737488355328 ∧ a.2.1.length = 16) {t : Tv} (ht : t ∈ rdV true key N T nm L) :
    ∃ j : Nat, M[j]? = some nm ∧ A[j]? = some t := by
  unfold rdV at ht
  obtain ⟨a, ha, h2⟩ := List.mem_filterMap.1 ht
  split at h2
  · rename_i h0
    cases h2
    obtain ⟨q1, q2, q3⟩ := hL a ha
    exact told_cop h hN hNy q1 q2 q3 h0
  · cases h2
end Go.Proofs.YtaofgcahmfailaaGreatDoor
end

section
namespace Go.Ck
open Go
set_option maxHeartbeats 1000000
section
variable {P : Program} {n : Nat} {K : Bs} {F : List (Nat × Value)} {h : View} {L : List Res} {Q : Exit → Act → World → Prop}
variable {dst : Option Nat} {ty : Nat} {pos : String} {af : Array Edge} {gd : Option (Nat × Bool)}
theorem qv_strslice_to {T : Nat} {x y : Operand} {st : ByteArray} {ki : IntKind} {i : Int} [tu : TyU P T .string] (hx : ev F x = some (.string st)) (hy : ev F y = some (.int ki i)) (h0 : 0 ≤ i) (h1 : i ≤ st.size) :
    QV P n F h L ⟨dst, .slice T x none (some y) none, ty, pos, af, gd⟩ (.string (st.extract 0 i.toNat)) := .mk fun a w f s => by
  have h2 := run_slice_string_h w T st tu.u ki i h0 h1
  have hy2 : a.eval y = .int ki i := f.ev hy
  simp [execOp, f.ev hx, Instr.sliceAt, Sem.run_bind, run_underlying tu.u, hy2, h2]
theorem cx_srowad {c : Code} {e : TypeId} {m : Nat} {v : Value} {xs : List Value} (k : Nat) (hk : L[k]? = some (Res.srow e v m xs)) (hm : 0 < m) (h2 : ∀ b cap, v = .slice (some ⟨b, 0, none⟩) m cap → CX P n K c F h L Q) : CX P n K c F h L Q := by
  unfold CX at *
  intro a w f s
  have ho : OwnsB w e v m xs := s.hd.own _ (List.mem_of_getElem? hk)
  rcases ho.2 with ⟨q1, q2⟩ | ⟨g, cap, cur, fz, q1, _⟩
  · omega
  · exact h2 _ cap q1 a w f s
theorem cells_srow {e : TypeId} {m b cap : Nat} {xs : List Value} (k : Nat) (hk : L[k]? = some (Res.srow e (.slice (some ⟨b, 0, none⟩) m cap) m xs)) : Cells h L ⟨b, 0, none⟩ xs := fun w s j u hj => by
  have ho : OwnsB w e (.slice (some ⟨b, 0, none⟩) m cap) m xs := s.own _ (List.mem_of_getElem? hk)
  obtain ⟨q0, q1 | ⟨g, cap', cur, fz, q1, q2, q3, q4, q5, q6, q7⟩⟩ := ho
  · cases q1.1
  cases q1
  have hj2 : j < xs.length := (List.getElem?_eq_some_iff.1 hj).1
  rw [Addr.add_off]
  rw [← q6, List.getElem?_take, if_pos (by omega)] at hj
  simp only [World.cell?, Nat.zero_add]
  rw [q2]
  simpa using hj
theorem rx_bstore {g : Rg} {i : Nat} {r : List (Nat × Oper)} {T e : Nat} {x y : Operand} {b o m cap : Nat} {v : Value} {xs : List Value} (k : Nat) [ts : TyS P T 1] (hx : ev F x = some (.pointer (some ⟨b, o, none⟩))) (hy : ev F y = some v)
    (hk : L[k]? = some (Res.srow e (.slice (some ⟨b, 0, none⟩) m cap) m xs)) (hsz : v.cells = #[v]) (hfit : o < m) (h1 : v.oneCell' = true)
    (hw : wantedF g.ops F ⟨none, .store T x y, ty, pos, af, gd⟩ = some true) (hl : g.lo i = true) (o1 : Owe g i h L) (o2 : Owe g i h (L.set k (Res.srow e (.slice (some ⟨b, 0, none⟩) m cap) m (xs.set o v))))
    (hn : RX P n K g r F h (L.set k (Res.srow e (.slice (some ⟨b, 0, none⟩) m cap) m (xs.set o v))) Q) : RX P n K g ((i, ⟨none, .store T x y, ty, pos, af, gd⟩) :: r) F h L Q := by
  unfold RX at *
  intro a w f s
  have ho : OwnsB w e (.slice (some ⟨b, 0, none⟩) m cap) m xs := s.hd.own _ (List.mem_of_getElem? hk)
  obtain ⟨q0, q1 | ⟨g', cap', cur, fz, q1, q2, q3, q4, q5, q6, q7⟩⟩ := ho
  · cases q1.1
  cases q1
  have hlt : o < cur.toList.length := by simp; omega
  have hset : cur.toList.take o ++ [v] ++ cur.toList.drop (o + 1) = cur.toList.set o v := by
    rw [List.set_eq_take_append_cons_drop, if_pos hlt]; simp
  have hrun : (execOp a.eval ⟨none, .store T x y, ty, pos, af, gd⟩).run P w = .ok .skip (w.setRow b (cur.toList.set o v).toArray) := by
    have hst := run_storeCells_fz (P := P) b o e fz [v] 0 cur w q2 q7 (by simp; omega) (fun u hu => by rw [List.mem_singleton.1 hu]; exact h1)
    simp only [Nat.add_zero, List.length_singleton] at hst
    rw [hset] at hst
    have hc : v.cells.toList = [v] := by rw [hsz]
    simp [execOp, f.ev hx, f.ev hy, Instr.storeAt, Instr.sureAddr, storeVar, ts.s, hsz, hst]
  have s' : St K h (L.set k (Res.srow e (.slice (some ⟨b, 0, none⟩) m cap) m (xs.set o v))) (w.setRow b (cur.toList.set o v).toArray) := by
    refine s.swap hk rfl rfl rfl (by simp) (by simp) (fun j hj hjd => setRow_other w b j _ (fun e' => hjd ?_)) ⟨?_, .inr ⟨b, cap, _, fz, rfl, setRow_heap w b cur _ e _ q2, q3, q4, ?_, ?_, ?_⟩⟩ ?_ (fun x hx => .inl ?_)
    · simp [Res.srow, Value.ownBlock, e']
    · simp [q0]
    · simp [q5]
    · rw [← q6]
      simp [List.take_set]
    · simpa using q7
    · simp [Res.srow, Value.ownBlock]
    · have hx : x = b := by simpa [Res.srow, Value.ownBlock] using hx
      subst hx
      simp [Res.srow, Value.ownBlock]
  refine .inr (.inr ⟨wantedF_ok f hw, hl, o1.out s, ?_⟩)
  unfold Oper.wp
  rw [hrun]
  exact ⟨o2.out s', hn _ _ f s'⟩
end
end Go.Ck
end

section
namespace Go.Proofs.YtaofgcahmfailaaGreatDoor
open Go Go.Ck
set_option maxHeartbeats 4000000
def key1 (k : Int) : List Int := k :: List.replicate 31 0
theorem key1_by {k : Int} (h : 0 ≤ k ∧ k < 256) : Bytes (key1 k) := fun x hx => by
  rcases List.mem_cons.1 hx with rfl | hx
  · exact h
  · have := List.eq_of_mem_replicate hx
    omega
def hd1 : Hdr := ⟨1, 1, 1, 1, []⟩
end Go.Proofs.YtaofgcahmfailaaGreatDoor
end

section
namespace Go.Proofs.YtaofgcahmfailaaGreatDoor
open Go Go.Ck
set_option maxHeartbeats 1000000
theorem perm_all {L : List Res} : L.Perm (L ++ []) := by rw [List.append_nil]
theorem perm_split {L : List Res} (n : Nat) : L.Perm (L.take n ++ L.drop n) := by rw [List.take_append_drop]
theorem vlc_bytes (z : Vl) : (vlc z)[21]? = some z.bv := by
  obtain ⟨a0, a1, a2, a3, a4, a5, a6, a7, a8, a9, a10, a11, a12, a13, a14, a15, hu⟩ := list16 z.u z.hu
  unfold vlc cxc
  rw [hu]
  rfl
theorem CWrite_no (b : Nat) (id : Int) (bv : Nat) (ep ct : Int) (bm : Nat) (K : List (ByteArray × Value)) (nm : List Int) (n : Int) (del : Bool) (u : List Int) (l : List Dt) (vn vv cv : Value)
    (hid : 1 ≤ id ∧ id ≤ 16) (hn0 : 0 ≤ n ∧ n < 1000000) (hct : 0 ≤ ct ∧ ct < 1000000) (hK : numK K nm n) (hhd : headE u l (id, n + 1) ≠ 0) (hl : l.length ≤ 4611686018427387904)
    (h : View) (hsn : Bs8 h vn nm) (hc : Cx h cv u l) (w : World) (s : St ⟨w, h, doms [clR b id bv ep ct bm, cmR bm K]⟩ h [clR b id bv ep ct bm, cmR bm K] w) :
    Calls Tryz.prog 9 [.pointer (some ⟨b, 0, none⟩), vn, vv, .bool del, cv].toArray w fun e w' => ∃ h' : View, e = .returned (.tuple #[.agg (bcs (List.replicate 32 0)).toArray, sbv zSb, .int .i64 (headE u l (id, n + 1))]) ∧
      St ⟨w, h, doms [clR b id bv ep ct bm, cmR bm K]⟩ h' [clR b id bv ep ct bm, cmR bm K] w' ∧ True := by
  have hc' := hc
  obtain ⟨hu, mv, rfl, hs⟩ := hc
  have H1 := head_sp b id bv ep ct bm K nm n u l vn _ hid hn0 hct hK hl h hsn hc'
  generalize headE u l (id, n + 1) = he at hhd H1 ⊢
  simp only [if_neg hhd] at H1
  refine calls_enter Tryz.func9 rfl Tryz.ntmps9 rfl s ?_
  repeat' (first|(refine ycf ?_;apply ybk;(·first|(first|exact tk_|(apply qv_eql_pnil<;>rfl)|(apply qv_nilCheck;rfl)|(apply yad;(·rfl);(·exact yaz 2 rfl);(·exact ycj hu))));(·rfl);(·rfl))|refine t1_ ?_|(refine ta_ ?_;intro _)|((fail_if_success (refine ybi rfl ?_));refine ybj rfl ?_ ?_<;>(intro ht;rw [ht];first|replace ht := oet_ ht|replace ht := oef_ ht|skip))|(refine ych ?_;first|(refine ybw rfl ?_ ?_<;>intro ht)|(refine ybx rfl ?_ ?_<;>intro ht)))
  rename_i b9 b10 b11
  refine rx_call_l (ycp Tryz.func24 rfl (by kernel_rfl) rfl) (pick2 3 3 rfl rfl) H1 rfl rfl rfl ybf (fun _ _ _ => ybf) ?_
  rintro ⟨h1, vp⟩ _ hle1
  dsimp only at hle1 ⊢
  repeat' (first|(refine ycf ?_;apply ybk;(·first|(first|exact tk_|(exact qv_build_arr (cs := bcs (List.replicate 32 0)) rfl rfl)|(apply yax (cs := sbc zSb)<;>rfl)));(·rfl);(·rfl))|refine t1_ ?_|(refine ta_ ?_;intro _)|((fail_if_success (refine ybi rfl ?_));refine ybj rfl ?_ ?_<;>(intro ht;rw [ht];first|replace ht := oet_ ht|replace ht := oef_ ht|skip))|(refine ych ?_;first|(refine ybw rfl ?_ ?_<;>intro ht)|(refine ybx rfl ?_ ?_<;>intro ht)))
  exact nx_ret3 rfl (rv_cells rfl (yaz 4 rfl) rfl) (rv_cells rfl (yaz 3 rfl) rfl) (rv_tmp rfl) (fun w' s' => ⟨h1, rfl, s'.picks [1, 1], trivial⟩)
theorem clients_sp (h : View) (w : World) (s : St ⟨w, h, []⟩ h [] w) :
    Calls Tryz.prog 8 [].toArray w fun e w' => ∃ h', e = .returned (.bool true) ∧ St ⟨w, h, []⟩ h' [] w' ∧ True := by
  have hk : Bytes (key1 1) := key1_by (by omega)
  have hb110 : Bytes [110] := by intro x hx; rw [List.mem_singleton.1 hx]; omega
  have hb120 : Bytes [120] := by intro x hx; rw [List.mem_singleton.1 hx]; omega
  have hb121 : Bytes [121] := by intro x hx; rw [List.mem_singleton.1 hx]; omega
  have hnil : Names [] := fun x hx => by cases hx
  refine calls_enter Tryz.func8 rfl Tryz.ntmps8 rfl s ?_
  repeat' (first|(refine ycf ?_;apply ybk;(·first|(exact qv_build_arr (cs := bcs (key1 1)) rfl rfl));(·rfl);(·rfl))|refine t1_ ?_|(refine ta_ ?_;intro _)|((fail_if_success (refine ybi rfl ?_));refine ybj rfl ?_ ?_<;>(intro ht;rw [ht];first|replace ht := oet_ ht|replace ht := oef_ ht|skip))|(refine ych ?_;first|(refine ybw rfl ?_ ?_<;>intro ht)|(refine ybx rfl ?_ ?_<;>intro ht)))
  (refine yco (ycp Tryz.func6 rfl (by kernel_rfl) rfl) (Ideal_sp (key1 1) rfl h) rfl rfl rfl ?_ ?_ ?_; (· (exact to_)); (· intro _ _ hle; (exact to_)); intro x px hle)
  obtain ⟨h1, bv, bn, bu, bt⟩ := x
  dsimp only at px hle ⊢
  have hv1 : Vb h1 bv true (key1 1) bn bu bt := px
  clear px hle
  repeat' (first|refine tw_ ?_|(refine ta_ ?_;intro _)|((fail_if_success (refine ybi rfl ?_));refine ybj rfl ?_ ?_<;>(intro ht;rw [ht];first|replace ht := oet_ ht|replace ht := oef_ ht|skip))|(refine ych ?_;first|(refine ybw rfl ?_ ?_<;>intro ht)|(refine ybx rfl ?_ ?_<;>intro ht)))
  (refine yco (ycp Tryz.func7 rfl (by kernel_rfl) rfl) (CNew_sp 2 (by omega) bv h1) rfl rfl rfl ?_ ?_ ?_; (· (exact to_)); (· intro _ _ hle; (exact to_)); intro x px hle)
  obtain ⟨bc, bm⟩ := x
  dsimp only at px hle ⊢
  clear px hle
  repeat' (first|refine tw_ ?_|(refine ta_ ?_;intro _)|((fail_if_success (refine ybi rfl ?_));refine ybj rfl ?_ ?_<;>(intro ht;rw [ht];first|replace ht := oet_ ht|replace ht := oef_ ht|skip))|(refine ych ?_;first|(refine ybw rfl ?_ ?_<;>intro ht)|(refine ybx rfl ?_ ?_<;>intro ht)))
  refine rx_mark 0 rfl rfl rfl (by unfold maxLen; omega) rfl rfl rfl ybf ybf ?_
  refine rx_persist_s rfl fun h2 hle2 hn2 => ?_
  have hn2 : Bs8 h2 (.slice (some ⟨_, 0, none⟩) ([110] : List Int).length 1) [110] := hn2
  repeat' (first|refine tw_ ?_|(refine ta_ ?_;intro _)|((fail_if_success (refine ybi rfl ?_));refine ybj rfl ?_ ?_<;>(intro ht;rw [ht];first|replace ht := oet_ ht|replace ht := oef_ ht|skip))|(refine ych ?_;first|(refine ybw rfl ?_ ?_<;>intro ht)|(refine ybx rfl ?_ ?_<;>intro ht)))
  refine rx_mark 0 rfl rfl rfl (by unfold maxLen; omega) rfl rfl rfl ybf ybf ?_
  refine rx_persist_s rfl fun h3 hle3 hx3 => ?_
  have hx3 : Bs8 h3 (.slice (some ⟨_, 0, none⟩) ([120] : List Int).length 1) [120] := hx3
  repeat' (first|(refine ycf ?_;apply ybk;(·first|(first|exact tk_|(apply yax (cs := cxc zeroU (.slice none 0 0))<;>rfl)));(·rfl);(·rfl))|refine t1_ ?_|(refine ta_ ?_;intro _)|((fail_if_success (refine ybi rfl ?_));refine ybj rfl ?_ ?_<;>(intro ht;rw [ht];first|replace ht := oet_ ht|replace ht := oef_ ht|skip))|(refine ych ?_;first|(refine ybw rfl ?_ ?_<;>intro ht)|(refine ybx rfl ?_ ?_<;>intro ht)))
  have hcz : ∀ h : View, Cx h (cxv zeroU (.slice none 0 0)) zeroU [] := fun h => ⟨rfl, _, rfl, Sc.nil _ _ _ _⟩
  have W1 := CWrite_sp true sealC_true bc 2 bv 1 0 bm [] (key1 1) bn bu bt [] [] [] [110] [120] 0 false zeroU [] _ _ (cxv zeroU (.slice none 0 0)) (by omega) (by omega) (by omega) (by omega) rfl (by decide) hk rfl hnil (by decide) (by decide) (fun x hx => (by cases hx)) hb110 (by decide) (by simp) hb120 (by simp) h3 ((hv1.mono hle2).mono hle3) (hn2.mono hle3) hx3 (hcz h3) (fun e => nomatch e)
  refine rx_call_l (ycp Tryz.func9 rfl (by kernel_rfl) rfl) perm_all W1 rfl rfl rfl ybf (fun _ _ _ => ybf) ?_
  rintro ⟨h4, g1, t1, se1⟩ ⟨ht1, hg1, es1, eg1⟩ hle4
  dsimp only at ht1 hg1 es1 eg1 hle4 ⊢
  obtain ⟨ek, hek⟩ : ∃ ek, ek = nameX true (key1 1) [] [110] := ⟨_, rfl⟩
  have hekl : ek.length = 32 := by rw [hek]; exact nameX_len _ _ _ _
  have hol : (bcs ek).length = 32 := by rw [bcs_len, hekl]
  have heb : blindF (key1 1) [[110]] [110] = ek := by rw [hek]; rfl
  have hse1 : se1.length = 80 := by rw [es1, sealX_len]; rfl
  rw [← hek] at eg1 ⊢
  clear es1
  obtain ⟨T1, hT1⟩ : ∃ T1 : Tab, T1 = [((2, 0 + 1, 1, bstr (boundF ek ⟨1, 0 + 1, 2, 0 + 1, encW zeroU []⟩), bstr se1), t1, padW (inF false [120]))] := ⟨_, rfl⟩
  refine rx_perm (L' := [clR bc 2 bv 1 1 bm, cmR bm [(bstr [110], .int .i64 1)], nmR bn [[110]], usR bu [(2, 1)], tbR bt T1]) (by rw [hT1]; exact .refl _) ?_
  repeat' (first|(refine ycf ?_;apply ybk;(·first|(exact tk_));(·rfl);(·rfl))|(first|(refine ybg 1 rfl rfl rfl (by show (bcs ek).toArray.size = 32;simpa using hol) (by show 0 + (bcs ek).toArray.size ≤ _;rw [List.size_toArray, hol];exact nble rfl) (List.all_eq_true.2 (bcs_one ek)) (ybh (by show (bcs ek).length = _;rw [hol];rfl)) rfl rfl ?_ ?_ ?_;(·(exact to_));(·(exact to_)))|(refine ybg 0 rfl rfl rfl (sbc_sz g1) (sbc_fit rfl) (sbc_one hg1.one.1 hg1.one.2) (ybh (sbc_all rfl)) rfl rfl ?_ ?_ ?_;(·(exact to_));(·(exact to_))))|refine t1_ ?_|(refine ta_ ?_;intro _)|((fail_if_success (refine ybi rfl ?_));refine ybj rfl ?_ ?_<;>(intro ht;rw [ht];first|replace ht := oet_ ht|replace ht := oef_ ht|skip))|(refine ych ?_;first|(refine ybw rfl ?_ ?_<;>intro ht)|(refine ybx rfl ?_ ?_<;>intro ht)))
  rename_i b4 b5 _
  refine rx_mark 0 rfl rfl rfl (by unfold maxLen; omega) rfl rfl rfl ybf ybf ?_
  refine rx_persist_s rfl fun h5 hle5 hn5 => ?_
  have hn5 : Bs8 h5 (.slice (some ⟨_, 0, none⟩) ([110] : List Int).length 1) [110] := hn5
  repeat' (first|refine tw_ ?_|(refine ta_ ?_;intro _)|((fail_if_success (refine ybi rfl ?_));refine ybj rfl ?_ ?_<;>(intro ht;rw [ht];first|replace ht := oet_ ht|replace ht := oef_ ht|skip))|(refine ych ?_;first|(refine ybw rfl ?_ ?_<;>intro ht)|(refine ybx rfl ?_ ?_<;>intro ht)))
  refine rx_mark 0 rfl rfl rfl (by unfold maxLen; omega) rfl rfl rfl ybf ybf ?_
  refine rx_persist_s rfl fun h6 hle6 hx6 => ?_
  have hx6 : Bs8 h6 (.slice (some ⟨_, 0, none⟩) ([121] : List Int).length 1) [121] := hx6
  repeat' (first|(refine ycf ?_;apply ybk;(·first|(first|exact tk_|(apply yax (cs := cxc zeroU (.slice none 0 0))<;>rfl)));(·rfl);(·rfl))|refine t1_ ?_|(refine ta_ ?_;intro _)|((fail_if_success (refine ybi rfl ?_));refine ybj rfl ?_ ?_<;>(intro ht;rw [ht];first|replace ht := oet_ ht|replace ht := oef_ ht|skip))|(refine ych ?_;first|(refine ybw rfl ?_ ?_<;>intro ht)|(refine ybx rfl ?_ ?_<;>intro ht)))
  refine rx_picks [2, 2, 2, 2, 2, 0, 0] ?_
  have hle16 : Le h1 h6 := Le.trans (Le.trans (Le.trans (Le.trans hle2 hle3) hle4) hle5) hle6
  have hheld : Held [(2, 1)] T1 := fun x hx => by
    rw [hT1] at hx
    rw [List.mem_singleton.1 hx]
    exact List.mem_singleton.2 rfl
  have hN1 : Names [[110]] := fun x hx => by rw [List.mem_singleton.1 hx]; exact hb110
  have W2 := CWrite_sp true sealC_true bc 2 bv 1 1 bm [(bstr [110], .int .i64 1)] (key1 1) bn bu bt [[110]] [(2, 1)] T1 [110] [121] 1 false zeroU [] _ _ (cxv zeroU (.slice none 0 0)) (by omega) (by omega) (by omega) (by omega) (by unfold numK; simp [mget]) (by decide) hk rfl hN1 (by decide) (by decide) hheld hb110 (by decide) (by simp) hb121 (by simp) h6 (hv1.mono hle16) (hn5.mono hle6) hx6 (hcz h6) (fun e => nomatch e)
  refine rx_call_l (ycp Tryz.func9 rfl (by kernel_rfl) rfl) (perm_split 5) W2 rfl rfl rfl ybf (fun _ _ _ => ybf) ?_
  rintro ⟨h7, g2, t2, se2⟩ ⟨ht2, hg2, es2, eg2⟩ hle7
  dsimp only at ht2 hg2 es2 eg2 hle7 ⊢
  have hn2k : nameX true (key1 1) [[110]] [110] = ek := heb
  rw [hn2k] at eg2 ⊢
  clear es2
  obtain ⟨T2, hT2⟩ : ∃ T2 : Tab, T2 = T1 ++ [((2, 1 + 1, 1, bstr (boundF ek ⟨1, 1 + 1, 2, 1 + 1, encW zeroU []⟩), bstr se2), t2, padW (inF false [121]))] := ⟨_, rfl⟩
  refine rx_perm (L' := [clR bc 2 bv 1 2 bm, cmR bm (mput [(bstr [110], .int .i64 1)] (bstr [110]) (.int .i64 2)), nmR bn [[110]], usR bu [(2, 1), (2, 2)], tbR bt T2, Res.blk b5 (.cells (sbc g1).toArray 47 (0, 0)), Res.blk b4 (.cells (bcs ek).toArray 43 (0, 0))]) (by rw [hT2]; exact .refl _) ?_
  repeat' (first|(refine ycf ?_;apply ybk;(·first|(exact tk_));(·rfl);(·rfl))|(first|(refine ybg 1 rfl rfl rfl (by show (bcs ek).toArray.size = 32;simpa using hol) (by show 0 + (bcs ek).toArray.size ≤ _;rw [List.size_toArray, hol];exact nble rfl) (List.all_eq_true.2 (bcs_one ek)) (ybh (by show (bcs ek).length = _;rw [hol];rfl)) rfl rfl ?_ ?_ ?_;(·(exact to_));(·(exact to_)))|(refine ybg 0 rfl rfl rfl (sbc_sz g2) (sbc_fit rfl) (sbc_one hg2.one.1 hg2.one.2) (ybh (sbc_all rfl)) rfl rfl ?_ ?_ ?_;(·(exact to_));(·(exact to_))))|refine t1_ ?_|(refine ta_ ?_;intro _)|((fail_if_success (refine ybi rfl ?_));refine ybj rfl ?_ ?_<;>(intro ht;rw [ht];first|replace ht := oet_ ht|replace ht := oef_ ht|skip))|(refine ych ?_;first|(refine ybw rfl ?_ ?_<;>intro ht)|(refine ybx rfl ?_ ?_<;>intro ht)))
  rename_i b7 b8 _
  refine rx_mark 0 rfl rfl rfl (by unfold maxLen; omega) rfl rfl rfl ybf ybf ?_
  refine rx_persist_s rfl fun h8 hle8 hn8 => ?_
  have hn8 : Bs8 h8 (.slice (some ⟨_, 0, none⟩) ([110] : List Int).length 1) [110] := hn8
  repeat' (first|(refine ycf ?_;apply ybk;(·first|(apply yad;(·rfl);(·exact yaz 7 rfl);(·exact sbc_len g1)));(·rfl);(·rfl))|refine t1_ ?_|(refine ta_ ?_;intro _)|((fail_if_success (refine ybi rfl ?_));refine ybj rfl ?_ ?_<;>(intro ht;rw [ht];first|replace ht := oet_ ht|replace ht := oef_ ht|skip))|(refine ych ?_;first|(refine ybw rfl ?_ ?_<;>intro ht)|(refine ybx rfl ?_ ?_<;>intro ht)))
  refine yba (ybd rfl rfl rfl (ybe rfl (sbc_sz g1))) rfl rfl rfl ybf (fun _ => ybf) ?_
  intro bq
  refine rx_rowOf 20 1 1 (Nat.le_refl _) (by unfold maxLen; omega) (by show (sbc g1).toArray.size = 1 * 20; rw [List.size_toArray, sbc_len]) ?_
  refine rx_persist rfl fun h9 hle9 hs9 => ?_
  have hle49 : Le h4 h9 := Le.trans (Le.trans (Le.trans (Le.trans hle5 hle6) hle7) hle8) hle9
  have hg9 : Ss h9 (.slice (some ⟨bq, 0, none⟩) 1 1) [g1] := by
    refine ⟨?_, fun y hy => by rw [List.mem_singleton.1 hy]; exact hg1.mono hle49⟩
    rw [show [g1].flatMap sbc = sbc g1 by simp]
    have e : ((sbc g1).toArray.toList).take (1 * 20) = sbc g1 := List.take_of_length_le (by have := sbc_len g1; simp; omega)
    have hs9' := hs9
    rw [show (Value.agg (sbc g1).toArray).cells.toList.toArray.toList = (sbc g1).toArray.toList from rfl, e] at hs9'
    exact hs9'
  have hp1 : (padW (inF false [120])).length = 64 := rfl
  have hp2 : (padW (inF false [121])).length = 64 := rfl
  have hT2l : ∀ x ∈ T2, x.2.2.length ≤ 900000 ∧ Bytes x.2.2 := fun x hx => by
    rw [hT2, hT1] at hx
    rcases List.mem_cons.1 hx with rfl | hx
    · exact ⟨by show (padW (inF false [120])).length ≤ _; omega, padW_by (inF_by hb120)⟩
    · rw [List.mem_singleton.1 hx]
      exact ⟨by show (padW (inF false [121])).length ≤ _; omega, padW_by (inF_by hb121)⟩
  have hT2k : TbOk h9 T2 := fun x hx => by
    rw [hT2, hT1] at hx
    rcases List.mem_cons.1 hx with rfl | hx
    · exact ht1.mono hle49
    · rw [List.mem_singleton.1 hx]; exact (ht2.mono hle8).mono hle9
  have q1ok : (⟨1, 0 + 1, 2, 0 + 1, encW zeroU []⟩ : Hdr).ok := by decide
  have hcop : copF true (key1 1) [[110]] T2 [110] g1.a = (0, 1, false, [120]) := by
    have e := cop_written (idl := true) (key := key1 1) (N := [[110]]) (T := T2) (nm := [110]) (u := zeroU) (l := []) (se := se1) hekl q1ok ⟨by omega, by omega⟩ (by decide : checkC zeroU [] = 0) rfl
    have o := openF_in (key := key1 1) (N := [[110]]) (T := T2) (nm := [110]) (se := se1) (q := ⟨1, 0 + 1, 2, 0 + 1, encW zeroU []⟩) (x := (t1, padW (inF false [120]))) heb (by rw [hT2, hT1]; exact if_pos rfl)
    have v : valF (padW (inF false [120])) = ([120], false, 0) := valF_pad hb120 (by simp)
    rw [v] at o
    rw [o] at e
    rw [eg1]
    exact e
  have hrV : rdV true (key1 1) [[110]] T2 [110] ([g1].map Sb.a) = [(g1.a.1, g1.a.2.1, g1.a.2.2.1, 1, false, [120])] := by
    show rdV true (key1 1) [[110]] T2 [110] [g1.a] = _
    unfold rdV
    rw [List.filterMap_cons, hcop]
    rfl
  have hrE : rdE true (key1 1) [[110]] T2 [110] ([g1].map Sb.a) = [] := by
    show rdE true (key1 1) [[110]] T2 [110] [g1.a] = _
    unfold rdE
    rw [List.filterMap_cons, hcop]
    rfl
  have hgb : g1.b.length ≤ 900000 ∧ g1.l.length ≤ 4611686018427387904 := by
    have e1 : g1.b = g1.a.2.2.2 := rfl
    have e2 : g1.l = g1.a.2.2.1 := rfl
    have e3 : (encW zeroU []).length = 129 := rfl
    rw [e1, e2, eg1]
    refine ⟨?_, by show ([] : List Dt).length ≤ _; decide⟩
    show (encE ek _ se1).length ≤ _
    simp only [encE, List.length_append, boundF_len hekl, num4_len]
    omega
  have R1 := CRead_sp true openC_true bc 2 bv 1 2 bm (key1 1) bn bu bt [[110]] T2 [110] [g1] _ _ hk rfl hN1 (by decide) hT2l hb110 (by decide) (by simp) (fun g hg => by rw [List.mem_singleton.1 hg]; exact ⟨by omega, hgb.2⟩) h9 hT2k (hv1.mono (Le.trans (Le.trans (Le.trans hle2 hle3) hle4) hle49)) (hn8.mono hle9) hg9 (fun e => nomatch e)
  rw [hrV, hrE] at R1
  refine rx_call_l (ycp Tryz.func16 rfl (by kernel_rfl) rfl) (pick3 2 3 4 rfl rfl rfl) R1 rfl rfl rfl ybf (fun _ _ _ => ybf) ?_
  rintro ⟨h10, vo, O, M⟩ ⟨hO, hM, hOt⟩ hle10
  dsimp only at hO hM hOt hle10 ⊢
  have hO1 : O.length = 1 := by have := congrArg List.length hOt; simpa using this
  obtain ⟨z, rfl⟩ := List.length_eq_one_iff.1 hO1
  have hzb : z.b = [120] := by
    have := (List.cons.inj hOt).1
    exact congrArg (fun t : Tv => t.2.2.2.2.2) this
  obtain ⟨adO, capO, rfl⟩ : ∃ a c, vo = .slice a 1 c := by obtain ⟨_, a, c, e, _⟩ := hO.1; exact ⟨a, c, e⟩
  obtain ⟨bO, oO, rfl⟩ := hO.1.ad (by simp) (by decide)
  have hzc : ∀ L, Cells h10 L ⟨bO, oO + 0 * 22, none⟩ (vlc z) := fun L => hO.1.elem vlc_len 0 (by simp)
  have hzs : Bs8 h10 z.bv [120] := by rw [← hzb]; exact (hO.2 z (List.mem_singleton.2 rfl)).bs
  have hzcell : ∀ L, CellAt h10 L bO (oO + 0 * 22 + 21) z.bv := fun L => (hzc L).cell (vlc_bytes z)
  have d1 : g1.d = (2, 1) := congrArg (fun a : Ab => a.1) eg1
  have d2 : g2.d = (2, 2) := congrArg (fun a : Ab => a.1) eg2
  have hstr : ((bstr [120]).toList == (⟨#[120]⟩ : ByteArray).toList) = true := by
    rw [← beq_toListBytes, ba_beq]
    exact decide_eq_true rfl
  have n1 : g1.d.2 = 1 := by rw [d1]
  have n2 : g2.d.2 = 2 := by rw [d2]
  repeat' (first|(refine ycf ?_;apply ybk;(·first|(first|exact tk_|(refine qv_str_bs rfl hzs)|(refine qv_eql_str rfl rfl hstr))|(apply yae;(·rfl);(·(first|exact hzcell _|exact sb_nu (yaz 7 rfl)|exact sb_nu (yaz 3 rfl)))));(·rfl);(·rfl))|refine t1_ ?_|(refine ta_ ?_;intro _)|((fail_if_success (refine ybi rfl ?_));refine ybj rfl ?_ ?_<;>(intro ht;rw [ht];first|replace ht := oet_ ht|replace ht := oef_ ht|skip))|(refine ych ?_;first|(refine ybw rfl ?_ ?_<;>intro ht)|(refine ybx rfl ?_ ?_<;>intro ht)))
  (refine rx_call_m (ycp Tryz.func10 rfl (by kernel_rfl) rfl) (perm_at (k := 0) rfl) (Sealed_sp bc 2 bv 1 2 bm h10) rfl rfl rfl ?_ ?_ ?_; (· (exact to_)); (· intro _ _ hle; (exact to_)); intro x px hle)
  repeat' (first|(refine ycf ?_;apply ybk;(·first|(exact tk_));(·rfl);(·rfl))|refine t1_ ?_|(refine ta_ ?_;intro _)|((fail_if_success (refine ybi rfl ?_));refine ybj rfl ?_ ?_<;>(intro ht;rw [ht];first|replace ht := oet_ ht|replace ht := oef_ ht|skip))|(refine ych ?_;first|(refine ybw rfl ?_ ?_<;>intro ht)|(refine ybx rfl ?_ ?_<;>intro ht)))
  exact nx_ret1 rfl (rv_tmp rfl) (fun w' s' => ⟨h10, rfl, s'.nil, trivial⟩)
end Go.Proofs.YtaofgcahmfailaaGreatDoor
end

section
namespace Go.Ck
open Go
section
variable {P : Program} {n : Nat} {K : Bs} {F : List (Nat × Value)} {h h' : View} {L : List Res} {Q : Exit → Act → World → Prop}
theorem hd_one' {A : Res} (hl : Le h h') (ha : A ∈ L) : ∀ w, Hd h' L w → Hd h [A] w := fun w s => Hd.sub s hl (fun r hr => by rw [List.mem_singleton.1 hr]; exact ha)
theorem pick5 {A B C D E : Res} (i j k l m : Nat) (h1 : L[i]? = some A) (h2 : (L.eraseIdx i)[j]? = some B) (h3 : ((L.eraseIdx i).eraseIdx j)[k]? = some C) (h4 : (((L.eraseIdx i).eraseIdx j).eraseIdx k)[l]? = some D) (h5 : ((((L.eraseIdx i).eraseIdx j).eraseIdx k).eraseIdx l)[m]? = some E) :
    L.Perm ([A, B, C, D, E] ++ ((((L.eraseIdx i).eraseIdx j).eraseIdx k).eraseIdx l).eraseIdx m) :=
  (perm_at h1).trans (((perm_at h2).trans (((perm_at h3).trans (((perm_at h4).trans ((perm_at h5).cons D)).cons C)).cons B)).cons A)
end
end Go.Ck
namespace Go.Proofs.YtaofgcahmfailaaGreatDoor
open Go Go.Ck
set_option maxHeartbeats 1000000
structure ActD where
  what : Int
  who : Int
  name : Int
  val : List Int
  vv : Value
  del : Bool
  u : List Int
  hu : u.length = 16
  l : List Dt
  mv : Value
  which : List Int
  wv : Value
  by' : Int
  raw : List Sb
  rv : Value
def acc (x : ActD) : List Value := [.int .i64 x.what, .int .i64 x.who, .int .i64 x.name, x.vv, .bool x.del] ++ (cxc x.u x.mv ++ [x.wv, .int .i64 x.by', x.rv])
theorem acc_len (x : ActD) : (acc x).length = 25 := by
  have := ycj (mv := x.mv) x.hu
  simp [acc, this]
structure Av (h : View) (x : ActD) : Prop where
  vs : Bs8 h x.vv x.val
  yv : Bytes x.val
  ds : Ds h x.mv x.l
  is : Sc h 1 x.wv x.which.length (up x.which)
  rs : Rs h x.rv x.raw
theorem Av.mono {h h' : View} {x : ActD} (a : Av h x) (hl : Le h h') : Av h' x := ⟨a.vs.mono hl, a.yv, a.ds.mono hl, a.is.mono hl, ⟨a.rs.1.mono hl, fun y hy => (a.rs.2 y hy).mono hl⟩⟩
def Acts (h : View) (v : Value) (l : List ActD) : Prop := Sc h 25 v l.length (l.flatMap acc) ∧ ∀ a ∈ l, Av h a
section
variable {h : View} {L : List Res} {b o : Nat} {x : ActD}
theorem ac_name (c : Cells h L ⟨b, o, none⟩ (acc x)) : CellAt h L b (o + 2) (.int .i64 x.name) := c.cell rfl
theorem ac_val (c : Cells h L ⟨b, o, none⟩ (acc x)) {v : Value} (e : x.vv = v) : CellAt h L b (o + 3) v := e ▸ c.cell rfl
theorem ac_del (c : Cells h L ⟨b, o, none⟩ (acc x)) : CellAt h L b (o + 4) (.bool x.del) := c.cell rfl
theorem ac_what (c : Cells h L ⟨b, o, none⟩ (acc x)) : CellAt h L b (o + 0) (.int .i64 x.what) := c.cell rfl
theorem ac_who (c : Cells h L ⟨b, o, none⟩ (acc x)) : CellAt h L b (o + 1) (.int .i64 x.who) := c.cell rfl
end
end Go.Proofs.YtaofgcahmfailaaGreatDoor
end

section
namespace Go.Proofs.YtaofgcahmfailaaGreatDoor
open Go Go.Ck
set_option maxHeartbeats 1000000
structure Cnt where
  hh : View
  n : List Int
  sl : Nat
  K : List (ByteArray × Value)
  N : List (List Int)
  U : List UseK
  T : Tab
structure CntOk (i : Nat) (c : Cnt) : Prop where
  n3 : c.n.length = 3
  nb : ∀ k, k < 3 → 0 ≤ c.n.getD k 0 ∧ c.n.getD k 0 ≤ i
  sb : c.sl ≤ i
  kn : ∀ k : Nat, k < 3 → numK c.K [110, (k : Int)] (c.n.getD k 0)
  nm : Names c.N
  nl : c.N.length ≤ i
  ul : c.U.length = c.sl
  us : ∀ x ∈ c.U, x.2 ≤ c.sl
  ht : Held c.U c.T
theorem CntOk.stay {i : Nat} {c : Cnt} (h : CntOk i c) (hh : View) : CntOk (i + 1) ⟨hh, c.n, c.sl, c.K, c.N, c.U, c.T⟩ where
  n3 := h.n3
  nb := fun k hk => by have := h.nb k hk; dsimp only; omega
  sb := by have := h.sb; dsimp only; omega
  kn := h.kn
  nm := h.nm
  nl := by have := h.nl; dsimp only; omega
  ul := h.ul
  us := h.us
  ht := h.ht
theorem getD_set3 {l : List Int} {k j : Nat} {x : Int} (hk : k < l.length) : (l.set k x).getD j 0 = if j = k then x else l.getD j 0 := by
  rw [List.getD_eq_getElem?_getD, List.getElem?_set, List.getD_eq_getElem?_getD]
  by_cases h : k = j
  · subst h; simp [hk]
  · rw [if_neg h, if_neg (fun e => h e.symm)]
theorem bstr_110 {j k : Nat} (hj : j < 3) (hk : k < 3) (h : j ≠ k) : bstr [110, (j : Int)] ≠ bstr [110, (k : Int)] := by
  rcases (by omega : j = 0 ∨ j = 1 ∨ j = 2) with rfl | rfl | rfl<;>rcases (by omega : k = 0 ∨ k = 1 ∨ k = 2) with rfl | rfl | rfl<;>first|exact absurd rfl h | decide
theorem by110 {k : Nat} (hk : k < 3) : Bytes [110, (k : Int)] := by
  intro y hy
  simp only [List.mem_cons, List.not_mem_nil, or_false] at hy
  omega
theorem CntOk.step {i : Nat} {c : Cnt} (h : CntOk i c) (hh : View) {k : Nat} (hk : k < 3) (ep : Int) (a b : ByteArray) (v : Value) (y : List Int) :
    CntOk (i + 1) ⟨hh, c.n.set k (c.n.getD k 0 + 1), c.sl + 1, mput c.K (bstr [110, (k : Int)]) (.int .i64 (c.n.getD k 0 + 1)), addX true c.N [110, (k : Int)], c.U ++ [(7, (c.sl : Int) + 1)], tabX true c.T ((7, (c.sl : Int) + 1, ep, a, b), v, y)⟩ where
  n3 := by rw [List.length_set]; exact h.n3
  nb := fun j hj => by
    have h1 := h.nb j hj
    have h2 := h.nb k hk
    dsimp only
    rw [getD_set3 (by rw [h.n3]; exact hk)]
    split <;> omega
  sb := by have := h.sb; dsimp only; omega
  kn := fun j hj => by
    dsimp only
    unfold numK
    rw [getD_set3 (by rw [h.n3]; exact hk), mget_put]
    by_cases e : j = k
    · subst e; rw [if_pos rfl, if_pos rfl]; rfl
    · rw [if_neg (bstr_110 hj hk e), if_neg e]; exact h.kn j hj
  nm := addX_names (idl := true) h.nm (by110 hk)
  nl := by
    have h1 := addX_len (idl := true) (N := c.N) (nm := [110, (k : Int)])
    have h2 := h.nl
    dsimp only
    omega
  ul := by rw [List.length_append, h.ul]; rfl
  us := fun x hx => by
    rcases List.mem_append.1 hx with hx | hx
    · have := h.us x hx; dsimp only; omega
    · rw [List.mem_singleton.1 hx]; dsimp only; omega
  ht := h.ht.add (7, (c.sl : Int) + 1, ep, a, b) v y
end Go.Proofs.YtaofgcahmfailaaGreatDoor
end
