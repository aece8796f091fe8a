/-
  Part 10 of a proof: VaO VrA VrB VaP VaQ VaS VaR.
  Conditions: each theorem states its own.
-/
import Derived.Test.YtgeepceieckooaaGreatDoorSeEPM9
set_option maxRecDepth 100000
set_option linter.unusedVariables false
set_option linter.unusedSimpArgs false
section
namespace Go.Proofs.YtgeepceieckooaaGreatDoor
open Go Go.Ck
set_option maxHeartbeats 4000000
def inF (del : Bool) (val : List Int) : List Int := if del then [0] else 1 :: val
theorem inF_by {del : Bool} {val : List Int} (h : Bytes val) : Bytes (inF del val) := by
  unfold inF
  split
  · intro x hx; rw [List.mem_singleton.1 hx]; omega
  · intro x hx
    rcases List.mem_cons.1 hx with rfl | hx
    · omega
    · exact h x hx
theorem inF_len {del : Bool} {val : List Int} (h : del = false → val.length ≤ 3999) : (inF del val).length ≤ 4000 := by
  unfold inF
  split
  · simp
  · rename_i hd
    have := h (by simpa using hd)
    simp; omega
theorem Hdr.ok.sealk {q : Hdr} (h : q.ok) : sealOk q.ep q.cl q.ct := by
  obtain ⟨⟨e1, e2⟩, ⟨c1, c2⟩, ⟨d1, d2⟩, ⟨n1, n2⟩, pl⟩ := h
  exact ⟨⟨d1, d2, c1, c2⟩, e1, e2⟩
def zEnv : Array Value := (envc (List.replicate 32 0) ⟨0, 0, 0, 0, []⟩ (.slice none 0 0) (.slice none 0 0)).toArray
theorem boundF_len {key : List Int} {q : Hdr} (hk : key.length = 32) : (boundF key q).length = 68 + q.past.length := by
  simp only [boundF, num8, List.length_append, List.length_reverse, putLow_len, num4_len]
  omega
theorem spl_seal {key : List Int} {q : Hdr} {pv s0 sv : Value} (hk : key.length = 32) : spl (envc key q pv s0) (0 + 37) [sv] = envc key q pv sv := by
  have hb : (bcs key).length = 32 := by rw [bcs_len, hk]
  unfold envc hdc
  generalize bcs key = l at hb ⊢
  have t37 : l.take 37 = l := List.take_of_length_le (by omega)
  have d38 : l.drop 38 = [] := List.drop_eq_nil_of_le (by omega)
  simp [spl, hb, List.take_append, List.drop_append, t37, d38]
theorem fill_env {key : List Int} {q : Hdr} {pv : Value} (hol : (bcs key).length = 32) : fillL (fun i : Nat => ([(0, 32), (32, 5), (37, 1)] : List (Nat × Nat))[i]?) zEnv.toList [(0, .agg (bcs key).toArray), (1, .agg (hdc q pv).toArray)] = some (envc key q pv (.slice none 0 0)) := by
  have hz : zEnv.toList = List.replicate 32 (.int .u8 0) ++ [.int .i64 0, .int .i64 0, .int .i64 0, .int .i64 0, .slice none 0 0, .slice none 0 0] := rfl
  rw [hz]
  unfold envc hdc
  generalize bcs key = l at hol ⊢
  have d37 : l.drop 37 = [] := List.drop_eq_nil_of_le (by omega)
  simp [fillL, spl, hol, Value.cells, List.drop_append, d37]
theorem ESeal_sp (bv : Nat) (key : List Int) (bn bu bt : Nat) (N : List (List Int)) (U : List UseK) (T : Tab) (nm val : List Int) (vn vv pv : Value) (q : Hdr) (del : Bool) (hk : Bytes key) (hk32 : key.length = 32)
    (hN : Names N) (hNl : N.length < 900000) (hU : U.length < 900000) (hT : Held U T) (hnm : Bytes nm) (hnl : 1 ≤ nm.length ∧ nm.length ≤ 64) (hok : q.ok) (hnew : (q.cl, q.ct) ∉ U) (yv : Bytes val) (hvl : del = false → val.length ≤ 3999)
    (h : View) (hv : Vb h bv true key bn bu bt) (hsn : Bs8 h vn nm) (hsv : Bs8 h vv val) (hsp : Bs8 h pv q.past) (w : World) (s : St ⟨w, h, doms [nmR bn N, usR bu U, tbR bt T]⟩ h [nmR bn N, usR bu U, tbR bt T] w) :
    Calls Tryz.prog 9 [.pointer (some ⟨bv, 0, none⟩), vn, .agg (hdc q pv).toArray, vv, .bool del].toArray w fun e w' => ∃ y : View × Value × Value × Value, e = .returned (.tuple #[.agg (envc (blindF key N nm) q y.2.1 y.2.2.1).toArray, .int .i64 0]) ∧
      St ⟨w, h, doms [nmR bn N, usR bu U, tbR bt T]⟩ y.1 [rowB y.2.1 q.past, rowB y.2.2.1 (sealF key U (padW (inF del val))), nmR bn (addN N nm), usR bu (U ++ [(q.cl, q.ct)]),
        tbR bt (T ++ [((q.cl, q.ct, q.ep, bstr (boundF (blindF key N nm) q), bstr (sealF key U (padW (inF del val)))), y.2.2.2, padW (inF del val))])] w' ∧ Bs8 y.1 y.2.2.2 (padW (inF del val)) := by
  obtain ⟨_, adn, capn, rfl, hcapn, _⟩ := id hsn
  obtain ⟨_, adv, capv, rfl, hcapv, _⟩ := id hsv
  obtain ⟨_, adp, capp, rfl, hcapp, _⟩ := id hsp
  have HR := hright_sp q _ h hsp
  have HN := name_sp _ nm h hsn
  have e1 : decide q.ok = true := by simpa using hok
  have e2 : decide (1 ≤ nm.length ∧ nm.length ≤ 64) = true := by simpa using hnl
  rw [e1] at HR
  rw [e2] at HN
  refine calls_enter Tryz.func9 rfl Tryz.ntmps9 rfl s ?_
  repeat' (first|refine zw202 ?_|(refine ta_ ?_;intro _)|(refine zk0 ?_ ?_<;>intro ht)|fail)
  (refine ycn (ycp Tryz.func22 rfl (by kernel_rfl) rfl) (HN) rfl rfl rfl ?_ ?_; (· (exact to_)))
  repeat' (first|refine zw202 ?_|(refine ta_ ?_;intro _)|(refine zk0 ?_ ?_<;>intro ht)|fail)
  (refine ycn (ycp Tryz.func23 rfl (by kernel_rfl) rfl) (HR) rfl rfl rfl ?_ ?_; (· (exact to_)))
  iterate 12 (first|refine zw3 ?_|(refine ta_ ?_;intro _)|(refine zk0 ?_ ?_<;>intro ht)|fail)
  rename_i b7 b10 bi
  refine yby ?_
  refine ybo ?_
  have hil := inF_len hvl
  have hiy := inF_by (del := del) yv
  refine cx_cut (X := Value) (fun y => [(0, .pointer (some ⟨bv, 0, none⟩)), (1, .slice adn nm.length capn), (7, .pointer (some ⟨b7, 0, none⟩)), (10, .pointer (some ⟨b10, 0, none⟩)), (12, y)]) (fun _ => h) (fun y => [rowB y (inF del val), Res.blk b10 (.cells zEnv 41 (0, 0)), Res.blk b7 (.cells (hdc q (.slice adp q.past.length capp)).toArray 36 (0, 0)), nmR bn N, usR bu U, tbR bt T]) (fun _ => True) ?_ ?_
  · cases del with
    | true =>
      repeat' (first|refine zw3 ?_|(refine ta_ ?_;intro _)|(refine zk0 ?_ ?_<;>intro ht)|fail)
      refine nx_cut (.slice (some ⟨bi, 0, none⟩) 1 1) trivial ts_ (fun w' s' => ?_)
      exact s'.rowOf (k := 1) (m := 1) (cap := 1) (Nat.le_refl _) (by unfold maxLen; omega) rfl
    | false =>
      have hvl := hvl rfl
      repeat' (first|refine zw3 ?_|(refine ta_ ?_;intro _)|(refine zk0 ?_ ?_<;>intro ht)|fail)
      refine rx_rowOf 1 1 1 (Nat.le_refl _) (by unfold maxLen; omega) rfl ?_
      refine rx_append_sc (sz := 1) 0 rfl rfl rfl hsv (bcs_one val) rfl (by omega) (by unfold maxLen; omega) (by omega) rfl rfl rfl ybf (fun _ => ybf) ?_
      intro v2 _
      repeat' (first|refine zw3 ?_|(refine ta_ ?_;intro _)|(refine zk0 ?_ ?_<;>intro ht)|fail)
      refine nx_cut v2 trivial ts_ (fun w' s' => ?_)
      have s2 := (s'.perm (perm_at (k := 1) rfl)).tl
      have e : (inF false val).length = 1 + val.length := by simp [inF]; omega
      unfold rowB
      rw [e]
      exact s2
  intro vi _
  generalize inF del val = ins at *
  have hpd := padW_len hil
  have hsz := sizeF_bd (n := (ins.length : Nat)) (by omega) (by omega)
  refine yby ?_
  repeat' (first|refine zw3 ?_|(refine ta_ ?_;intro _)|(refine zk0 ?_ ?_<;>intro ht)|fail)
  refine rx_call_lendx (u := fun y : Value => .tuple #[y, .int .i64 0]) (LL := fun y => [rowB y (padW ins)]) 0 (ycp Tryz.func24 rfl (by kernel_rfl) rfl) rfl (fun h' _ hsc w s => Pad_sp vi ins hil h' hsc w s) rfl rfl rfl ybf (fun _ => ybf) ?_
  intro vp
  refine rx_persistA (by intro z hz; simp only [doms, List.flatMap_cons, List.flatMap_nil, List.mem_append, Res.mp, List.mem_singleton] at hz ⊢; simp; rcases hz with hz | hz | hz; (· simp_all); (· simp_all); (· simp_all)) fun h1 hle1 hvp => ?_
  have hvp : Bs8 h1 vp (padW ins) := hvp
  obtain ⟨_, adq, capq, rfl, hcapq, _⟩ := id hvp
  have hv1 := hv.mono hle1
  have hsn1 := hsn.mono hle1
  have hsp1 := hsp.mono hle1
  repeat' (first|refine zw3 ?_|(refine ta_ ?_;intro _)|(refine zk0 ?_ ?_<;>intro ht)|fail)
  (refine rx_call_m (ycp Tryz.func25 rfl (by kernel_rfl) rfl) (perm_at (k := 3) rfl) (Blind_sp bv key bn bu bt N _ nm hk hk32 hN hNl hnm hnl h1 hv1 hsn1) rfl rfl rfl ?_ ?_ ?_; (· (exact to_)); (·exact zc148); intro x px hle)
  have hb32 : (blindF key N nm).length = 32 := drawF_len _ _ _ _ (by omega)
  have hby : Bytes (blindF key N nm) := drawF_by _ _ _ _
  generalize hbk : blindF key N nm = bk at hb32 hby ⊢
  have hol : (bcs bk).length = 32 := by rw [bcs_len, hb32]
  clear px hle
  repeat' (first|refine zw203 ?_|(refine ta_ ?_;intro _)|(refine zk0 ?_ ?_<;>intro ht)|fail)
  have hpl : q.past.length ≤ 1000000 := by have := hok.2.2.2.2; omega
  (refine yco (ycp Tryz.func26 rfl (by kernel_rfl) rfl) (bclone_sp _ q.past h1 hsp1 hpl) rfl rfl rfl ?_ ?_ ?_; (· (exact to_)); (·exact zc148); intro x px hle)
  rename_i pc _ _
  refine rx_rowsl 0 rfl fun adx capx hpx => ?_
  subst hpx
  repeat' (first|refine zw204 ?_|(refine ta_ ?_;intro _)|(refine zk0 ?_ ?_<;>intro ht)|fail)
  repeat' (first|refine zw205 ?_|(refine ta_ ?_;intro _)|(refine zk0 ?_ ?_<;>intro ht)|fail)
  refine rx_call_lendx (u := fun y : Nat × Value => .pointer (some ⟨y.1, 0, none⟩)) (LL := fun y => [outR y.1 y.2 false, rowB y.2 (boundF bk q)]) 1 (ycp Tryz.func27 rfl (by kernel_rfl) rfl) rfl (fun h' _ hsc w s => bound_sp bk q _ _ hb32 hok rfl h' hsc w s) rfl rfl rfl ybf (fun _ => ybf) ?_
  rintro ⟨bo, vo⟩
  dsimp only
  have hbl := boundF_len (q := q) hb32
  repeat' (first|refine zw3 ?_|(refine ta_ ?_;intro _)|(refine zk0 ?_ ?_<;>intro ht)|fail)
  (refine rx_call_2 (ycp Tryz.func28 rfl (by kernel_rfl) rfl) (Done_sp bo vo (boundF bk q) (by rw [hbl]; have := hok.2.2.2.2; omega) h1) rfl rfl rfl ?_ ?_ ?_; (· (exact to_)); (·exact zc148); intro x px hle)
  refine rx_persistA (by intro z hz; simp only [doms, List.flatMap_cons, List.flatMap_nil, List.mem_append, Res.mp, List.mem_singleton] at hz ⊢; simp; rcases hz with hz | hz | hz; (· simp_all); (· simp_all); (· simp_all)) fun h2 hle2 hvw => ?_
  have hvw : Bs8 h2 x (boundF bk q) := hvw
  obtain ⟨_, adw, capw, rfl, hcapw, _⟩ := id hvw
  have hv2 := hv1.mono hle2
  have hvp2 := hvp.mono hle2
  repeat' (first|refine zw206 ?_|(refine ta_ ?_;intro _)|(refine zk0 ?_ ?_<;>intro ht)|fail)
  have hpp : (padW ins).length ≤ 5000 := by omega
  refine rx_call_l (ycp Tryz.func29 rfl (by kernel_rfl) rfl) (pick2 9 9 rfl rfl) (VSeal_sp bv key bn bu bt U T q.ep q.cl q.ct _ _ (boundF bk q) (padW ins) hk hk32 hU hT hok.sealk hnew hpp h2 hv2 hvw hvp2) rfl rfl rfl ybf (fun _ _ _ => ybf) ?_
  rintro ⟨h3, vs, tv⟩ htv hle3
  dsimp only at htv hle3 ⊢
  refine rx_rowsl 0 rfl fun ads caps hps => ?_
  subst hps
  repeat' (first|refine zw207 ?_|(refine ta_ ?_;intro _)|(refine zk0 ?_ ?_<;>intro ht)|fail)
  refine nx_ret2 rfl (rv_cells rfl (yaz 10 rfl) (envc_len hb32)) (rv_tmp rfl) (fun w' s' => ⟨(h3, .slice adx q.past.length capx, .slice ads (sealF key U (padW ins)).length caps, tv), rfl, ?_, htv⟩)
  exact s'.picks [6, 0, 6, 0, 0]
end Go.Proofs.YtgeepceieckooaaGreatDoor
end

section
namespace Go.Ck
open Go
theorem calls_frame {P : Program} {f : FuncId} {args : Array Value} {X : Type} {v : X → Value} {hh : X → View} {LL : X → List Res} {p : X → Prop} {Li Lr L : List Res} {h : View} {w : World} (hp : L.Perm (Li ++ Lr))
    (H : ∀ w, St ⟨w, h, doms Li⟩ h Li w → Calls P f args w fun e w' => ∃ x, e = .returned (v x) ∧ St ⟨w, h, doms Li⟩ (hh x) (LL x) w' ∧ p x) (s : St ⟨w, h, doms L⟩ h L w) :
    Calls P f args w fun e w' => ∃ x, e = .returned (v x) ∧ St ⟨w, h, doms L⟩ (hh x) (LL x ++ Lr) w' ∧ p x := by
  have s1 : St ⟨w, h, doms L⟩ h (Li ++ Lr) w := s.perm hp
  refine (H w (St.enter (Li := Li) (Lr := Lr) s1)).mono fun e w' he => ?_
  obtain ⟨x, rfl, st, px⟩ := he
  exact ⟨x, rfl, St.leave (Li := Li) (Lr := Lr) s1 st, px⟩
theorem calls_frame0 {P : Program} {f : FuncId} {args : Array Value} {v : Value} {L : List Res} {h : View} {w : World}
    (H : ∀ w, St ⟨w, h, []⟩ h [] w → Calls P f args w fun e w' => e = .returned v ∧ St ⟨w, h, []⟩ h [] w') (s : St ⟨w, h, doms L⟩ h L w) :
    Calls P f args w fun e w' => e = .returned v ∧ St ⟨w, h, doms L⟩ h L w' :=
  (calls_frame (X := Unit) (v := fun _ => v) (hh := fun _ => h) (LL := fun _ => []) (p := fun _ => True) (Li := []) (Lr := L) (List.Perm.refl _) (fun w s => (H w s).mono fun e w' he => ⟨(), he.1, he.2, trivial⟩) s).mono fun e w' he => by
    obtain ⟨_, h1, h2, _⟩ := he
    exact ⟨h1, h2⟩
end Go.Ck
namespace Go.Proofs.YtgeepceieckooaaGreatDoor
open Go Go.Ck
set_option maxHeartbeats 4000000
theorem blindR_len (key nm : List Int) : (blindR key nm).length = 32 := hmacF_len _ _
theorem blindR_by (key nm : List Int) : Bytes (blindR key nm) := hmacF_by _ _
theorem BlindR_sp (bv : Nat) (key : List Int) (bn bu bt : Nat) (v : Value) (nm : List Int) (hk : Bytes key) (hk32 : key.length = 32) (hx : Bytes nm) (hxl : 1 ≤ nm.length ∧ nm.length ≤ 64) (h : View) (hv : Vb h bv false key bn bu bt) (hs : Bs8 h v nm) (hg : ShG h) (w : World) (s : St ⟨w, h, []⟩ h [] w) :
    Calls Tryz.prog 25 [.pointer (some ⟨bv, 0, none⟩), v].toArray w fun e w' => e = .returned (.tuple #[.agg (bcs (blindR key nm)).toArray, .int .i64 0]) ∧ St ⟨w, h, []⟩ h [] w' := by
  obtain ⟨_, ad, cap, rfl, hcap, _⟩ := id hs
  have K1 := kBlind_sp _ key nm hk hk32 hx hxl h hs hg
  have hol : (bcs (blindR key nm)).length = 32 := by rw [bcs_len, blindR_len]
  generalize blindR key nm = out at K1 hol ⊢
  refine calls_enter Tryz.func25 rfl Tryz.ntmps25 rfl s ?_
  repeat' (first|refine zw208 ?_|(refine ta_ ?_;intro _)|(refine zk0 ?_ ?_<;>intro ht)|fail)
  (refine ycn (ycp Tryz.func56 rfl (by kernel_rfl) rfl) (K1) rfl rfl rfl ?_ ?_; (· (exact to_)))
  repeat' (first|refine zw209 ?_|(refine ta_ ?_;intro _)|(refine zk0 ?_ ?_<;>intro ht)|fail)
  exact nx_ret2 rfl (rv_cells rfl (yaz 0 rfl) (by show (bcs out).toArray.toList.length = 32; simpa using hol)) (rv_tmp rfl) (fun w' s' => ⟨rfl, s'.nil⟩)
theorem nonceF_by (c n : Int) : Bytes (nonceF c n) := by
  unfold nonceF
  split
  · exact cbytes_app (putLow_bytes' 4 _) (putLow_bytes' 8 _)
  · exact zeros_by _
def sealR (key : List Int) (ep c n : Int) (wi b : List Int) : List Int := aeadS (sealK key ep) (nonceF c n) wi b
theorem sealR_len (key : List Int) (ep c n : Int) (wi b : List Int) : (sealR key ep c n wi b).length = b.length + 16 := aeadS_len _ _ _ _
theorem VSealR_sp (bv : Nat) (key : List Int) (bn bu bt : Nat) (U : List UseK) (ep c n : Int) (vw vb : Value) (wi b : List Int) (hk : Bytes key) (hk32 : key.length = 32) (hok : sealOk ep c n) (hnew : (c, n) ∉ U) (hwl : wi.length ≤ 400000) (hbl : b.length ≤ 5000) (yw : Bytes wi) (yb : Bytes b)
    (h : View) (hv : Vb h bv false key bn bu bt) (hw : Bs8 h vw wi) (hb : Bs8 h vb b) (hg : ShG h) (w : World) (s : St ⟨w, h, doms [usR bu U]⟩ h [usR bu U] w) :
    Calls Tryz.prog 29 [.pointer (some ⟨bv, 0, none⟩), .int .i64 ep, .int .i64 c, .int .i64 n, vw, vb].toArray w fun e w' => ∃ x : Value, e = .returned (.tuple #[x, .int .i64 0]) ∧
      St ⟨w, h, doms [usR bu U]⟩ h [rowB x (sealR key ep c n wi b), usR bu (U ++ [(c, n)])] w' ∧ True := by
  obtain ⟨_, adw, capw, rfl, hcapw, _⟩ := id hw
  obtain ⟨_, adb, capb, rfl, hcapb, _⟩ := id hb
  have R1 := vright_sp ep c n h
  rw [if_pos hok] at R1
  have K1 := vkeys_sp bv false key bn bu bt ep c n hk hk32 hok h hv hg
  have kl := sealK_len key ep
  have kb := sealK_by key ep
  have nl := nonceF_len c n
  have nb := nonceF_by c n
  unfold sealR
  generalize sealK key ep = kk at K1 kl kb ⊢
  generalize nonceF c n = nn at K1 nl nb ⊢
  have S1 := aSeal_sp _ _ kk nn wi b kb nb kl nl yw yb hwl (by omega) h hw hb
  generalize aeadS kk nn wi b = out at S1 ⊢
  have hok1 : (bcs kk).length = 32 := by rw [bcs_len, kl]
  have hon : (bcs nn).length = 12 := by rw [bcs_len, nl]
  refine calls_enter Tryz.func29 rfl Tryz.ntmps29 rfl s ?_
  repeat' (first|refine zw210 ?_|(refine ta_ ?_;intro _)|(refine zk0 ?_ ?_<;>intro ht)|fail)
  (refine ycn (ycp Tryz.func61 rfl (by kernel_rfl) rfl) (R1) rfl rfl rfl ?_ ?_; (· (exact to_)))
  repeat' (first|refine zw210 ?_|(refine ta_ ?_;intro _)|(refine zk0 ?_ ?_<;>intro ht)|fail)
  have hu0 : (mget (usL U) ((c, n) : UseK)).getD (.bool false) = .bool false := by rw [usL_get, if_neg hnew]; rfl
  refine cx_region_draw' rfl (by kernel_rfl) ?_
  repeat' (first|refine zw211 ?_|(refine ycf ?_;(first|(refine zg0 ?_ ?_<;>intro ht)|(refine tb_ ?_ ?_ ?_;(·(exact to_));(·intro _;(exact to_));intro _)))|fail)
  repeat' (first|refine zw212 ?_|(refine ta_ ?_;intro _)|(refine zk0 ?_ ?_<;>intro ht)|fail)
  refine cx_region_draw' rfl (by kernel_rfl) ?_
  repeat' (first|refine zw213 ?_|(refine ycf ?_;(first|(refine zg0 ?_ ?_<;>intro ht)|(refine tb_ ?_ ?_ ?_;(·(exact to_));(·intro _;(exact to_));intro _)))|fail)
  refine rx_mapUpdate (a := ((c, n) : UseK)) 1 use_kl rfl rfl rfl rfl rfl rfl ?_ ?_ ?_
  · (exact to_)
  · exact .inr (by kernel_rfl)
  rw [usL_put hnew]
  generalize hU3 : U ++ [((c, n) : UseK)] = U2
  repeat' (first|refine zw213 ?_|(refine ycf ?_;(first|(refine zg0 ?_ ?_<;>intro ht)|(refine tb_ ?_ ?_ ?_;(·(exact to_));(·intro _;(exact to_));intro _)))|fail)
  repeat' (first|refine zw212 ?_|(refine ta_ ?_;intro _)|(refine zk0 ?_ ?_<;>intro ht)|fail)
  (refine ycn (ycp Tryz.func62 rfl (by kernel_rfl) rfl) (K1) rfl rfl rfl ?_ ?_; (· (exact to_)))
  repeat' (first|refine zw214 ?_|(refine ta_ ?_;intro _)|(refine zk0 ?_ ?_<;>intro ht)|fail)
  (refine yco (ycp Tryz.func63 rfl (by kernel_rfl) rfl) (S1) rfl rfl rfl ?_ ?_ ?_; (· (exact to_)); (·exact zc148); intro x px hle)
  repeat' (first|refine zw183 ?_|(refine ta_ ?_;intro _)|(refine zk0 ?_ ?_<;>intro ht)|fail)
  refine nx_ret2 rfl (rv_tmp rfl) (rv_tmp rfl) (fun w' s' => ⟨x, rfl, ?_, trivial⟩)
  exact s'.picks [0, 3]
def nameX (idl : Bool) (key : List Int) (N : List (List Int)) (nm : List Int) : List Int := if idl then blindF key N nm else blindR key nm
def addX (idl : Bool) (N : List (List Int)) (nm : List Int) : List (List Int) := if idl then addN N nm else N
def sealX (idl : Bool) (key : List Int) (U : List UseK) (ep c n : Int) (wi b : List Int) : List Int := if idl then sealF key U b else sealR key ep c n wi b
def tabX (idl : Bool) (T : Tab) (x : SeaK × Value × List Int) : Tab := if idl then T ++ [x] else T
theorem nameX_len (idl : Bool) (key : List Int) (N : List (List Int)) (nm : List Int) : (nameX idl key N nm).length = 32 := by
  cases idl
  · exact blindR_len _ _
  · exact drawF_len _ _ _ _ (by omega)
theorem nameX_by (idl : Bool) (key : List Int) (N : List (List Int)) (nm : List Int) : Bytes (nameX idl key N nm) := by
  cases idl
  · exact blindR_by _ _
  · exact drawF_by _ _ _ _
theorem sealX_len (idl : Bool) (key : List Int) (U : List UseK) (ep c n : Int) (wi b : List Int) : (sealX idl key U ep c n wi b).length = b.length + 16 := by
  cases idl
  · exact sealR_len _ _ _ _ _ _
  · exact drawF_len _ _ _ _ (by omega)
theorem BlindX_sp (idl : Bool) (bv : Nat) (key : List Int) (bn bu bt : Nat) (N : List (List Int)) (v : Value) (nm : List Int) (hk : Bytes key) (hk32 : key.length = 32) (hN : Names N) (hNl : N.length < 900000) (hx : Bytes nm) (hxl : 1 ≤ nm.length ∧ nm.length ≤ 64) (h : View) (hv : Vb h bv idl key bn bu bt) (hs : Bs8 h v nm) (hg : ShG h) (w : World) (s : St ⟨w, h, doms [nmR bn N]⟩ h [nmR bn N] w) :
    Calls Tryz.prog 25 [.pointer (some ⟨bv, 0, none⟩), v].toArray w fun e w' => ∃ _ : Unit, e = .returned (.tuple #[.agg (bcs (nameX idl key N nm)).toArray, .int .i64 0]) ∧ St ⟨w, h, doms [nmR bn N]⟩ h [nmR bn (addX idl N nm)] w' ∧ True := by
  cases idl
  · exact (calls_frame0 (BlindR_sp bv key bn bu bt v nm hk hk32 hx hxl h hv hs hg) s).mono fun e w' he => ⟨(), he.1, he.2, trivial⟩
  · exact Blind_sp bv key bn bu bt N v nm hk hk32 hN hNl hx hxl h hv hs w s
theorem VSealXO_sp (idl : Bool) (bv : Nat) (key : List Int) (bn bu bt : Nat) (U : List UseK) (T : Tab) (ep c n : Int) (vw vb : Value) (wi b : List Int) (hk : Bytes key) (hk32 : key.length = 32) (hU : U.length < 900000) (hT : Held U T) (hok : sealOk ep c n) (hnew : (c, n) ∉ U) (hwl : wi.length ≤ 400000) (hbl : b.length ≤ 5000) (yw : Bytes wi) (yb : Bytes b)
    (h : View) (hv : Vb h bv idl key bn bu bt) (hw : Bs8 h vw wi) (hb : Bs8 h vb b) (hg : ShG h) (w : World) (s : St ⟨w, h, doms [usR bu U, tbR bt T]⟩ h [usR bu U, tbR bt T] w) :
    Calls Tryz.prog 29 [.pointer (some ⟨bv, 0, none⟩), .int .i64 ep, .int .i64 c, .int .i64 n, vw, vb].toArray w fun e w' => ∃ x : Value × Value, e = .returned (.tuple #[x.1, .int .i64 0]) ∧
      St ⟨w, h, doms [usR bu U, tbR bt T]⟩ h [rowB x.1 (sealX idl key U ep c n wi b), rowB x.2 (if idl then b else []), usR bu (U ++ [(c, n)]), tbR bt (tabX idl T ((c, n, ep, bstr wi, bstr (sealX idl key U ep c n wi b)), x.2, b))] w' ∧ True := by
  cases idl
  · refine (calls_frame (X := Value) (Li := [usR bu U]) (Lr := [tbR bt T]) (hh := fun _ => h) (LL := fun x => [rowB x (sealR key ep c n wi b), usR bu (U ++ [(c, n)])]) (List.Perm.refl _) (VSealR_sp bv key bn bu bt U ep c n vw vb wi b hk hk32 hok hnew hwl hbl yw yb h hv hw hb hg) s).mono fun e w' he => ?_
    obtain ⟨x, h1, h2, _⟩ := he
    exact ⟨(x, .slice none 0 0), h1, (h2.rowNil 5 1).picks [1, 0, 0, 0], trivial⟩
  · exact VSealO_sp bv key bn bu bt U T ep c n vw vb wi b hk hk32 hU hT hok hnew hbl h hv hw hb w s
end Go.Proofs.YtgeepceieckooaaGreatDoor
end

section
namespace Go.Proofs.YtgeepceieckooaaGreatDoor
open Go Go.Ck
set_option maxHeartbeats 4000000
theorem boundF_by {key : List Int} {q : Hdr} (hk : Bytes key) (hp : Bytes q.past) : Bytes (boundF key q) := by
  unfold boundF
  exact cbytes_app (cbytes_app (cbytes_app (cbytes_app (cbytes_app (cbytes_app hk (putLow_bytes' 8 _)) (putLow_bytes' 8 _)) (putLow_bytes' 8 _)) (putLow_bytes' 8 _)) (putLow_bytes' 4 _)) hp
theorem ESealG_sp (idl : Bool) (bv : Nat) (key : List Int) (bn bu bt : Nat) (N : List (List Int)) (U : List UseK) (T : Tab) (nm val : List Int) (vn vv pv : Value) (q : Hdr) (del : Bool) (hk : Bytes key) (hk32 : key.length = 32)
    (hN : Names N) (hNl : N.length < 900000) (hU : U.length < 900000) (hT : Held U T) (hnm : Bytes nm) (hnl : 1 ≤ nm.length ∧ nm.length ≤ 64) (hok : q.ok) (hnew : (q.cl, q.ct) ∉ U) (yv : Bytes val) (hvl : del = false → val.length ≤ 3999)
    (h : View) (hv : Vb h bv idl key bn bu bt) (hsn : Bs8 h vn nm) (hsv : Bs8 h vv val) (hsp : Bs8 h pv q.past) (yp : Bytes q.past) (hg : ShG h) (w : World) (s : St ⟨w, h, doms [nmR bn N, usR bu U, tbR bt T]⟩ h [nmR bn N, usR bu U, tbR bt T] w) :
    Calls Tryz.prog 9 [.pointer (some ⟨bv, 0, none⟩), vn, .agg (hdc q pv).toArray, vv, .bool del].toArray w fun e w' => ∃ y : View × Value × Value × Value × Value, e = .returned (.tuple #[.agg (envc (nameX idl key N nm) q y.2.1 y.2.2.1).toArray, .int .i64 0]) ∧
      St ⟨w, h, doms [nmR bn N, usR bu U, tbR bt T]⟩ y.1 [rowB y.2.1 q.past, rowB y.2.2.1 (sealX idl key U q.ep q.cl q.ct (boundF (nameX idl key N nm) q) (padW (inF del val))), rowB y.2.2.2.1 (if idl then padW (inF del val) else []), nmR bn (addX idl N nm), usR bu (U ++ [(q.cl, q.ct)]),
        tbR bt (tabX idl T ((q.cl, q.ct, q.ep, bstr (boundF (nameX idl key N nm) q), bstr (sealX idl key U q.ep q.cl q.ct (boundF (nameX idl key N nm) q) (padW (inF del val)))), y.2.2.2.1, padW (inF del val)))] w' ∧ Bs8 y.1 y.2.2.2.2 (padW (inF del val)) := by
  obtain ⟨_, adn, capn, rfl, hcapn, _⟩ := id hsn
  obtain ⟨_, adv, capv, rfl, hcapv, _⟩ := id hsv
  obtain ⟨_, adp, capp, rfl, hcapp, _⟩ := id hsp
  have HR := hright_sp q _ h hsp
  have HN := name_sp _ nm h hsn
  have e1 : decide q.ok = true := by simpa using hok
  have e2 : decide (1 ≤ nm.length ∧ nm.length ≤ 64) = true := by simpa using hnl
  rw [e1] at HR
  rw [e2] at HN
  refine calls_enter Tryz.func9 rfl Tryz.ntmps9 rfl s ?_
  repeat' (first|refine zw202 ?_|(refine ta_ ?_;intro _)|(refine zk0 ?_ ?_<;>intro ht)|fail)
  (refine ycn (ycp Tryz.func22 rfl (by kernel_rfl) rfl) (HN) rfl rfl rfl ?_ ?_; (· (exact to_)))
  repeat' (first|refine zw202 ?_|(refine ta_ ?_;intro _)|(refine zk0 ?_ ?_<;>intro ht)|fail)
  (refine ycn (ycp Tryz.func23 rfl (by kernel_rfl) rfl) (HR) rfl rfl rfl ?_ ?_; (· (exact to_)))
  iterate 12 (first|refine zw3 ?_|(refine ta_ ?_;intro _)|(refine zk0 ?_ ?_<;>intro ht)|fail)
  rename_i b7 b10 bi
  refine yby ?_
  refine ybo ?_
  have hil := inF_len hvl
  have hiy := inF_by (del := del) yv
  refine cx_cut (X := Value) (fun y => [(0, .pointer (some ⟨bv, 0, none⟩)), (1, .slice adn nm.length capn), (7, .pointer (some ⟨b7, 0, none⟩)), (10, .pointer (some ⟨b10, 0, none⟩)), (12, y)]) (fun _ => h) (fun y => [rowB y (inF del val), Res.blk b10 (.cells zEnv 41 (0, 0)), Res.blk b7 (.cells (hdc q (.slice adp q.past.length capp)).toArray 36 (0, 0)), nmR bn N, usR bu U, tbR bt T]) (fun _ => True) ?_ ?_
  · cases del with
    | true =>
      repeat' (first|refine zw3 ?_|(refine ta_ ?_;intro _)|(refine zk0 ?_ ?_<;>intro ht)|fail)
      refine nx_cut (.slice (some ⟨bi, 0, none⟩) 1 1) trivial ts_ (fun w' s' => ?_)
      exact s'.rowOf (k := 1) (m := 1) (cap := 1) (Nat.le_refl _) (by unfold maxLen; omega) rfl
    | false =>
      have hvl := hvl rfl
      repeat' (first|refine zw3 ?_|(refine ta_ ?_;intro _)|(refine zk0 ?_ ?_<;>intro ht)|fail)
      refine rx_rowOf 1 1 1 (Nat.le_refl _) (by unfold maxLen; omega) rfl ?_
      refine rx_append_sc (sz := 1) 0 rfl rfl rfl hsv (bcs_one val) rfl (by omega) (by unfold maxLen; omega) (by omega) rfl rfl rfl ybf (fun _ => ybf) ?_
      intro v2 _
      repeat' (first|refine zw3 ?_|(refine ta_ ?_;intro _)|(refine zk0 ?_ ?_<;>intro ht)|fail)
      refine nx_cut v2 trivial ts_ (fun w' s' => ?_)
      have s2 := (s'.perm (perm_at (k := 1) rfl)).tl
      have e : (inF false val).length = 1 + val.length := by simp [inF]; omega
      unfold rowB
      rw [e]
      exact s2
  intro vi _
  generalize inF del val = ins at *
  have hpd := padW_len hil
  have hsz := sizeF_bd (n := (ins.length : Nat)) (by omega) (by omega)
  refine yby ?_
  repeat' (first|refine zw3 ?_|(refine ta_ ?_;intro _)|(refine zk0 ?_ ?_<;>intro ht)|fail)
  refine rx_call_lendx (u := fun y : Value => .tuple #[y, .int .i64 0]) (LL := fun y => [rowB y (padW ins)]) 0 (ycp Tryz.func24 rfl (by kernel_rfl) rfl) rfl (fun h' _ hsc w s => Pad_sp vi ins hil h' hsc w s) rfl rfl rfl ybf (fun _ => ybf) ?_
  intro vp
  refine rx_persistA (by intro z hz; simp only [doms, List.flatMap_cons, List.flatMap_nil, List.mem_append, Res.mp, List.mem_singleton] at hz ⊢; simp; rcases hz with hz | hz | hz; (· simp_all); (· simp_all); (· simp_all)) fun h1 hle1 hvp => ?_
  have hvp : Bs8 h1 vp (padW ins) := hvp
  obtain ⟨_, adq, capq, rfl, hcapq, _⟩ := id hvp
  have hv1 := hv.mono hle1
  have hsn1 := hsn.mono hle1
  have hsp1 := hsp.mono hle1
  repeat' (first|refine zw3 ?_|(refine ta_ ?_;intro _)|(refine zk0 ?_ ?_<;>intro ht)|fail)
  (refine rx_call_m (ycp Tryz.func25 rfl (by kernel_rfl) rfl) (perm_at (k := 3) rfl) (BlindX_sp idl bv key bn bu bt N _ nm hk hk32 hN hNl hnm hnl h1 hv1 hsn1 (hg.mono hle1)) rfl rfl rfl ?_ ?_ ?_; (· (exact to_)); (·exact zc148); intro x px hle)
  have hb32 : (nameX idl key N nm).length = 32 := nameX_len _ _ _ _
  have hby : Bytes (nameX idl key N nm) := nameX_by _ _ _ _
  generalize hbk : nameX idl key N nm = bk at hb32 hby ⊢
  have hol : (bcs bk).length = 32 := by rw [bcs_len, hb32]
  clear px hle
  repeat' (first|refine zw203 ?_|(refine ta_ ?_;intro _)|(refine zk0 ?_ ?_<;>intro ht)|fail)
  have hpl : q.past.length ≤ 1000000 := by have := hok.2.2.2.2; omega
  (refine yco (ycp Tryz.func26 rfl (by kernel_rfl) rfl) (bclone_sp _ q.past h1 hsp1 hpl) rfl rfl rfl ?_ ?_ ?_; (· (exact to_)); (·exact zc148); intro x px hle)
  rename_i pc _ _
  refine rx_rowsl 0 rfl fun adx capx hpx => ?_
  subst hpx
  repeat' (first|refine zw204 ?_|(refine ta_ ?_;intro _)|(refine zk0 ?_ ?_<;>intro ht)|fail)
  repeat' (first|refine zw205 ?_|(refine ta_ ?_;intro _)|(refine zk0 ?_ ?_<;>intro ht)|fail)
  refine rx_call_lendx (u := fun y : Nat × Value => .pointer (some ⟨y.1, 0, none⟩)) (LL := fun y => [outR y.1 y.2 false, rowB y.2 (boundF bk q)]) 1 (ycp Tryz.func27 rfl (by kernel_rfl) rfl) rfl (fun h' _ hsc w s => bound_sp bk q _ _ hb32 hok rfl h' hsc w s) rfl rfl rfl ybf (fun _ => ybf) ?_
  rintro ⟨bo, vo⟩
  dsimp only
  have hbl := boundF_len (q := q) hb32
  repeat' (first|refine zw3 ?_|(refine ta_ ?_;intro _)|(refine zk0 ?_ ?_<;>intro ht)|fail)
  (refine rx_call_2 (ycp Tryz.func28 rfl (by kernel_rfl) rfl) (Done_sp bo vo (boundF bk q) (by rw [hbl]; have := hok.2.2.2.2; omega) h1) rfl rfl rfl ?_ ?_ ?_; (· (exact to_)); (·exact zc148); intro x px hle)
  refine rx_persistA (by intro z hz; simp only [doms, List.flatMap_cons, List.flatMap_nil, List.mem_append, Res.mp, List.mem_singleton] at hz ⊢; simp; rcases hz with hz | hz | hz; (· simp_all); (· simp_all); (· simp_all)) fun h2 hle2 hvw => ?_
  have hvw : Bs8 h2 x (boundF bk q) := hvw
  obtain ⟨_, adw, capw, rfl, hcapw, _⟩ := id hvw
  have hv2 := hv1.mono hle2
  have hvp2 := hvp.mono hle2
  repeat' (first|refine zw206 ?_|(refine ta_ ?_;intro _)|(refine zk0 ?_ ?_<;>intro ht)|fail)
  have hpp : (padW ins).length ≤ 5000 := by omega
  refine rx_call_l (ycp Tryz.func29 rfl (by kernel_rfl) rfl) (pick2 9 9 rfl rfl) (VSealXO_sp idl bv key bn bu bt U T q.ep q.cl q.ct _ _ (boundF bk q) (padW ins) hk hk32 hU hT hok.sealk hnew (by rw [hbl]; have := hok.2.2.2.2; omega) hpp (boundF_by hby yp) (padW_by hiy) h2 hv2 hvw hvp2 ((hg.mono hle1).mono hle2)) rfl rfl rfl ybf (fun _ _ _ => ybf) ?_
  rintro ⟨vs, tv⟩ _ _
  dsimp only
  refine rx_rowsl 0 rfl fun ads caps hps => ?_
  subst hps
  repeat' (first|refine zw215 ?_|(refine ta_ ?_;intro _)|(refine zk0 ?_ ?_<;>intro ht)|fail)
  refine nx_ret2 rfl (rv_cells rfl (yaz 11 rfl) (envc_len hb32)) (rv_tmp rfl) (fun w' s' => ⟨(h2, .slice adx q.past.length capx, .slice ads (sealX idl key U q.ep q.cl q.ct (boundF bk q) (padW ins)).length caps, tv, _), rfl, ?_, hvp2⟩)
  exact s'.picks [7, 0, 0, 6, 0, 0]
theorem ESealO_sp (idl : Bool) (bv : Nat) (key : List Int) (bn bu bt : Nat) (N : List (List Int)) (U : List UseK) (T : Tab) (nm val : List Int) (vn vv pv : Value) (q : Hdr) (del : Bool) (hk : Bytes key) (hk32 : key.length = 32)
    (hN : Names N) (hNl : N.length < 900000) (hU : U.length < 900000) (hT : Held U T) (hnm : Bytes nm) (hnl : 1 ≤ nm.length ∧ nm.length ≤ 64) (hok : q.ok) (hnew : (q.cl, q.ct) ∉ U) (yv : Bytes val) (hvl : del = false → val.length ≤ 3999)
    (h : View) (hv : Vb h bv idl key bn bu bt) (hsn : Bs8 h vn nm) (hsv : Bs8 h vv val) (hsp : Bs8 h pv q.past) (yp : Bytes q.past) (hg : ShG h) (w : World) (s : St ⟨w, h, doms [nmR bn N, usR bu U, tbR bt T]⟩ h [nmR bn N, usR bu U, tbR bt T] w) :
    Calls Tryz.prog 9 [.pointer (some ⟨bv, 0, none⟩), vn, .agg (hdc q pv).toArray, vv, .bool del].toArray w fun e w' => ∃ y : Value × Value × Value, e = .returned (.tuple #[.agg (envc (nameX idl key N nm) q y.1 y.2.1).toArray, .int .i64 0]) ∧
      St ⟨w, h, doms [nmR bn N, usR bu U, tbR bt T]⟩ h [rowB y.1 q.past, rowB y.2.1 (sealX idl key U q.ep q.cl q.ct (boundF (nameX idl key N nm) q) (padW (inF del val))), rowB y.2.2 (if idl then padW (inF del val) else []), nmR bn (addX idl N nm), usR bu (U ++ [(q.cl, q.ct)]),
        tbR bt (tabX idl T ((q.cl, q.ct, q.ep, bstr (boundF (nameX idl key N nm) q), bstr (sealX idl key U q.ep q.cl q.ct (boundF (nameX idl key N nm) q) (padW (inF del val)))), y.2.2, padW (inF del val)))] w' ∧ True := by
  refine (ESealG_sp idl bv key bn bu bt N U T nm val vn vv pv q del hk hk32 hN hNl hU hT hnm hnl hok hnew yv hvl h hv hsn hsv hsp yp hg w s).mono fun e w' he => ?_
  obtain ⟨⟨h3, v1, v2, v3, v4⟩, he, st, _⟩ := he
  exact ⟨(v1, v2, v3), he, st.baseL, trivial⟩
end Go.Proofs.YtgeepceieckooaaGreatDoor
end

section
namespace Go.Proofs.YtgeepceieckooaaGreatDoor
open Go Go.Ck
set_option maxHeartbeats 4000000
def vlF (l : List Int) : List Int × Bool × Int := if l.length = 1 ∧ l.getD 0 0 = 0 then ([], true, 0) else if 0 < l.length ∧ l.getD 0 0 = 1 then (l.drop 1, false, 0) else ([], false, 2)
def valF (p : List Int) : List Int × Bool × Int := if cutOk p then vlF (cutV p) else ([], false, 2)
theorem value_sp (v : Value) (p : List Int) (yb : Bytes p) (hl : p.length ≤ 900000) (h : View) (hb : Bs8 h v p) (w : World) (s : St ⟨w, h, []⟩ h [] w) :
    Calls Tryz.prog 38 [v].toArray w fun e w' => ∃ x : View × Value, e = .returned (.tuple #[x.2, .bool (valF p).2.1, .int .i64 (valF p).2.2]) ∧ St ⟨w, h, []⟩ x.1 [] w' ∧ Bs8 x.1 x.2 (valF p).1 := by
  obtain ⟨_, ad, cap, rfl, hcap, _⟩ := id hb
  have C1 := Cut_sp _ p yb hl h hb
  unfold valF
  generalize cutOk p = ok at C1 ⊢
  generalize cutV p = l at C1 ⊢
  refine calls_enter Tryz.func38 rfl Tryz.ntmps38 rfl s ?_
  repeat' (first|refine tw_ ?_|(refine ta_ ?_;intro _)|(refine zk0 ?_ ?_<;>intro ht)|fail)
  (refine yco (ycp Tryz.func76 rfl (by kernel_rfl) rfl) (C1) rfl rfl rfl ?_ ?_ ?_; (· (exact to_)); (·exact zc148); intro x px hle)
  obtain ⟨h1, vl⟩ := x
  dsimp only at px ⊢
  cases ok with
  | false =>
    rw [if_neg (by simp)] at px
    rw [if_neg (by simp), if_neg (by simp)]
    repeat' (first|refine zw3 ?_|(refine ta_ ?_;intro _)|(refine zk0 ?_ ?_<;>intro ht)|fail)
    exact nx_ret3 rfl (rv_tmp rfl) (rv_tmp rfl) (rv_tmp rfl) (fun w' s' => ⟨(h1, .slice none 0 0), rfl, s'.nil, Sc.nil _ _ _ _⟩)
  | true =>
    rw [if_pos rfl] at px
    rw [if_pos rfl, if_pos rfl]
    obtain ⟨_, adl, capl, rfl, hcapl, _⟩ := id px
    unfold vlF
    by_cases h0 : 0 < l.length
    · obtain ⟨bl, ol, rfl⟩ := px.ad (by omega) (by omega)
      have hc : ∀ L, CellAt h1 L bl (ol + 0 * 1) (.int .u8 (l.getD 0 0)) := fun L => (px.cells (L := L)).cell (by simp [bcs, h0])
      have hdrop : Bs8 h1 (.slice (cutF (some ⟨bl, ol, none⟩) capl 1 1) (l.length - 1) (capl - 1)) (l.drop 1) := by
        have := sc_drop (j := 1) px (by omega) (by omega)
        unfold Bs8
        rw [List.length_drop]
        simpa [bcs, List.map_drop] using this
      generalize l.getD 0 0 = a at hc ⊢
      by_cases h1' : l.length = 1
      · by_cases ha : a = 0
        · rw [if_pos ⟨h1', ha⟩]
          repeat' (first|refine zw216 ?_|(refine ta_ ?_;intro _)|(refine zk0 ?_ ?_<;>intro ht)|fail)
          exact nx_ret3 rfl (rv_tmp rfl) (rv_tmp rfl) (rv_tmp rfl) (fun w' s' => ⟨(h1, .slice none 0 0), rfl, s'.nil, Sc.nil _ _ _ _⟩)
        · rw [if_neg (fun q => ha q.2)]
          by_cases ha1 : a = 1
          · rw [if_pos ⟨h0, ha1⟩]
            repeat' (first|refine zw217 ?_|(refine ta_ ?_;intro _)|(refine zk0 ?_ ?_<;>intro ht)|fail)
            exact nx_ret3 rfl (rv_tmp rfl) (rv_tmp rfl) (rv_tmp rfl) (fun w' s' => ⟨(h1, _), rfl, s'.nil, hdrop⟩)
          · rw [if_neg (fun q => ha1 q.2)]
            repeat' (first|refine zw216 ?_|(refine ta_ ?_;intro _)|(refine zk0 ?_ ?_<;>intro ht)|fail)
            exact nx_ret3 rfl (rv_tmp rfl) (rv_tmp rfl) (rv_tmp rfl) (fun w' s' => ⟨(h1, .slice none 0 0), rfl, s'.nil, Sc.nil _ _ _ _⟩)
      · rw [if_neg (fun q => h1' q.1)]
        by_cases ha1 : a = 1
        · rw [if_pos ⟨h0, ha1⟩]
          repeat' (first|refine zw217 ?_|(refine ta_ ?_;intro _)|(refine zk0 ?_ ?_<;>intro ht)|fail)
          exact nx_ret3 rfl (rv_tmp rfl) (rv_tmp rfl) (rv_tmp rfl) (fun w' s' => ⟨(h1, _), rfl, s'.nil, hdrop⟩)
        · rw [if_neg (fun q => ha1 q.2)]
          repeat' (first|refine zw216 ?_|(refine ta_ ?_;intro _)|(refine zk0 ?_ ?_<;>intro ht)|fail)
          exact nx_ret3 rfl (rv_tmp rfl) (rv_tmp rfl) (rv_tmp rfl) (fun w' s' => ⟨(h1, .slice none 0 0), rfl, s'.nil, Sc.nil _ _ _ _⟩)
    · rw [if_neg (fun q => by omega), if_neg (fun q => h0 q.1)]
      repeat' (first|refine zw3 ?_|(refine ta_ ?_;intro _)|(refine zk0 ?_ ?_<;>intro ht)|fail)
      exact nx_ret3 rfl (rv_tmp rfl) (rv_tmp rfl) (rv_tmp rfl) (fun w' s' => ⟨(h1, .slice none 0 0), rfl, s'.nil, Sc.nil _ _ _ _⟩)
end Go.Proofs.YtgeepceieckooaaGreatDoor
end

section
namespace Go.Proofs.YtgeepceieckooaaGreatDoor
open Go Go.Ck
set_option maxHeartbeats 4000000
theorem arr_neq {T e m by' : Nat} {z : Value} [tu : TyU Tryz.prog T (.array m e)] [te : TyU Tryz.prog e (.int .u8)] [ta : TyA Tryz.prog e false] [tb : TyB Tryz.prog e z 1 by'] [tg : TyG Tryz.prog T] {n : Nat} {F : List (Nat × Value)} {h : View} {L : List Res} {dst : Option Nat} {ty T' : Nat} {pos : String} {af : Array Edge} {gd : Option (Nat × Bool)} {x y : Operand} {a b : List Int}
    (hx : ev F x = some (.agg (bcs a).toArray)) (hy : ev F y = some (.agg (bcs b).toArray)) (ha : a.length = m) (hb : b.length = m) : QV Tryz.prog n F h L ⟨dst, .binOp .neq T x y T', ty, pos, af, gd⟩ (.bool (!decide (a = b))) :=
  qv_neq_agg hx hy (fun w => run_equal_arr (k := .u8) a b ha hb w)
def openF (key : List Int) (N : List (List Int)) (T : Tab) (nm ek : List Int) (q : Hdr) (se : List Int) : List Int × Bool × Int :=
  if blindF key N nm = ek then match mget T (q.cl, q.ct, q.ep, bstr (boundF ek q), bstr se) with
    | some x => valF x.2
    | none => ([], false, 6)
  else ([], false, 6)
theorem EOpen_sp (bv : Nat) (key : List Int) (bn bu bt : Nat) (N : List (List Int)) (T : Tab) (nm ek se : List Int) (vn pv sv : Value) (q : Hdr) (hk : Bytes key) (hk32 : key.length = 32) (he32 : ek.length = 32)
    (hN : Names N) (hNl : N.length < 900000) (hTl : ∀ x ∈ T, x.2.2.length ≤ 900000 ∧ Bytes x.2.2) (hnm : Bytes nm) (hnl : 1 ≤ nm.length ∧ nm.length ≤ 64) (hok : q.ok) (hsl : 16 ≤ se.length ∧ se.length ≤ 8192)
    (h : View) (hT : TbOk h T) (hv : Vb h bv true key bn bu bt) (hsn : Bs8 h vn nm) (hsp : Bs8 h pv q.past) (hss : Bs8 h sv se) (w : World) (s : St ⟨w, h, doms [nmR bn N, tbR bt T]⟩ h [nmR bn N, tbR bt T] w) :
    Calls Tryz.prog 12 [.pointer (some ⟨bv, 0, none⟩), vn, .agg (envc ek q pv sv).toArray].toArray w fun e w' => ∃ y : View × Value, e = .returned (.tuple #[y.2, .bool (openF key N T nm ek q se).2.1, .int .i64 (openF key N T nm ek q se).2.2]) ∧
      St ⟨w, h, doms [nmR bn N, tbR bt T]⟩ y.1 [nmR bn (addN N nm), tbR bt T] w' ∧ Bs8 y.1 y.2 (openF key N T nm ek q se).1 := by
  obtain ⟨_, adn, capn, rfl, hcapn, _⟩ := id hsn
  obtain ⟨_, adp, capp, rfl, hcapp, _⟩ := id hsp
  obtain ⟨_, ads, caps, rfl, hcaps, _⟩ := id hss
  have HR := eright_sp ek q _ _ se he32 h hsp hss
  have HN := name_sp _ nm h hsn
  have e1 : decide (q.ok ∧ 16 ≤ se.length ∧ se.length ≤ 8192) = true := by simpa using ⟨hok, hsl⟩
  have e2 : decide (1 ≤ nm.length ∧ nm.length ≤ 64) = true := by simpa using hnl
  have hbk := drawF_len key 0 (N.idxOf nm + 1) 32 (by omega)
  have hbk : (blindF key N nm).length = 32 := hbk
  rw [e1] at HR
  rw [e2] at HN
  refine calls_enter Tryz.func12 rfl Tryz.ntmps12 rfl s ?_
  repeat' (first|refine zw218 ?_|(refine ta_ ?_;intro _)|(refine zk0 ?_ ?_<;>intro ht)|fail)
  (refine ycn (ycp Tryz.func22 rfl (by kernel_rfl) rfl) (HN) rfl rfl rfl ?_ ?_; (· (exact to_)))
  repeat' (first|refine zw218 ?_|(refine ta_ ?_;intro _)|(refine zk0 ?_ ?_<;>intro ht)|fail)
  (refine ycn (ycp Tryz.func36 rfl (by kernel_rfl) rfl) (HR) rfl rfl rfl ?_ ?_; (· (exact to_)))
  repeat' (first|refine zw218 ?_|(refine ta_ ?_;intro _)|(refine zk0 ?_ ?_<;>intro ht)|fail)
  (refine rx_call_m (ycp Tryz.func25 rfl (by kernel_rfl) rfl) (perm_at (k := 1) rfl) (Blind_sp bv key bn bu bt N _ nm hk hk32 hN hNl hnm hnl h hv hsn) rfl rfl rfl ?_ ?_ ?_; (· (exact to_)); (·exact zc148); intro x px hle)
  clear px hle
  generalize hbkk : blindF key N nm = bk at hbk ⊢
  have hol : (bcs bk).length = 32 := by rw [bcs_len, hbk]
  by_cases hbe : bk = ek
  · have hd : (!decide (bk = ek)) = false := by simpa using hbe
    have hop : openF key N T nm ek q se = (match mget T (q.cl, q.ct, q.ep, bstr (boundF ek q), bstr se) with | some x => valF x.2 | none => ([], false, 6)) := by unfold openF; rw [hbkk, if_pos hbe]
    rw [hop]
    have hneq : ∀ {n : Nat} {F : List (Nat × Value)} {h : View} {L : List Res} {dst : Option Nat} {ty T' : Nat} {pos : String} {af : Array Edge} {gd : Option (Nat × Bool)} {x y : Operand}, ev F x = some (.agg (bcs bk).toArray) → ev F y = some (.agg (bcs ek).toArray) → QV Tryz.prog n F h L ⟨dst, .binOp .neq 39 x y T', ty, pos, af, gd⟩ (.bool false) := fun hx hy => by rw [← hd]; exact arr_neq hx hy hbk he32
    repeat' (first|refine zw219 ?_|(refine ta_ ?_;intro _)|(refine zk0 ?_ ?_<;>intro ht)|fail)
    have hbl := boundF_len (q := q) he32
    (refine yco (ycp Tryz.func27 rfl (by kernel_rfl) rfl) (bound_sp ek q _ _ he32 hok rfl h hsp) rfl rfl rfl ?_ ?_ ?_; (· (exact to_)); (·exact zc148); intro x px hle)
    obtain ⟨bo, vo⟩ := x
    clear px hle
    repeat' (first|refine zw3 ?_|(refine ta_ ?_;intro _)|(refine zk0 ?_ ?_<;>intro ht)|fail)
    (refine rx_call_2 (ycp Tryz.func28 rfl (by kernel_rfl) rfl) (Done_sp bo vo (boundF ek q) (by rw [hbl]; have := hok.2.2.2.2; omega) h) rfl rfl rfl ?_ ?_ ?_; (· (exact to_)); (·exact zc148); intro x px hle)
    refine rx_persistA (by intro z hz; simp only [doms, List.flatMap_cons, List.flatMap_nil, List.mem_append, Res.mp, List.mem_singleton] at hz ⊢; simp; rcases hz with hz | hz; (· simp_all); (· simp_all)) fun h2 hle2 hvw => ?_
    have hvw : Bs8 h2 x (boundF ek q) := hvw
    obtain ⟨_, adw, capw, rfl, hcapw, _⟩ := id hvw
    have hv2 := hv.mono hle2
    have hT2 := hT.mono hle2
    have hss2 := hss.mono hle2
    repeat' (first|refine zw220 ?_|(refine ta_ ?_;intro _)|(refine zk0 ?_ ?_<;>intro ht)|fail)
    subst hbe
    cases hx : mget T (q.cl, q.ct, q.ep, bstr (boundF bk q), bstr se) with
    | none =>
      refine rx_call_m (ycp Tryz.func37 rfl (by kernel_rfl) rfl) (perm_at (k := 5) rfl) (VOpen_none bv key bn bu bt T q.ep q.cl q.ct _ _ (boundF bk q) se hk32 hok.sealk hsl.1 hx h2 hv2 hvw hss2) rfl rfl rfl ybf (fun _ _ _ => ybf) ?_
      intro _ _ _
      repeat' (first|refine zw3 ?_|(refine ta_ ?_;intro _)|(refine zk0 ?_ ?_<;>intro ht)|fail)
      refine nx_ret3 rfl (rv_tmp rfl) (rv_tmp rfl) (rv_tmp rfl) (fun w' s' => ⟨(h2, .slice none 0 0), rfl, ?_, Sc.nil _ _ _ _⟩)
      exact s'.picks [4, 0]
    | some r =>
      have hr : r.2.length ≤ 900000 ∧ Bytes r.2 := hTl _ (mget_mem hx)
      refine rx_call_m (ycp Tryz.func37 rfl (by kernel_rfl) rfl) (perm_at (k := 5) rfl) (VOpen_some bv key bn bu bt T q.ep q.cl q.ct _ _ (boundF bk q) se r hk32 hok.sealk hsl.1 hx (by omega) h2 hT2 hv2 hvw hss2) rfl rfl rfl ybf (fun _ _ _ => ybf) ?_
      intro vo2 _ _
      refine rx_persistA (by intro z hz; simp only [doms, List.flatMap_cons, List.flatMap_nil, List.mem_append, Res.mp, List.mem_singleton] at hz ⊢; simp; rcases hz with hz | hz; (· simp_all); (· simp_all)) fun h3 hle3 hvo => ?_
      have hvo : Bs8 h3 vo2 r.2 := hvo
      obtain ⟨_, ado, capo, rfl, hcapo, _⟩ := id hvo
      repeat' (first|refine zw3 ?_|(refine ta_ ?_;intro _)|(refine zk0 ?_ ?_<;>intro ht)|fail)
      (refine yco (ycp Tryz.func38 rfl (by kernel_rfl) rfl) (value_sp _ r.2 hr.2 hr.1 h3 hvo) rfl rfl rfl ?_ ?_ ?_; (· (exact to_)); (·exact zc148); intro x px hle)
      obtain ⟨h4, vr⟩ := x
      dsimp only at px ⊢
      repeat' (first|refine zw3 ?_|(refine ta_ ?_;intro _)|(refine zk0 ?_ ?_<;>intro ht)|fail)
      refine nx_ret3 rfl (rv_tmp rfl) (rv_tmp rfl) (rv_tmp rfl) (fun w' s' => ⟨(h4, vr), rfl, ?_, px⟩)
      exact s'.picks [4, 0]
  · have hd : (!decide (bk = ek)) = true := by simpa using hbe
    have hop : openF key N T nm ek q se = ([], false, 6) := by unfold openF; rw [hbkk, if_neg hbe]
    rw [hop]
    have hneq : ∀ {n : Nat} {F : List (Nat × Value)} {h : View} {L : List Res} {dst : Option Nat} {ty T' : Nat} {pos : String} {af : Array Edge} {gd : Option (Nat × Bool)} {x y : Operand}, ev F x = some (.agg (bcs bk).toArray) → ev F y = some (.agg (bcs ek).toArray) → QV Tryz.prog n F h L ⟨dst, .binOp .neq 39 x y T', ty, pos, af, gd⟩ (.bool true) := fun hx hy => by rw [← hd]; exact arr_neq hx hy hbk he32
    repeat' (first|refine zw221 ?_|(refine ta_ ?_;intro _)|(refine zk0 ?_ ?_<;>intro ht)|fail)
    refine nx_ret3 rfl (rv_tmp rfl) (rv_tmp rfl) (rv_tmp rfl) (fun w' s' => ⟨(h, .slice none 0 0), rfl, ?_, Sc.nil _ _ _ _⟩)
    exact s'.picks [1, 2]
end Go.Proofs.YtgeepceieckooaaGreatDoor
end

section
namespace Go.Proofs.YtgeepceieckooaaGreatDoor
open Go Go.Ck
set_option maxHeartbeats 4000000
theorem blindF_ne (key : List Int) {N M : List (List Int)} {x y : List Int} (h1 : N.idxOf x < 900000) (h2 : M.idxOf y < 900000) (h : N.idxOf x ≠ M.idxOf y) : blindF key N x ≠ blindF key M y :=
  drawF_ne key (by omega) (by omega) (by omega)
theorem byC_putV {b r : List Int} {most : Int} (hl : (b.length : Int) ≤ most) (h4 : b.length < 4294967296) : byC (num4 (b.length : Int) ++ b ++ r, 0) most = (b, (r, 0)) := by
  have h1 : lookC (num4 (b.length : Int) ++ b ++ r) 4 most = ((b.length : Int), 0) := by
    have := numC_put (size := 4) (x := (b.length : Int)) (most := most) (r := b ++ r) (by omega) hl (by
      have e : (256 : Int) ^ 4 = 4294967296 := by decide
      rw [e]; omega)
    unfold numC at this
    rw [if_neg (by simp)] at this
    dsimp only at this
    rw [show (putLow 4 (b.length : Int)).reverse ++ (b ++ r) = num4 (b.length : Int) ++ b ++ r by rw [List.append_assoc]; rfl] at this
    split at this
    · rename_i hz
      have e1 := congrArg Prod.fst this
      dsimp only at e1
      exact Prod.ext e1 hz
    · rename_i hz
      have e2 := congrArg (fun p => p.2.2) this
      exact absurd e2 hz
  have hlen : (num4 (b.length : Int) ++ b ++ r).length = 4 + b.length + r.length := by simp only [List.length_append, num4_len]
  have hd : (num4 (b.length : Int) ++ b ++ r).drop 4 = b ++ r := by
    rw [List.append_assoc, List.drop_append_of_le_length (by rw [num4_len]; exact Nat.le_refl _), List.drop_of_length_le (by rw [num4_len]; exact Nat.le_refl _), List.nil_append]
  unfold byC
  rw [if_neg (by simp)]
  dsimp only
  rw [h1, if_neg (by simp)]
  dsimp only
  rw [hlen, Int.toNat_natCast, if_neg (by omega), hd]
  rw [List.take_left, List.drop_left]
theorem cutV_pad {b : List Int} (hb : Bytes b) (hl : b.length ≤ 4000) : cutV (padW b) = b := by
  unfold cutV padW
  rw [byC_putV (by omega) (by omega)]
theorem cutOk_pad {b : List Int} (hb : Bytes b) (hl : b.length ≤ 4000) : cutOk (padW b) = true := by
  unfold cutOk
  rw [cutV_pad hb hl]
  simp
theorem valF_pad {del : Bool} {val : List Int} (hb : Bytes val) (hl : del = false → val.length ≤ 3999) : valF (padW (inF del val)) = (if del then [] else val, del, 0) := by
  unfold valF
  rw [if_pos (cutOk_pad (inF_by hb) (inF_len hl)), cutV_pad (inF_by hb) (inF_len hl)]
  unfold vlF inF
  cases del <;> simp
end Go.Proofs.YtgeepceieckooaaGreatDoor
end

section
namespace Go.Proofs.YtgeepceieckooaaGreatDoor
open Go Go.Ck
set_option maxHeartbeats 4000000
def key1 (k : Int) : List Int := k :: List.replicate 31 0
theorem key1_by {k : Int} (h : 0 ≤ k ∧ k < 256) : Bytes (key1 k) := fun x hx => by
  rcases List.mem_cons.1 hx with rfl | hx
  · exact h
  · have := List.eq_of_mem_replicate hx
    omega
def hd1 : Hdr := ⟨1, 1, 1, 1, []⟩
theorem seals_sp (h : View) (w : World) (s : St ⟨w, h, []⟩ h [] w) :
    Calls Tryz.prog 11 [].toArray w fun e w' => ∃ h', e = .returned (.bool true) ∧ St ⟨w, h, []⟩ h' [] w' := by
  have hk : Bytes (key1 1) := key1_by (by omega)
  have hb107 : Bytes [107] := by intro x hx; rw [List.mem_singleton.1 hx]; omega
  have hb108 : Bytes [108] := by intro x hx; rw [List.mem_singleton.1 hx]; omega
  have hbval : Bytes [118, 97, 108, 117, 101] := by
    intro x hx
    simp only [List.mem_cons, List.not_mem_nil, or_false] at hx
    omega
  have hok1 : hd1.ok := by decide
  have hnil : Names [] := fun x hx => by cases hx
  refine calls_enter Tryz.func11 rfl Tryz.ntmps11 rfl s ?_
  repeat' (first|refine zw222 ?_|(refine ta_ ?_;intro _)|(refine zk0 ?_ ?_<;>intro ht)|fail)
  (refine yco (ycp Tryz.func20 rfl (by kernel_rfl) rfl) (Ideal_sp (key1 1) rfl h) rfl rfl rfl ?_ ?_ ?_; (· (exact to_)); (·exact zc148); intro x px hle)
  obtain ⟨h1, bv, bn, bu, bt⟩ := x
  dsimp only at px hle ⊢
  have hv1 : Vb h1 bv true (key1 1) bn bu bt := px
  clear px hle
  repeat' (first|refine tw_ ?_|(refine ta_ ?_;intro _)|(refine zk0 ?_ ?_<;>intro ht)|fail)
  refine rx_mark 0 rfl rfl rfl (by unfold maxLen; omega) rfl rfl rfl ybf ybf ?_
  refine rx_persist_s rfl fun h2 hle2 hn2 => ?_
  have hn2 : Bs8 h2 (.slice (some ⟨_, 0, none⟩) ([107] : List Int).length 1) [107] := hn2
  have hv2 := hv1.mono hle2
  repeat' (first|refine tw_ ?_|(refine ta_ ?_;intro _)|(refine zk0 ?_ ?_<;>intro ht)|fail)
  refine rx_mark 0 rfl rfl rfl (by unfold maxLen; omega) rfl rfl rfl ybf ybf ?_
  refine rx_persist_s rfl fun h3 hle3 hval => ?_
  have hval : Bs8 h3 (.slice (some ⟨_, 0, none⟩) ([118, 97, 108, 117, 101] : List Int).length 5) [118, 97, 108, 117, 101] := hval
  have hn3 := hn2.mono hle3
  have hv3 := hv2.mono hle3
  repeat' (first|refine tw_ ?_|(refine ta_ ?_;intro _)|(refine zk0 ?_ ?_<;>intro ht)|fail)
  refine rx_call_l (ycp Tryz.func9 rfl (by kernel_rfl) rfl) (pick3 1 1 1 rfl rfl rfl) (ESeal_sp bv (key1 1) bn bu bt [] [] [] [107] [118, 97, 108, 117, 101] _ _ (.slice none 0 0) hd1 false hk rfl hnil (by simp) (by simp) (fun x hx => (by cases hx)) hb107 (by simp) hok1 (by simp) hbval (by simp) h3 hv3 hn3 hval (Sc.nil _ _ _ _)) rfl rfl rfl ybf (fun _ _ _ => ybf) ?_
  rintro ⟨h4, pv, sv, tv⟩ htv hle4
  dsimp only at htv hle4 ⊢
  have hek : (blindF (key1 1) [] [107]).length = 32 := drawF_len _ _ _ _ (by omega)
  have hpad : padW (inF false [118, 97, 108, 117, 101]) = num4 6 ++ [1, 118, 97, 108, 117, 101] ++ List.replicate 54 0 := rfl
  have hpl : (padW (inF false [118, 97, 108, 117, 101])).length = 64 := by rw [hpad]; simp [num4_len]
  have hsl : (sealF (key1 1) [] (padW (inF false [118, 97, 108, 117, 101]))).length = 80 := by
    unfold sealF
    rw [drawF_len _ _ _ _ (by omega), hpl]
  have hpb : Bytes (padW (inF false [118, 97, 108, 117, 101])) := padW_by (inF_by hbval)
  have hvf : valF (padW (inF false [118, 97, 108, 117, 101])) = ([118, 97, 108, 117, 101], false, 0) := valF_pad hbval (by simp)
  generalize hse : sealF (key1 1) [] (padW (inF false [118, 97, 108, 117, 101])) = se at hsl htv ⊢
  generalize padW (inF false [118, 97, 108, 117, 101]) = pd at hpl hpb hvf htv ⊢
  have hek2 : blindF (key1 1) [[107]] [107] = blindF (key1 1) [] [107] := rfl
  have hne : blindF (key1 1) [[107]] [108] ≠ blindF (key1 1) [] [107] := blindF_ne _ (by decide) (by decide) (by decide)
  have hadd : addN [] [107] = [[107]] := rfl
  rw [hadd]
  generalize blindF (key1 1) [] [107] = ek at hek hek2 hne ⊢
  refine rx_persist rfl fun h5 hle5 hpv => ?_
  refine rx_persist rfl fun h6 hle6 hsv => ?_
  have hpv : Bs8 h6 pv hd1.past := Sc.mono hpv hle6
  have hsv : Bs8 h6 sv se := hsv
  have hv6 := ((hv3.mono hle4).mono hle5).mono hle6
  have htv6 := (htv.mono hle5).mono hle6
  obtain ⟨_, adp, capp, rfl, hcapp, _⟩ := id hpv
  obtain ⟨_, ads, caps, rfl, hcaps, _⟩ := id hsv
  repeat' (first|refine zw223 ?_|(refine ta_ ?_;intro _)|(refine zk0 ?_ ?_<;>intro ht)|fail)
  have htok : TbOk h6 ([] ++ [((hd1.cl, hd1.ct, hd1.ep, bstr (boundF ek hd1), bstr se), tv, pd)]) := fun x hx => by rw [List.mem_singleton.1 hx]; exact htv6
  have htl : ∀ x ∈ (([] : Tab) ++ [((hd1.cl, hd1.ct, hd1.ep, bstr (boundF ek hd1), bstr se), tv, pd)]), x.2.2.length ≤ 900000 ∧ Bytes x.2.2 := fun x hx => by
    rw [List.mem_singleton.1 hx]
    exact ⟨by show pd.length ≤ _; omega, hpb⟩
  have hop1 : openF (key1 1) [[107]] ([] ++ [((hd1.cl, hd1.ct, hd1.ep, bstr (boundF ek hd1), bstr se), tv, pd)]) [107] ek hd1 se = ([118, 97, 108, 117, 101], false, 0) := by
    have hm : mget ([((hd1.cl, hd1.ct, hd1.ep, bstr (boundF ek hd1), bstr se), tv, pd)] : Tab) (hd1.cl, hd1.ct, hd1.ep, bstr (boundF ek hd1), bstr se) = some (tv, pd) := if_pos rfl
    unfold openF
    rw [if_pos hek2, List.nil_append, hm]
    exact hvf
  have hop2 : openF (key1 1) [[107]] ([] ++ [((hd1.cl, hd1.ct, hd1.ep, bstr (boundF ek hd1), bstr se), tv, pd)]) [108] ek hd1 se = ([], false, 6) := by
    unfold openF
    rw [if_neg hne]
  generalize ([] ++ [((hd1.cl, hd1.ct, hd1.ep, bstr (boundF ek hd1), bstr se), tv, pd)] : Tab) = T at htok htl hop1 hop2 ⊢
  have hN1 : Names [[107]] := fun x hx => by rw [List.mem_singleton.1 hx]; exact hb107
  refine rx_mark 0 rfl rfl rfl (by unfold maxLen; omega) rfl rfl rfl ybf ybf ?_
  refine rx_persist_s rfl fun h7 hle7 hn7 => ?_
  have hn7 : Bs8 h7 (.slice (some ⟨_, 0, none⟩) ([107] : List Int).length 1) [107] := hn7
  repeat' (first|refine zw224 ?_|(refine ta_ ?_;intro _)|(refine zk0 ?_ ?_<;>intro ht)|fail)
  have O1 := EOpen_sp bv (key1 1) bn bu bt [[107]] T [107] ek se _ _ _ hd1 hk rfl hek hN1 (by decide) htl hb107 (by decide) hok1 (by omega) h7 (htok.mono hle7) (hv6.mono hle7) hn7 (hpv.mono hle7) (hsv.mono hle7)
  rw [hop1] at O1
  refine rx_call_l (ycp Tryz.func12 rfl (by kernel_rfl) rfl) (pick2 1 2 rfl rfl) O1 rfl rfl rfl ybf (fun _ _ _ => ybf) ?_
  rintro ⟨h8, v1⟩ hv1r hle8
  dsimp only at hv1r hle8 ⊢
  obtain ⟨_, ad1, cap1, rfl, hcap1, _⟩ := id hv1r
  have hadd2 : addN [[107]] [107] = [[107]] := rfl
  rw [hadd2]
  repeat' (first|refine zw3 ?_|(refine ta_ ?_;intro _)|(refine zk0 ?_ ?_<;>intro ht)|fail)
  refine rx_mark 0 rfl rfl rfl (by unfold maxLen; omega) rfl rfl rfl ybf ybf ?_
  refine rx_persist_s rfl fun h9 hle9 hn9 => ?_
  have hn9 : Bs8 h9 (.slice (some ⟨_, 0, none⟩) ([108] : List Int).length 1) [108] := hn9
  have hle79 := hle8.trans hle9
  repeat' (first|refine zw225 ?_|(refine ta_ ?_;intro _)|(refine zk0 ?_ ?_<;>intro ht)|fail)
  have O2 := EOpen_sp bv (key1 1) bn bu bt [[107]] T [108] ek se _ _ _ hd1 hk rfl hek hN1 (by decide) htl hb108 (by decide) hok1 (by omega) h9 ((htok.mono hle7).mono hle79) ((hv6.mono hle7).mono hle79) hn9 ((hpv.mono hle7).mono hle79) ((hsv.mono hle7).mono hle79)
  rw [hop2] at O2
  refine rx_call_l (ycp Tryz.func12 rfl (by kernel_rfl) rfl) (pick2 0 0 rfl rfl) O2 rfl rfl rfl ybf (fun _ _ _ => ybf) ?_
  rintro ⟨h10, v2⟩ hv2r hle10
  dsimp only at hv2r hle10 ⊢
  obtain ⟨_, ad2, cap2, rfl, hcap2, _⟩ := id hv2r
  have hv1s := (hv1r.mono hle9).mono hle10
  have hstr : ((bstr [118, 97, 108, 117, 101]).toList == (⟨#[118, 97, 108, 117, 101]⟩ : ByteArray).toList) = true := by
    rw [← beq_toListBytes, ba_beq]
    exact decide_eq_true rfl
  repeat' (first|refine zw226 ?_|(refine ta_ ?_;intro _)|(refine zk0 ?_ ?_<;>intro ht)|fail)
  exact nx_ret1 rfl (rv_tmp rfl) (fun w' s' => ⟨h10, rfl, s'.nil⟩)
end Go.Proofs.YtgeepceieckooaaGreatDoor
end
