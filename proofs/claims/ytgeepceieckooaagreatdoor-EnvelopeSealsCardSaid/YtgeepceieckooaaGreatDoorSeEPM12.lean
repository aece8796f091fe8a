/-
  Part 12 of a proof: EvC EvB EvF DotQ DotR SbA SbC SbQ CiD CjA CjB VrD RdA.
  Conditions: each theorem states its own.
-/
import Derived.Laws.IdiomCopy
import Derived.Laws.IdiomStrings
import Derived.Test.YtgeepceieckooaaGreatDoorSeEPM11
set_option maxRecDepth 100000
set_option linter.unusedVariables false
set_option linter.unusedSimpArgs false
section
namespace Go.Ck
open Go
section
variable {P : Program} {n : Nat} {F : List (Nat × Value)} {h : View} {L : List Res} {dst : Option Nat} {ty : Nat} {pos : String} {af : Array Edge} {gd : Option (Nat × Bool)}
theorem qv_copy_zero {T T2 e by' : Nat} {x y : Operand} {z : Value} {d a : Option Addr} {dLen dCap sCap : Nat} [tu : TyU P T (.slice e)] [tb : TyB P e z 1 by'] (hx : ev F x = some (.slice d dLen dCap)) (hy : ev F y = some (.slice a 0 sCap)) :
    QV P n F h L ⟨dst, .call ⟨.builtin .copy, #[x, y], #[T, T2]⟩, ty, pos, af, gd⟩ (.int .i64 0) := .mk fun ac w f s => by
  obtain ⟨inf, hi, _, hsize, _⟩ := tb.ex
  have hs1 : (P.info? e).map (·.size) = some 1 := by rw [hi]; simp [hsize]
  have hrun := run_copy_none (P := P) w T T2 ty e d a dLen dCap 0 sCap tu.u hs1 (by simp)
  simp [execOp, resolve, invoke, builtin, f.ev hx, f.ev hy, hrun, goInt]
end
end Go.Ck
namespace Go.Proofs.YtgeepceieckooaaGreatDoor
open Go Go.Ck
set_option maxHeartbeats 4000000
instance ckuPi : TyU Tryz.prog 89 (.slice 88) := ⟨Tryz.underlying89⟩
def envL (kk hv : List Int) (pv sv : Value) : List Value := bcs kk ++ (hv.map (Value.int .i64) ++ [pv, sv])
def padK (k : List Int) : List Int := k ++ List.replicate (32 - k.length) 0
theorem padK_len {k : List Int} (h : k.length ≤ 32) : (padK k).length = 32 := by simp [padK]; omega
theorem padK_full {k : List Int} (h : k.length = 32) : padK k = k := by simp [padK, h]
theorem envL_len {kk hv : List Int} {pv sv : Value} (h1 : kk.length = 32) (h2 : hv.length = 4) : (envL kk hv pv sv).length = 38 := by simp [envL, bcs_len, h1, h2]
theorem envL_env {kk : List Int} {hv p : List Int} {pv sv : Value} (h2 : hv.length = 4) : envL kk hv pv sv = envc kk (hdOf hv p) pv sv := by
  obtain ⟨a, b, c, d, rfl⟩ := list4 hv h2
  simp [envL, envc, hdc, hdOf]
theorem fix32 (s : RS) (n : Nat) : (fixC s n).1.length = n ∨ (fixC s n).1 = [] := by
  unfold fixC
  split
  · exact .inr rfl
  · split
    · exact .inr rfl
    · exact .inl (by simp; omega)
theorem spl_pre {l m z : List Value} (hl : l.length = z.length) : spl (z ++ m) 0 l = l ++ m := by
  simp [spl, hl]
def padH (xs : List Int) : List Int := xs ++ List.replicate (4 - xs.length) 0
theorem padH_len {xs : List Int} (h : xs.length ≤ 4) : (padH xs).length = 4 := by simp [padH]; omega
theorem padH_full {xs : List Int} (h : xs.length = 4) : padH xs = xs := by simp [padH, h]
theorem padH_set {xs : List Int} {x : Int} {k : Nat} (hk : xs.length = k) (h : k < 4) : (padH xs).set k x = padH (xs ++ [x]) := by
  subst hk
  simp only [padH, List.length_append, List.length_singleton]
  have e : 4 - xs.length = (4 - (xs.length + 1)) + 1 := by omega
  rw [e, List.replicate_succ, List.set_append_right _ _ (Nat.le_refl _), Nat.sub_self, List.set_cons_zero]
  simp
theorem spl_app' {l m vs : List Value} {k j : Nat} (hk : l.length = k) : spl (l ++ m) (k + j) vs = l ++ spl m j vs := by
  subst hk
  simp only [spl, List.take_append, List.drop_append, Nat.add_sub_cancel_left, List.append_assoc]
  rw [List.take_of_length_le (by omega), List.drop_eq_nil_of_le (by omega), List.nil_append, Nat.add_assoc, Nat.add_sub_cancel_left]
theorem spl_envL {kk hv : List Int} {pv sv : Value} {k o : Nat} {x : Int} (h1 : kk.length = 32) (ho : o = 32 + k) (hk : k < hv.length) : spl (envL kk hv pv sv) o [.int .i64 x] = envL kk (hv.set k x) pv sv := by
  subst ho
  have hb : (bcs kk).length = 32 := by rw [bcs_len, h1]
  unfold envL
  rw [spl_app' hb]
  congr 1
  have e : (hv.set k x).map (Value.int .i64) = (hv.map (Value.int .i64)).set k (.int .i64 x) := by rw [List.map_set]
  rw [e]
  have hl : k < (hv.map (Value.int .i64)).length := by simpa using hk
  generalize hv.map (Value.int .i64) = m at hl ⊢
  simp only [spl, List.length_singleton]
  rw [List.take_append_of_le_length (by omega), List.drop_append_of_le_length (by omega), List.set_eq_take_append_cons_drop, if_pos hl]
  simp
theorem spl_pv {kk hv : List Int} {p0 s0 pv : Value} (h1 : kk.length = 32) (h2 : hv.length = 4) : spl (envL kk hv p0 s0) (0 + 32 + 4) [pv] = envL kk hv pv s0 := by
  have hb : (bcs kk).length = 32 := by rw [bcs_len, h1]
  obtain ⟨a, b, c, d, rfl⟩ := list4 hv h2
  unfold envL
  rw [Nat.zero_add, spl_app' hb]
  rfl
theorem spl_sv {kk hv : List Int} {p0 s0 sv : Value} (h1 : kk.length = 32) (h2 : hv.length = 4) : spl (envL kk hv p0 s0) (0 + 37) [sv] = envL kk hv p0 sv := by
  have hb : (bcs kk).length = 32 := by rw [bcs_len, h1]
  obtain ⟨a, b, c, d, rfl⟩ := list4 hv h2
  unfold envL
  rw [Nat.zero_add, show 37 = 32 + 5 from rfl, spl_app' hb]
  rfl
def ptrs (be : Nat) : List Value := [.pointer (some ⟨be, 32 + 0, none⟩), .pointer (some ⟨be, 32 + 1, none⟩), .pointer (some ⟨be, 32 + 2, none⟩), .pointer (some ⟨be, 32 + 3, none⟩)]
theorem ptrs_at {be k : Nat} (h : k < 4) : (ptrs be)[k]? = some (.pointer (some ⟨be, 32 + k, none⟩)) := by
  rcases (by omega : k = 0 ∨ k = 1 ∨ k = 2 ∨ k = 3) with rfl | rfl | rfl | rfl<;>rfl
theorem ERead_sp (sv : Value) (l : List Int) (hb : Bytes l) (hl : l.length ≤ 140737488355328) (h : View) (hs : Bs8 h sv l) (w : World) (s : St ⟨w, h, []⟩ h [] w) :
    Calls Tryz.prog 15 [sv].toArray w fun en w' => ∃ x : View × Value × Value, en = .returned (.tuple #[.agg (if rdOk l then (envc (rdK l).1 (rdQ l) x.2.1 x.2.2).toArray else zEnv), .int .i64 (if rdOk l then 0 else 2)]) ∧ St ⟨w, h, []⟩ x.1 [] w' ∧ (rdOk l → Bs8 x.1 x.2.1 (rdQ l).past ∧ Bs8 x.1 x.2.2 (rdZ l).1) := by
  obtain ⟨o1, o2, o3, o4⟩ := rd_oks hb (by omega)
  obtain ⟨_, ad, cap, rfl, hcap, _⟩ := id hs
  refine calls_enter Tryz.func15 rfl Tryz.ntmps15 rfl s ?_
  repeat' (first|refine tw_ ?_|(refine ta_ ?_;intro _)|(refine zk0 ?_ ?_<;>intro ht)|fail)
  (refine yco (ycp Tryz.func42 rfl (by kernel_rfl) rfl) (Of_sp _ l (by omega) h hs) rfl rfl rfl ?_ ?_ ?_; (· (exact to_)); (·exact zc148); intro x px hle)
  obtain ⟨h1, bi, v1⟩ := x
  dsimp only at px hle ⊢
  repeat' (first|refine tw_ ?_|(refine ta_ ?_;intro _)|(refine zk0 ?_ ?_<;>intro ht)|fail)
  rename_i b2 be
  have hle1 : Le h h1 := hle
  clear hle
  refine cx_perm (L' := [Res.blk be (.cells (envL (padK []) [0, 0, 0, 0] (.slice none 0 0) (.slice none 0 0)).toArray 41 (0, 0)), inR bi v1 0, Res.blk b2 (.cells zEnv 41 (0, 0))]) (.refl _) ?_
  refine cx_cut (X := View × Value) (fun y => [(2, .pointer (some ⟨b2, 0, none⟩)), (4, .pointer (some ⟨bi, 0, none⟩)), (5, .pointer (some ⟨be, 0, none⟩))]) (fun y => y.1) (fun y => [Res.blk be (.cells (envL (padK (rdK l).1) [0, 0, 0, 0] (.slice none 0 0) (.slice none 0 0)).toArray 41 (0, 0)), inR bi y.2 (rdK l).2.2, Res.blk b2 (.cells zEnv 41 (0, 0))]) (fun y => Le h1 y.1 ∧ Bs8 y.1 y.2 (rdK l).2.1) ?_ ?_
  · refine cx_region_draw [] rfl (by kernel_rfl) ?_
    repeat' (first|refine zw235 ?_|(refine ycf ?_;(first|(refine zg0 ?_ ?_<;>intro ht)|(refine tb_ ?_ ?_ ?_;(·exact zc81);(·exact zc159);intro _)))|fail)
    (refine rx_call_m (ycp Tryz.func43 rfl (by kernel_rfl) rfl) (perm_at (k := 1) rfl) (InFixed_sp bi v1 l 0 32 hb (by omega) (by omega) h1 px) rfl rfl rfl ?_ ?_ ?_;(·exact zc160);(·exact zc161);intro x px hle)
    obtain ⟨h2, vk, v2⟩ := x
    obtain ⟨pk, pv2⟩ := px
    dsimp only at pk pv2 hle ⊢
    rcases fix32 (l, 0) 32 with hk | hk
    · obtain ⟨_, adk, capk, rfl, hcapk, _⟩ := id pk
      obtain ⟨bk, ok, rfl⟩ := pk.ad (by omega) (by omega)
      have hbl := bcs_len (fixC (l, 0) 32).1
      have hspl : spl (envL (padK []) [0, 0, 0, 0] (.slice none 0 0) (.slice none 0 0)) (0 + 0) (bcs (fixC (l, 0) 32).1) = envL (padK (fixC (l, 0) 32).1) [0, 0, 0, 0] (.slice none 0 0) (.slice none 0 0) := by
        rw [padK_full hk]
        exact spl_pre (by rw [hbl, hk]; rfl)
      refine rx_copy (news := bcs (fixC (l, 0) 32).1) 1 rfl rfl rfl pk.cells (by rw [hbl, hk]; rfl) (by show 0 + 0 + _ ≤ (envL (padK []) _ _ _).toArray.size; rw [List.size_toArray, envL_len rfl rfl, hbl, hk]; omega) (bcs_one _) hspl rfl rfl rfl ?_ ?_ ?_
      · (first|exact ybf | (refine .inl ?_;(first|exact fun _ s => Hd.sub s (Le.refl _) (fun r hr => nomatch hr) | exact fun _ s => Hd.sub s hle (fun r hr => nomatch hr))) | exact to_)
      · exact .inr (by kernel_rfl)
      repeat' (first|refine zw235 ?_|(refine ycf ?_;(first|(refine zg0 ?_ ?_<;>intro ht)|(refine tb_ ?_ ?_ ?_;(·exact zc81);(·exact zc159);intro _)))|fail)
      refine nx_cut (h2, v2) ⟨hle, pv2⟩ ts_ (fun _ s => ?_)
      exact s.perm (List.Perm.swap _ _ _)
    · rw [hk] at pk
      obtain ⟨_, adk, capk, rfl, hcapk, _⟩ := id pk
      repeat' (first|refine zw236 ?_|(refine ycf ?_;(first|(refine zg0 ?_ ?_<;>intro ht)|(refine tb_ ?_ ?_ ?_;(·exact zc81);(·exact zc159);intro _)))|fail)
      refine nx_cut (h2, v2) ⟨hle, pv2⟩ ts_ (fun _ s => ?_)
      show St _ h2 [Res.blk be (.cells (envL (padK (fixC (l, 0) 32).1) _ _ _).toArray _ _), _, _] _
      rw [hk]
      exact s.perm (List.Perm.swap _ _ _)
  rintro ⟨h2, v2⟩ ⟨hle2, pv2⟩
  dsimp only at hle2 pv2 ⊢
  have hk32 : (padK (rdK l).1).length = 32 := padK_len (by rcases fix32 (l, 0) 32 with hk | hk; (· show (fixC (l, 0) 32).1.length ≤ 32; omega); (· show (fixC (l, 0) 32).1.length ≤ 32; rw [hk]; simp))
  have hkk : (rdK l).1.length = 32 → padK (rdK l).1 = (rdK l).1 := padK_full
  generalize padK (rdK l).1 = kk at hk32 hkk ⊢
  refine yby ?_
  repeat' (first|refine tw_ ?_|(refine ta_ ?_;intro _)|(refine zk0 ?_ ?_<;>intro ht)|fail)
  rename_i bp
  refine cx_loop (X := Nat × View × Value) (fun y => [(2, .pointer (some ⟨b2, 0, none⟩)), (4, .pointer (some ⟨bi, 0, none⟩)), (5, .pointer (some ⟨be, 0, none⟩)), (25, .slice (some ⟨bp, 0, none⟩) 4 4), (26, .int .i64 (4 : Nat)), (27, .int .i64 (y.1 : Nat))]) (fun y => y.2.1)
    (fun y => [Res.blk bp (.cells (ptrs be).toArray 88 (0, 0)), Res.blk be (.cells (envL kk (padH (rdN (rdK l).2 y.1).1) (.slice none 0 0) (.slice none 0 0)).toArray 41 (0, 0)), inR bi y.2.2 (rdN (rdK l).2 y.1).2.2, Res.blk b2 (.cells zEnv 41 (0, 0))])
    (fun y => y.1 ≤ 4 ∧ Le h2 y.2.1 ∧ Bs8 y.2.1 y.2.2 (rdN (rdK l).2 y.1).2.1) (fun y => 4 - y.1) (0, h2, v2) ⟨by omega, Le.refl _, pv2⟩ ts_ (fun _ s => s) ?_
  rintro ⟨k, h3, v3⟩ ⟨hk, hle3, pv3⟩
  dsimp only at hk hle3 pv3 ⊢
  by_cases hk4 : k < 4
  · obtain ⟨r1, r2⟩ := rdN_ok o1 k
    have hps : ∀ L' : List Res, L'[0]? = some (Res.blk bp (.cells (ptrs be).toArray 88 (0, 0))) → CellAt h3 L' bp (0 + (k : Int).toNat * 1) (.pointer (some ⟨be, 32 + k, none⟩)) := fun L' hL => by
      have := (yaz (h := h3) 0 hL).cell (ptrs_at (be := be) hk4)
      have e : 0 + (k : Int).toNat * 1 = 0 + k := by omega
      rw [e]; exact this
    repeat' (first|refine zw237 ?_|(refine ta_ ?_;intro _)|(refine zk0 ?_ ?_<;>intro ht)|fail)
    (refine rx_call_m (ycp Tryz.func44 rfl (by kernel_rfl) rfl) (perm_at (k := 2) rfl) (InNum_sp bi v3 (rdN (rdK l).2 k).2.1 (rdN (rdK l).2 k).2.2 4611686018427387904 r1.b (by omega) r1.l h3 pv3) rfl rfl rfl ?_ ?_ ?_;(·exact zc160);(·exact zc161);intro x px hle)
    repeat' (first|refine zw238 ?_|(refine ta_ ?_;intro _)|(refine zk0 ?_ ?_<;>intro ht)|fail)
    repeat' (first|refine zw3 ?_|(refine ta_ ?_;intro _)|(refine zk0 ?_ ?_<;>intro ht)|fail)
    refine nx_round (k + 1, h3, x) ⟨by show k + 1 ≤ 4; omega, hle3, px⟩ (by show 4 - (k + 1) < 4 - k; omega) ts_ (fun _ s => ?_)
    have s2 := s.picks [1, 1, 0, 0]
    have e : padH (rdN (rdK l).2 (k + 1)).1 = (padH (rdN (rdK l).2 k).1).set k (numC (rdN (rdK l).2 k).2 8 4611686018427387904).1 := (padH_set r2 hk4).symm
    dsimp only
    rw [e]
    exact s2
  · have ek : k = 4 := by omega
    subst ek
    obtain ⟨r1, r2⟩ := rdN_ok o1 4
    rw [padH_full r2]
    change (rdH l).1.length = 4 at r2
    change Bs8 h3 v3 (rdH l).2.1 at pv3
    show CX _ _ _ _ _ _ [_, Res.blk be (.cells (envL kk (rdH l).1 _ _).toArray _ _), inR bi v3 (rdH l).2.2, _] _
    repeat' (first|refine zw3 ?_|(refine ta_ ?_;intro _)|(refine zk0 ?_ ?_<;>intro ht)|fail)
    (refine rx_call_m (ycp Tryz.func45 rfl (by kernel_rfl) rfl) (perm_at (k := 2) rfl) (InBytes_sp bi v3 (rdH l).2.1 (rdH l).2.2 4096 o2.b (by omega) o2.l h3 pv3) rfl rfl rfl ?_ ?_ ?_;(·exact zc160);(·exact zc161);intro x px hle)
    obtain ⟨h4, pv, v4⟩ := x
    obtain ⟨pp, pv4⟩ := px
    have hle4 : Le h3 h4 := hle
    clear hle
    dsimp only at pp pv4 ⊢
    obtain ⟨_, adp, capp, rfl, hcapp, _⟩ := id pp
    repeat' (first|refine zw239 ?_|(refine ta_ ?_;intro _)|(refine zk0 ?_ ?_<;>intro ht)|fail)
    (refine rx_call_m (ycp Tryz.func45 rfl (by kernel_rfl) rfl) (perm_at (k := 0) rfl) (InBytes_sp bi v4 (rdP l).2.1 (rdP l).2.2 8192 o3.b (by omega) o3.l h4 pv4) rfl rfl rfl ?_ ?_ ?_;(·exact zc160);(·exact zc161);intro x px hle)
    obtain ⟨h5, sv, v5⟩ := x
    obtain ⟨ps, pv5⟩ := px
    have hle5 : Le h4 h5 := hle
    clear hle
    dsimp only at ps pv5 ⊢
    obtain ⟨_, ads, caps, rfl, hcaps, _⟩ := id ps
    repeat' (first|refine zw240 ?_|(refine ta_ ?_;intro _)|(refine zk0 ?_ ?_<;>intro ht)|fail)
    (refine rx_call_m (ycp Tryz.func46 rfl (by kernel_rfl) rfl) (perm_at (k := 0) rfl) (End_sp bi v5 (rdZ l).2.1 (rdZ l).2.2 h5 pv5) rfl rfl rfl ?_ ?_ ?_;(·exact zc160);(·exact zc161);intro x px hle)
    change Bs8 h4 (.slice adp (rdP l).1.length capp) (rdP l).1 at pp
    change Bs8 h5 (.slice ads (rdZ l).1.length caps) (rdZ l).1 at ps
    have pp5 := pp.mono hle5
    have hq : (rdQ l).past = (rdP l).1 := rfl
    have R1 := eright_sp kk (rdQ l) (.slice adp (rdP l).1.length capp) (.slice ads (rdZ l).1.length caps) (rdZ l).1 hk32 h5 pp5 ps
    have hee : envL kk (rdH l).1 (.slice adp (rdP l).1.length capp) (.slice ads (rdZ l).1.length caps) = envc kk (rdQ l) (.slice adp (rdP l).1.length capp) (.slice ads (rdZ l).1.length caps) := envL_env r2
    refine rx_perm (L' := [inR bi v5 (rdZ l).2.2, Res.blk bp (.cells (ptrs be).toArray 88 (0, 0)), Res.blk be (.cells (envL kk (rdH l).1 (.slice adp (rdP l).1.length capp) (.slice ads (rdZ l).1.length caps)).toArray 41 (0, 0)), Res.blk b2 (.cells zEnv 41 (0, 0))]) (.refl _) ?_
    rw [hee]
    have hen : endC ((rdZ l).2.1, (rdZ l).2.2) = endC (rdZ l).2 := rfl
    rw [hen]
    by_cases hE : endC (rdZ l).2 = 0
    · rw [hE]
      repeat' (first|refine zw241 ?_|(refine ta_ ?_;intro _)|(refine zk0 ?_ ?_<;>intro ht)|fail)
      (refine ycn (ycp Tryz.func36 rfl (by kernel_rfl) rfl) (R1) rfl rfl rfl ?_ ?_;(·exact zc160))
      by_cases hR : (rdQ l).ok ∧ 16 ≤ (rdZ l).1.length ∧ (rdZ l).1.length ≤ 8192
      · have hok : rdOk l := ⟨hE, hR⟩
        have hK := hkk (rdOk_key hb (by omega) hok)
        rw [decide_eq_true hR, if_pos hok, ← hK]
        repeat' (first|refine zw242 ?_|(refine ta_ ?_;intro _)|(refine zk0 ?_ ?_<;>intro ht)|fail)
        refine nx_ret2 rfl (rv_cells rfl (yaz 3 rfl) (envc_len hk32)) (rv_tmp rfl) (fun w' s' => ⟨(h5, .slice adp (rdP l).1.length capp, .slice ads (rdZ l).1.length caps), ?_, s'.nil, fun _ => ⟨pp5, ps⟩⟩)
        rw [if_pos hok]
        rfl
      · have hok : ¬ rdOk l := fun q => hR q.2
        rw [decide_eq_false hR, if_neg hok]
        repeat' (first|refine zw243 ?_|(refine ta_ ?_;intro _)|(refine zk0 ?_ ?_<;>intro ht)|fail)
        exact nx_ret2 rfl (rv_cells rfl (yaz 3 rfl) rfl) (rv_tmp rfl) (fun w' s' => ⟨(h5, .slice none 0 0, .slice none 0 0), by rw [if_neg hok]; rfl, s'.nil, fun q => absurd q hok⟩)
    · have hok : ¬ rdOk l := fun q => hE q.1
      rw [if_neg hok]
      repeat' (first|refine zw244 ?_|(refine ta_ ?_;intro _)|(refine zk0 ?_ ?_<;>intro ht)|fail)
      exact nx_ret2 rfl (rv_cells rfl (yaz 3 rfl) rfl) (rv_tmp rfl) (fun w' s' => ⟨(h5, .slice none 0 0, .slice none 0 0), by rw [if_neg hok]; rfl, s'.nil, fun q => absurd q hok⟩)
end Go.Proofs.YtgeepceieckooaaGreatDoor
end

section
namespace Go.Proofs.YtgeepceieckooaaGreatDoor
open Go Go.Ck
set_option maxHeartbeats 4000000
theorem r11Epoch_sp (n : Int) (h : View) (w : World) (s : St ⟨w, h, []⟩ h [] w) :
    Calls Tryz.prog 64 [.int .i64 n].toArray w fun e w' => e = .returned (.bool (decide (1 ≤ n ∧ n ≤ 1048576))) ∧ St ⟨w, h, []⟩ h [] w' := by
  refine calls_enter Tryz.func64 rfl Tryz.ntmps64 rfl s ?_
  by_cases h1 : 1 ≤ n ∧ n ≤ 1048576
  · rw [decide_eq_true h1]
    repeat' (first|refine zw3 ?_|(refine ta_ ?_;intro _)|(refine zk0 ?_ ?_<;>intro ht)|fail)
    exact nx_ret1 rfl (rv_tmp rfl) (fun w' s' => ⟨rfl, s'⟩)
  · rw [decide_eq_false h1]
    by_cases h2 : 1 ≤ n
    · repeat' (first|refine zw3 ?_|(refine ta_ ?_;intro _)|(refine zk0 ?_ ?_<;>intro ht)|fail)
      exact nx_ret1 rfl (rv_tmp rfl) (fun w' s' => ⟨rfl, s'⟩)
    · repeat' (first|refine zw3 ?_|(refine ta_ ?_;intro _)|(refine zk0 ?_ ?_<;>intro ht)|fail)
      exact nx_ret1 rfl (rv_tmp rfl) (fun w' s' => ⟨rfl, s'⟩)
theorem r11Counter_sp (n : Int) (h : View) (w : World) (s : St ⟨w, h, []⟩ h [] w) :
    Calls Tryz.prog 65 [.int .i64 n].toArray w fun e w' => e = .returned (.bool (decide (1 ≤ n ∧ n ≤ 4611686018427387904))) ∧ St ⟨w, h, []⟩ h [] w' := by
  refine calls_enter Tryz.func65 rfl Tryz.ntmps65 rfl s ?_
  by_cases h1 : 1 ≤ n ∧ n ≤ 4611686018427387904
  · rw [decide_eq_true h1]
    repeat' (first|refine zw3 ?_|(refine ta_ ?_;intro _)|(refine zk0 ?_ ?_<;>intro ht)|fail)
    exact nx_ret1 rfl (rv_tmp rfl) (fun w' s' => ⟨rfl, s'⟩)
  · rw [decide_eq_false h1]
    by_cases h2 : 1 ≤ n
    · repeat' (first|refine zw3 ?_|(refine ta_ ?_;intro _)|(refine zk0 ?_ ?_<;>intro ht)|fail)
      exact nx_ret1 rfl (rv_tmp rfl) (fun w' s' => ⟨rfl, s'⟩)
    · repeat' (first|refine zw3 ?_|(refine ta_ ?_;intro _)|(refine zk0 ?_ ?_<;>intro ht)|fail)
      exact nx_ret1 rfl (rv_tmp rfl) (fun w' s' => ⟨rfl, s'⟩)
theorem r11Client_sp (n : Int) (h : View) (w : World) (s : St ⟨w, h, []⟩ h [] w) :
    Calls Tryz.prog 66 [.int .i64 n].toArray w fun e w' => e = .returned (.bool (decide (1 ≤ n ∧ n ≤ 16))) ∧ St ⟨w, h, []⟩ h [] w' := by
  refine calls_enter Tryz.func66 rfl Tryz.ntmps66 rfl s ?_
  by_cases h1 : 1 ≤ n ∧ n ≤ 16
  · rw [decide_eq_true h1]
    repeat' (first|refine zw3 ?_|(refine ta_ ?_;intro _)|(refine zk0 ?_ ?_<;>intro ht)|fail)
    exact nx_ret1 rfl (rv_tmp rfl) (fun w' s' => ⟨rfl, s'⟩)
  · rw [decide_eq_false h1]
    by_cases h2 : 1 ≤ n
    · repeat' (first|refine zw3 ?_|(refine ta_ ?_;intro _)|(refine zk0 ?_ ?_<;>intro ht)|fail)
      exact nx_ret1 rfl (rv_tmp rfl) (fun w' s' => ⟨rfl, s'⟩)
    · repeat' (first|refine zw3 ?_|(refine ta_ ?_;intro _)|(refine zk0 ?_ ?_<;>intro ht)|fail)
      exact nx_ret1 rfl (rv_tmp rfl) (fun w' s' => ⟨rfl, s'⟩)
def renv (ek : List Int) (q : Hdr) (se : List Int) : List Value := [.string (bstr ek), .int .i64 q.ep, .int .i64 q.ct, .int .i64 q.cl, .int .i64 q.nu, .string (bstr q.past), .string (bstr se)]
theorem rhead_sp (ek : List Int) (q : Hdr) (se : List Int) (h : View) (w : World) (s : St ⟨w, h, []⟩ h [] w) :
    Calls Tryz.prog 31 [.agg (renv ek q se).toArray].toArray w fun e w' => e = .returned (.bool (decide q.ok)) ∧ St ⟨w, h, []⟩ h [] w' := by
  refine calls_enter Tryz.func31 rfl Tryz.ntmps31 rfl s ?_
  have W1 := r11Epoch_sp q.ep h
  have W2 := r11Counter_sp q.ct h
  have W3 := r11Client_sp q.cl h
  by_cases h1 : 1 ≤ q.ep ∧ q.ep ≤ 1048576
  · rw [decide_eq_true h1] at W1
    repeat' (first|refine zw3 ?_|(refine ta_ ?_;intro _)|(refine zk0 ?_ ?_<;>intro ht)|fail)
    (refine ycn (ycp Tryz.func64 rfl (by kernel_rfl) rfl) (W1) rfl rfl rfl ?_ ?_; (· (exact to_)))
    by_cases h2 : 1 ≤ q.ct ∧ q.ct ≤ 4611686018427387904
    · rw [decide_eq_true h2] at W2
      repeat' (first|refine zw3 ?_|(refine ta_ ?_;intro _)|(refine zk0 ?_ ?_<;>intro ht)|fail)
      (refine ycn (ycp Tryz.func65 rfl (by kernel_rfl) rfl) (W2) rfl rfl rfl ?_ ?_; (· (exact to_)))
      by_cases h3 : 1 ≤ q.cl ∧ q.cl ≤ 16
      · rw [decide_eq_true h3] at W3
        repeat' (first|refine zw3 ?_|(refine ta_ ?_;intro _)|(refine zk0 ?_ ?_<;>intro ht)|fail)
        (refine ycn (ycp Tryz.func66 rfl (by kernel_rfl) rfl) (W3) rfl rfl rfl ?_ ?_; (· (exact to_)))
        by_cases h4 : 1 ≤ q.nu
        · by_cases h5 : q.nu ≤ 1099511627776
          · have e : decide q.ok = decide ((q.past.length : Int) ≤ 4096) := by
              rw [decide_eq_decide]
              unfold Hdr.ok
              constructor
              · rintro ⟨_, _, _, _, h6⟩; omega
              · intro h6; exact ⟨h1, h2, h3, ⟨h4, h5⟩, by omega⟩
            rw [e]
            repeat' (first|refine zw245 ?_|(refine ta_ ?_;intro _)|(refine zk0 ?_ ?_<;>intro ht)|fail)
            exact nx_ret1 rfl (rv_tmp rfl) (fun w' s' => ⟨rfl, s'.nil⟩)
          · rw [decide_eq_false (fun q : Hdr.ok _ => h5 q.2.2.2.1.2)]
            repeat' (first|refine zw164 ?_|(refine ta_ ?_;intro _)|(refine zk0 ?_ ?_<;>intro ht)|fail)
            exact nx_ret1 rfl (rv_tmp rfl) (fun w' s' => ⟨rfl, s'.nil⟩)
        · rw [decide_eq_false (fun q : Hdr.ok _ => h4 q.2.2.2.1.1)]
          repeat' (first|refine zw164 ?_|(refine ta_ ?_;intro _)|(refine zk0 ?_ ?_<;>intro ht)|fail)
          exact nx_ret1 rfl (rv_tmp rfl) (fun w' s' => ⟨rfl, s'.nil⟩)
      · rw [decide_eq_false h3] at W3
        rw [decide_eq_false (fun q : Hdr.ok _ => h3 q.2.2.1)]
        repeat' (first|refine zw164 ?_|(refine ta_ ?_;intro _)|(refine zk0 ?_ ?_<;>intro ht)|fail)
        (refine ycn (ycp Tryz.func66 rfl (by kernel_rfl) rfl) (W3) rfl rfl rfl ?_ ?_; (· (exact to_)))
        repeat' (first|refine zw164 ?_|(refine ta_ ?_;intro _)|(refine zk0 ?_ ?_<;>intro ht)|fail)
        exact nx_ret1 rfl (rv_tmp rfl) (fun w' s' => ⟨rfl, s'.nil⟩)
    · rw [decide_eq_false h2] at W2
      rw [decide_eq_false (fun q : Hdr.ok _ => h2 q.2.1)]
      repeat' (first|refine zw164 ?_|(refine ta_ ?_;intro _)|(refine zk0 ?_ ?_<;>intro ht)|fail)
      (refine ycn (ycp Tryz.func65 rfl (by kernel_rfl) rfl) (W2) rfl rfl rfl ?_ ?_; (· (exact to_)))
      repeat' (first|refine zw164 ?_|(refine ta_ ?_;intro _)|(refine zk0 ?_ ?_<;>intro ht)|fail)
      exact nx_ret1 rfl (rv_tmp rfl) (fun w' s' => ⟨rfl, s'.nil⟩)
  · rw [decide_eq_false h1] at W1
    rw [decide_eq_false (fun q : Hdr.ok _ => h1 q.1)]
    repeat' (first|refine zw164 ?_|(refine ta_ ?_;intro _)|(refine zk0 ?_ ?_<;>intro ht)|fail)
    (refine ycn (ycp Tryz.func64 rfl (by kernel_rfl) rfl) (W1) rfl rfl rfl ?_ ?_; (· (exact to_)))
    repeat' (first|refine zw164 ?_|(refine ta_ ?_;intro _)|(refine zk0 ?_ ?_<;>intro ht)|fail)
    exact nx_ret1 rfl (rv_tmp rfl) (fun w' s' => ⟨rfl, s'.nil⟩)
end Go.Proofs.YtgeepceieckooaaGreatDoor
end

section
namespace Go.Proofs.YtgeepceieckooaaGreatDoor
open Go Go.Ck
set_option maxHeartbeats 4000000
theorem qv_str_len {P : Program} {n : Nat} {F : List (Nat × Value)} {h : View} {L : List Res} {dst : Option Nat} {ty : Nat} {pos : String} {af : Array Edge} {gd : Option (Nat × Bool)} {S D e m : Nat} {x : Operand} {ad : Addr} {cap : Nat} {l : List Int} [tS : TyU P S (.slice e)] [te : TyU P e (.int .u8)] [tD : TyU P D .string] (hl : l.length = m) (hx : ev F x = some (.slice (some ad) m cap)) (hc : Cells h L ad (bcs l)) :
    QV P n F h L ⟨dst, .convert S D x, ty, pos, af, gd⟩ (.string (bstr l)) := by
  subst hl
  exact qv_str_of hx hc
theorem EWrite_sp (ek : List Int) (q : Hdr) (pv sv : Value) (se : List Int) (hk32 : ek.length = 32) (hok : q.ok) (hsl : 16 ≤ se.length ∧ se.length ≤ 8192) (h : View) (hp : Bs8 h pv q.past) (hs : Bs8 h sv se) (w : World) (s : St ⟨w, h, []⟩ h [] w) :
    Calls Tryz.prog 17 [.agg (envc ek q pv sv).toArray].toArray w fun en w' => ∃ v, en = .returned (.tuple #[v, .int .i64 0]) ∧ St ⟨w, h, []⟩ h [rowB v (encE ek q se)] w' ∧ True := by
  obtain ⟨_, adp, capp, rfl, hcapp, _⟩ := id hp
  obtain ⟨_, ads, caps, rfl, hcaps, _⟩ := id hs
  have R1 := eright_sp ek q _ _ se hk32 h hp hs
  rw [decide_eq_true (⟨hok, hsl⟩ : q.ok ∧ 16 ≤ se.length ∧ se.length ≤ 8192)] at R1
  have hbl := boundF_len (q := q) hk32
  have hpl := hok.2.2.2.2
  refine calls_enter Tryz.func17 rfl Tryz.ntmps17 rfl s ?_
  repeat' (first|refine zw246 ?_|(refine ta_ ?_;intro _)|(refine zk0 ?_ ?_<;>intro ht)|fail)
  (refine ycn (ycp Tryz.func36 rfl (by kernel_rfl) rfl) (R1) rfl rfl rfl ?_ ?_; (· (exact to_)))
  repeat' (first|refine zw246 ?_|(refine ta_ ?_;intro _)|(refine zk0 ?_ ?_<;>intro ht)|fail)
  refine cx_region_draw' rfl (by kernel_rfl) ?_
  repeat' (first|refine zw247 ?_|(refine ycf ?_;(first|(refine zg0 ?_ ?_<;>intro ht)|(refine tb_ ?_ ?_ ?_;(·(exact to_));(·intro _;(exact to_));intro _)))|fail)
  (refine yco (ycp Tryz.func27 rfl (by kernel_rfl) rfl) (bound_sp ek q _ _ hk32 hok rfl h hp) rfl rfl rfl ?_ ?_ ?_; (· (exact to_)); (·exact zc148); intro x px hle)
  obtain ⟨bo, vo⟩ := x
  clear px hle
  dsimp only
  repeat' (first|refine zw248 ?_|(refine ycf ?_;(first|(refine zg0 ?_ ?_<;>intro ht)|(refine tb_ ?_ ?_ ?_;(·(exact to_));(·intro _;(exact to_));intro _)))|fail)
  (refine rx_call_2 (ycp Tryz.func51 rfl (by kernel_rfl) rfl) (OutBytes_sp bo vo _ false _ se (by rw [hbl]; omega) h hs) rfl rfl rfl ?_ ?_ ?_; (· (exact to_)); (·exact zc148); intro x px hle)
  repeat' (first|refine zw248 ?_|(refine ycf ?_;(first|(refine zg0 ?_ ?_<;>intro ht)|(refine tb_ ?_ ?_ ?_;(·(exact to_));(·intro _;(exact to_));intro _)))|fail)
  (refine rx_call_2 (ycp Tryz.func28 rfl (by kernel_rfl) rfl) (Done_sp bo x _ (by simp only [List.length_append, hbl, num4_len]; omega) h) rfl rfl rfl ?_ ?_ ?_; (· (exact to_)); (·exact zc148); intro x px hle)
  repeat' (first|refine zw248 ?_|(refine ycf ?_;(first|(refine zg0 ?_ ?_<;>intro ht)|(refine tb_ ?_ ?_ ?_;(·(exact to_));(·intro _;(exact to_));intro _)))|fail)
  repeat' (first|refine tw_ ?_|(refine ta_ ?_;intro _)|(refine zk0 ?_ ?_<;>intro ht)|fail)
  refine nx_ret2 rfl (rv_tmp rfl) (rv_tmp rfl) (fun w' s' => ⟨_, rfl, ?_, trivial⟩)
  exact s'.picks [0]
theorem efrom_sp (ek : List Int) (q : Hdr) (pv sv : Value) (se : List Int) (hk32 : ek.length = 32) (h : View) (hp : Bs8 h pv q.past) (hs : Bs8 h sv se) (w : World) (s : St ⟨w, h, []⟩ h [] w) :
    Calls Tryz.prog 18 [.agg (envc ek q pv sv).toArray].toArray w fun en w' => en = .returned (.agg (renv ek q se).toArray) ∧ St ⟨w, h, []⟩ h [] w' := by
  obtain ⟨_, adp, capp, rfl, hcapp, _⟩ := id hp
  obtain ⟨_, ads, caps, rfl, hcaps, _⟩ := id hs
  refine calls_enter Tryz.func18 rfl Tryz.ntmps18 rfl s ?_
  repeat' (first|refine zw249 ?_|(refine ta_ ?_;intro _)|(refine zk0 ?_ ?_<;>intro ht)|fail)
  refine cx_region_drawY [20] rfl (by kernel_rfl) ?_
  repeat' (first|refine zw250 ?_|(refine ycf ?_;(first|(refine zg0 ?_ ?_<;>intro ht)|(refine tb_ ?_ ?_ ?_;(·(exact to_));(·intro _;(exact to_));intro _)))|fail)
  repeat' (first|refine zw251 ?_|(refine ta_ ?_;intro _)|(refine zk0 ?_ ?_<;>intro ht)|fail)
  exact nx_ret1 rfl (rv_cells rfl (yaz 0 rfl) rfl) (fun w' s' => ⟨rfl, s'.nil⟩)
instance tykDot : TyK Tryz.prog 24 [(3, 0), (3, 1)] := ⟨by kernel_rfl, by kernel_rfl, by kernel_rfl, by kernel_rfl⟩
instance tykEnv : TyK Tryz.prog 28 [(9, 0), (3, 1), (3, 2), (24, 3), (9, 5), (9, 6)] := ⟨by kernel_rfl, by kernel_rfl, by kernel_rfl, by kernel_rfl⟩
theorem dotk_parts (a b : Int) : Parts Tryz.prog #[.int .i64 a, .int .i64 b] [(3, 0), (3, 1)] [.int .i64 a, .int .i64 b] := .cons (part1 rfl) (.cons (part1 rfl) .nil)
theorem renv_parts (ek : List Int) (q : Hdr) (se : List Int) : Parts Tryz.prog (renv ek q se).toArray [(9, 0), (3, 1), (3, 2), (24, 3), (9, 5), (9, 6)]
    [.string (bstr ek), .int .i64 q.ep, .int .i64 q.ct, .agg #[.int .i64 q.cl, .int .i64 q.nu], .string (bstr q.past), .string (bstr se)] :=
  .cons (part1 rfl) (.cons (part1 rfl) (.cons (part1 rfl) (.cons (partA (k := 2) rfl) (.cons (part1 rfl) (.cons (part1 rfl) .nil)))))
theorem dotk_refl (d : Nat) (a b : Int) (w : World) : (Op.equalIn (d + 2) 24 (.agg #[.int .i64 a, .int .i64 b]) (.agg #[.int .i64 a, .int .i64 b])).run Tryz.prog w = .ok true w := by
  have := struct_eq (P := Tryz.prog) (T := 24) (d := d + 1) w (bs := [a == a, b == b]) rfl (dotk_parts a b) (dotk_parts a b) (by
    intro i t u v r h1 h2 h3 h4 w
    match i, h1, h2, h3, h4 with
    | 0, h1, h2, h3, h4 => cases h1; cases h2; cases h3; cases h4; exact run_equalIn_int w d _ _ _ _ _ (TyU.u (d := .int .i64))
    | 1, h1, h2, h3, h4 => cases h1; cases h2; cases h3; cases h4; exact run_equalIn_int w d _ _ _ _ _ (TyU.u (d := .int .i64)))
  rw [this]
  simp
theorem renv_refl (ek : List Int) (q : Hdr) (se : List Int) (w : World) : (Op.equal 28 (.agg (renv ek q se).toArray) (.agg (renv ek q se).toArray)).run Tryz.prog w = .ok true w := by
  have := struct_eq (P := Tryz.prog) (T := 28) (d := 9999) w (bs := [(bstr ek).toList == (bstr ek).toList, q.ep == q.ep, q.ct == q.ct, true, (bstr q.past).toList == (bstr q.past).toList, (bstr se).toList == (bstr se).toList]) rfl (renv_parts ek q se) (renv_parts ek q se) (by
    intro i t u v r h1 h2 h3 h4 w
    match i, h1, h2, h3, h4 with
    | 0, h1, h2, h3, h4 => cases h1; cases h2; cases h3; cases h4; exact run_equalIn_string w 9998 _ _ _ (TyU.u (d := .string))
    | 1, h1, h2, h3, h4 => cases h1; cases h2; cases h3; cases h4; exact run_equalIn_int w 9998 _ _ _ _ _ (TyU.u (d := .int .i64))
    | 2, h1, h2, h3, h4 => cases h1; cases h2; cases h3; cases h4; exact run_equalIn_int w 9998 _ _ _ _ _ (TyU.u (d := .int .i64))
    | 3, h1, h2, h3, h4 => cases h1; cases h2; cases h3; cases h4; exact dotk_refl 9997 _ _ w
    | 4, h1, h2, h3, h4 => cases h1; cases h2; cases h3; cases h4; exact run_equalIn_string w 9998 _ _ _ (TyU.u (d := .string))
    | 5, h1, h2, h3, h4 => cases h1; cases h2; cases h3; cases h4; exact run_equalIn_string w 9998 _ _ _ (TyU.u (d := .string)))
  unfold Op.equal Op.maxDepth
  rw [this]
  simp
end Go.Proofs.YtgeepceieckooaaGreatDoor
end

section
namespace Go.Proofs.YtgeepceieckooaaGreatDoor
open Go Go.Ck
set_option maxHeartbeats 1000000
structure Inv (u : List Int) (out : List Dt) : Prop where
  len : u.length = 16
  bd : ∀ x ∈ u, 0 ≤ x ∧ x ≤ 1099511627776
  mor : ∀ e ∈ out, rightB e = true ∧ uD u e + 1 < e.2
  srt : out.Pairwise fun x y => ordD x y < 0
end Go.Proofs.YtgeepceieckooaaGreatDoor
end

section
namespace Go.Proofs.YtgeepceieckooaaGreatDoor
open Go Go.Ck
set_option maxHeartbeats 1000000
structure GSt where
  k : Nat
  h : View
  ua : List Int
  la : List Dt
  va : Value
  ub : List Int
  lb : List Dt
  vb : Value
structure GOk (h0 : View) (L : List Dt) (g : GSt) : Prop where
  kl : g.k ≤ L.length
  le : Le h0 g.h
  ca : Inv g.ua g.la
  cb : Inv g.ub g.lb
  na : g.la.length ≤ g.k
  nb : g.lb.length ≤ g.k
  da : Ds g.h g.va g.la
  db : Ds g.h g.vb g.lb
  sa : ∀ x, rightB x = true → hasC g.ua g.la x = decide (x ∈ L.take g.k)
  sb : ∀ x, rightB x = true → hasC g.ub g.lb x = decide (x ∈ L.reverse.take g.k)
end Go.Proofs.YtgeepceieckooaaGreatDoor
end

section
namespace Go.Proofs.YtgeepceieckooaaGreatDoor
open Go Go.Ck
set_option maxHeartbeats 2000000
structure Sb where
  d : Dt
  u : List Int
  hu : u.length = 16
  l : List Dt
  mv : Value
  b : List Int
  bv : Value
structure Sv (h : View) (s : Sb) : Prop where
  ds : Ds h s.mv s.l
  bs : Bs8 h s.bv s.b
  by8 : Bytes s.b
abbrev Ab := Dt × List Int × List Dt × List Int
def Sb.a (s : Sb) : Ab := (s.d, s.u, s.l, s.b)
section
variable {h : View} {L : List Res} {b o : Nat} {s : Sb}
end
end Go.Proofs.YtgeepceieckooaaGreatDoor
end

section
namespace Go.Proofs.YtgeepceieckooaaGreatDoor
open Go Go.Ck
set_option maxHeartbeats 2000000
section
variable {h : View} {L : List Res}
end
def KF (l m : List Sb) : Prop := ∀ d : Dt, l.filter (fun x => decide (x.d = d)) = m.filter (fun x => decide (x.d = d))
theorem KF.symm {l m : List Sb} (h : KF l m) : KF m l := fun d => (h d).symm
theorem KF.trans {l m n : List Sb} (h : KF l m) (k : KF m n) : KF l n := fun d => (h d).trans (k d)
theorem KF.perm {l m : List Sb} (h : KF l m) : l.Perm m := by
  classical
  refine List.perm_iff_count.2 fun x => ?_
  have h1 := h x.d
  have e1 := List.count_filter (p := fun y : Sb => decide (y.d = x.d)) (a := x) (l := l) (by simp)
  have e2 := List.count_filter (p := fun y : Sb => decide (y.d = x.d)) (a := x) (l := m) (by simp)
  rw [← e1, ← e2, h1]
theorem KF.len {l m : List Sb} (h : KF l m) : l.length = m.length := h.perm.length_eq
end Go.Proofs.YtgeepceieckooaaGreatDoor
end

section
namespace Go.Proofs.YtgeepceieckooaaGreatDoor
open Go Go.Ck
set_option maxHeartbeats 4000000
section
variable {P : Program} {n : Nat} {K : Bs} {F : List (Nat × Value)} {h : View} {L : List Res} {Q : Exit → Act → World → Prop}
variable {dst : Option Nat} {ty : Nat} {pos : String} {af : Array Edge} {gd : Option (Nat × Bool)}
end
structure Rv (h : View) (s : Sb) : Prop where
  ds : Ds h s.mv s.l
  bs : s.bv = .string (bstr s.b)
  by8 : Bytes s.b
end Go.Proofs.YtgeepceieckooaaGreatDoor
end

section
namespace Go.Proofs.YtgeepceieckooaaGreatDoor
open Go Go.Ck
set_option maxHeartbeats 1000000
def aeadO (key nonce wth se : List Int) : Option (List Int) := if aeadT key nonce wth (se.take (se.length - 16)) = se.drop (se.length - 16) then some (streamF key 1 nonce (se.take (se.length - 16))) else none
def openR (key nm ek : List Int) (q : Hdr) (se : List Int) : List Int × Bool × Int :=
  if blindR key nm = ek then match aeadO (sealK key q.ep) (nonceF q.cl q.ct) (boundF ek q) se with
    | some p => valF p
    | none => ([], false, 6)
  else ([], false, 6)
def openX (idl : Bool) (key : List Int) (N : List (List Int)) (T : Tab) (nm ek : List Int) (q : Hdr) (se : List Int) : List Int × Bool × Int := if idl then openF key N T nm ek q se else openR key nm ek q se
def OpenC (idl : Bool) : Prop := ∀ (bv : Nat) (key : List Int) (bn bu bt : Nat) (N : List (List Int)) (T : Tab) (nm ek se : List Int) (vn pv sv : Value) (q : Hdr) (hk : Bytes key) (hk32 : key.length = 32) (he32 : ek.length = 32)
    (hN : Names N) (hNl : N.length < 900000) (hTl : ∀ x ∈ T, x.2.2.length ≤ 900000 ∧ Bytes x.2.2) (hnm : Bytes nm) (hnl : 1 ≤ nm.length ∧ nm.length ≤ 64) (hok : q.ok) (hsl : 16 ≤ se.length ∧ se.length ≤ 8192)
    (h : View) (hT : TbOk h T) (hv : Vb h bv idl key bn bu bt) (hsn : Bs8 h vn nm) (hsp : Bs8 h pv q.past) (hss : Bs8 h sv se) (ye : Bytes ek) (yp : Bytes q.past) (ys : Bytes se) (hg : idl = false → ShG h) (w : World) (s : St ⟨w, h, doms [nmR bn N, tbR bt T]⟩ h [nmR bn N, tbR bt T] w),
    Calls Tryz.prog 12 [.pointer (some ⟨bv, 0, none⟩), vn, .agg (envc ek q pv sv).toArray].toArray w fun e w' => ∃ y : View × Value, e = .returned (.tuple #[y.2, .bool (openX idl key N T nm ek q se).2.1, .int .i64 (openX idl key N T nm ek q se).2.2]) ∧
      St ⟨w, h, doms [nmR bn N, tbR bt T]⟩ y.1 [nmR bn (addX idl N nm), tbR bt T] w' ∧ Bs8 y.1 y.2 (openX idl key N T nm ek q se).1
structure Vl where
  d : Dt
  ep : Int
  u : List Int
  hu : u.length = 16
  l : List Dt
  mv : Value
  gone : Bool
  b : List Int
  bv : Value
structure Vv (h : View) (v : Vl) : Prop where
  ds : Ds h v.mv v.l
  bs : Bs8 h v.bv v.b
end Go.Proofs.YtgeepceieckooaaGreatDoor
end

section
namespace Go.Proofs.YtgeepceieckooaaGreatDoor
open Go Go.Ck
set_option maxHeartbeats 4000000
theorem bytes_sub {l m : List Int} (h : Bytes l) (hs : ∀ x ∈ m, x ∈ l) : Bytes m := fun x hx => h x (hs x hx)
theorem one_f {y1 : Flo} {D : List (Flo × Nat)} (h : D.map (·.1) = [y1]) : ∃ b1, D = [(y1, b1)] := by
  obtain ⟨p1, D1, rfl, h1, h2⟩ := List.map_eq_cons_iff.1 h
  obtain rfl := List.map_eq_nil_iff.1 h2
  exact ⟨p1.2, by rw [← h1]⟩
theorem bs_suf {h : View} {ad : Option Addr} {cap : Nat} {l : List Int} (s : Bs8 h (.slice ad l.length cap) l) {j : Nat} (hj : j ≤ l.length) : Bs8 h (.slice (cutF ad cap j 1) (l.length - j) (cap - j)) (l.drop j) := by
  have := sc_drop s (by omega) hj
  unfold Bs8
  rw [List.length_drop]
  rw [Nat.mul_one] at this
  unfold bcs at this ⊢
  rw [List.map_drop]
  exact this
theorem aOpen_sp (va vs : Value) (key nonce a se : List Int) (hk : Bytes key) (hn : Bytes nonce) (hk32 : key.length = 32) (hn12 : nonce.length = 12) (ya : Bytes a) (ys : Bytes se) (la : a.length ≤ 400000) (ls : 16 ≤ se.length ∧ se.length ≤ 400000) (h : View) (ha : Bs8 h va a) (hs : Bs8 h vs se) (w : World) (s : St ⟨w, h, []⟩ h [] w) :
    Calls Tryz.prog 75 [.agg (bcs key).toArray, .agg (bcs nonce).toArray, va, vs].toArray w fun e w' => ∃ x : View × Value, e = .returned (.tuple #[x.2, .int .i64 (match aeadO key nonce a se with | some _ => 0 | none => 6)]) ∧ St ⟨w, h, []⟩ x.1 [] w' ∧ Bs8 x.1 x.2 ((aeadO key nonce a se).getD []) := by
  obtain ⟨_, ada, capa, rfl, hcapa, _⟩ := id ha
  obtain ⟨_, ads, caps, rfl, hcaps, _⟩ := id hs
  have k1 : (bcs key).length = 32 := by rw [bcs_len, hk32]
  have k2 : (bcs nonce).length = 12 := by rw [bcs_len, hn12]
  obtain ⟨n, hn1⟩ : ∃ n, n = se.length - 16 := ⟨_, rfl⟩
  have ht : Bs8 h (.slice ads n caps) (se.take n) := bs_pre hs (by omega)
  have hd : Bs8 h (.slice (cutF ads caps n 1) (se.length - n) (caps - n)) (se.drop n) := bs_suf hs (by omega)
  have yt : Bytes (se.take n) := bytes_sub ys fun x hx => List.mem_of_mem_take hx
  have yd : Bytes (se.drop n) := bytes_sub ys fun x hx => List.mem_of_mem_drop hx
  have lt : (se.take n).length = n := by simp; omega
  have ld : (se.drop n).length = 16 := by simp; omega
  have eO : aeadO key nonce a se = if aeadT key nonce a (se.take n) = se.drop n then some (streamF key 1 nonce (se.take n)) else none := by unfold aeadO; rw [hn1]
  rw [eO]
  have T1 := atag_sp _ _ key nonce a (se.take n) hk hn hk32 hn12 ya yt la (by omega) h ha ht
  have tl := aeadT_len key nonce a (se.take n)
  have ty := aeadT_by key nonce a (se.take n)
  generalize aeadT key nonce a (se.take n) = t at T1 tl ty ⊢
  have hot : (bcs t).length = 16 := by rw [bcs_len, tl]
  refine calls_enter Tryz.func75 rfl Tryz.ntmps75 rfl s ?_
  repeat' (first|refine zw3 ?_|(refine ta_ ?_;intro _)|(refine zk0 ?_ ?_<;>intro ht)|fail)
  rename_i b4 b5
  rw [show ((se.length : Int) - 16) = ((n : Nat) : Int) by omega]
  refine cx_perm (L' := [Res.blk b5 (.cells (bcs nonce).toArray 117 (0, 0)), Res.blk b4 (.cells (bcs key).toArray 33 (0, 0))]) (.refl _) ?_
  refine cx_region_float [0, 1, 2, 3, 4, 5, 6] [(7, 11, fun b => .pointer (some ⟨b, 0, none⟩), .cells (bcs (List.replicate 16 0)).toArray 146 (0, 0))] [8] rfl (by kernel_rfl) ?_
  intro D ys hD
  refine gx_with (List.forall_mem_cons.2 ⟨⟨rfl, rfl, rfl, by kernel_rfl, fun _ _ _ => MA.cast (ybc (T := 146)) rfl⟩, fun y hy => (by cases hy)⟩) (by decide) (fun hok hnd => ?_)
  iterate 6
    refine gx_q rfl ?_
    repeat' (first|refine zw252 ?_|(refine ycf ?_;(first|(refine zg0 ?_ ?_<;>intro ht)|(refine tb_ ?_ ?_ ?_;(·exact zc89);(·exact zc162);intro _)))|fail)
    refine gx_putn ?_
  refine gx_step hok hnd rfl rfl (fun D w s => Hd.sub s (Le.refl h) (fun r hr => List.mem_append_left _ hr)) (fun D ys hD => ?_) _ _ hD
  (refine ycn (ycp Tryz.func92 rfl (by kernel_rfl) rfl) (T1) rfl rfl rfl ?_ ?_;(·exact zc89))
  repeat' (first|refine zw252 ?_|(refine ycf ?_;(first|(refine zg0 ?_ ?_<;>intro ht)|(refine tb_ ?_ ?_ ?_;(·exact zc89);(·exact zc162);intro _)))|fail)
  refine gx_putn ?_
  refine gx_end hok hnd rfl rfl (fun D w s => Hd.sub s (Le.refl h) (fun r hr => List.mem_append_left _ hr)) (fun D hD => ?_) _ _ hD
  obtain ⟨b11, rfl⟩ := one_f hD
  refine rx_to (F' := [(23, .agg (bcs t).toArray), (2, .slice ada a.length capa), (3, .slice ads se.length caps), (4, .pointer (some ⟨b4, 0, none⟩)), (5, .pointer (some ⟨b5, 0, none⟩)), (10, .int .i64 (n : Nat)), (11, .pointer (some ⟨b11, 0, none⟩))]) (L' := [Res.blk b5 (.cells (bcs nonce).toArray 117 (0, 0)), Res.blk b4 (.cells (bcs key).toArray 33 (0, 0)), Res.blk b11 (.cells (bcs (List.replicate 16 0)).toArray 146 (0, 0))]) ts_ rfl ?_
  repeat' (first|refine zw253 ?_|(refine ycf ?_;(first|(refine zg0 ?_ ?_<;>intro ht)|(refine tb_ ?_ ?_ ?_;(·exact zc90);(·intro _;(first|exact ybf|(refine .inl ?_;(first|exact fun _ s => Hd.sub s (Le.refl h) (fun r hr => List.mem_append_left [_] hr)))|exact to_));intro _)))|fail)
  repeat' (first|refine tw_ ?_|(refine ta_ ?_;intro _)|(refine zk0 ?_ ?_<;>intro ht)|fail)
  refine cx_bview 2 rfl rfl fun h1 hle1 hK => ?_
  have hK : h1 b11 = some (.cells (bcs t).toArray 146 (0, 0)) := hK
  have st : Bs8 h1 (.slice (some ⟨b11, 0, none⟩) 16 16) t := by
    unfold Bs8
    rw [tl]
    exact ⟨by rw [hot], some ⟨b11, 0, none⟩, 16, rfl, Nat.le_refl _, .inr ⟨b11, 0, _, _, _, rfl, hK, fun j u hj => by simpa using hj⟩⟩
  have hd1 := hd.mono hle1
  have SM := bSame_sp _ _ t (se.drop n) h1 st hd1 ty yd (by omega) (by omega)
  refine cx_region_draw [] rfl (by kernel_rfl) ?_
  repeat' (first|refine zw254 ?_|(refine ycf ?_;(first|(refine zg0 ?_ ?_<;>intro ht)|(refine tb_ ?_ ?_ ?_;(·exact zc75);(·exact zc156);intro _)))|fail)
  (refine ycn (ycp Tryz.func97 rfl (by kernel_rfl) rfl) (SM) rfl rfl rfl ?_ ?_;(·exact zc75))
  repeat' (first|refine zw254 ?_|(refine ycf ?_;(first|(refine zg0 ?_ ?_<;>intro ht)|(refine tb_ ?_ ?_ ?_;(·exact zc75);(·exact zc156);intro _)))|fail)
  by_cases hte : t = se.drop n
  · rw [decide_eq_true hte, if_pos hte]
    repeat' (first|refine tw_ ?_|(refine ta_ ?_;intro _)|(refine zk0 ?_ ?_<;>intro ht)|fail)
    have S1 := Stream_sp key 1 nonce _ (se.take n) hk hn hk32 hn12 (by omega) yt h1 (ht.mono hle1)
    refine cx_region_draw [Res.blk b5 (.cells (bcs nonce).toArray 117 (0, 0)), Res.blk b4 (.cells (bcs key).toArray 33 (0, 0))] rfl (by kernel_rfl) ?_
    repeat' (first|refine zw255 ?_|(refine ycf ?_;(first|(refine zg0 ?_ ?_<;>intro ht)|(refine tb_ ?_ ?_ ?_;(·exact zc92);(·intro _;(first|exact ybf|(refine .inl ?_;(first|exact fun _ s => s|exact fun _ s => s.tl|exact fun _ s => Hd.sub s hle (fun r hr => List.mem_cons_of_mem _ hr)))|exact to_));intro _)))|fail)
    (refine yco (ycp Tryz.func89 rfl (by kernel_rfl) rfl) (S1) rfl rfl rfl ?_ ?_ ?_;(·exact zc92);(·intro _ _ hle;(first|exact ybf|(refine .inl ?_;(first|exact fun _ s => s|exact fun _ s => s.tl|exact fun _ s => Hd.sub s hle (fun r hr => List.mem_cons_of_mem _ hr)))|exact to_));intro x px hle)
    refine rx_persist rfl fun h3 hle3 hv3 => ?_
    have hv3 : Bs8 h3 x (streamF key 1 nonce (se.take n)) := hv3
    repeat' (first|refine zw256 ?_|(refine ycf ?_;(first|(refine zg0 ?_ ?_<;>intro ht)|(refine tb_ ?_ ?_ ?_;(·exact zc93);(·intro _;(first|exact ybf|(refine .inl ?_;(first|exact fun _ s => Hd.sub s hle3 (fun r hr => hr)))|exact to_));intro _)))|fail)
    repeat' (first|refine tw_ ?_|(refine ta_ ?_;intro _)|(refine zk0 ?_ ?_<;>intro ht)|fail)
    exact nx_ret2 rfl (rv_tmp rfl) (rv_tmp rfl) (fun w' s' => ⟨(h3, x), rfl, s'.nil, hv3⟩)
  · rw [decide_eq_false hte, if_neg hte]
    repeat' (first|refine tw_ ?_|(refine ta_ ?_;intro _)|(refine zk0 ?_ ?_<;>intro ht)|fail)
    exact nx_ret2 rfl (rv_tmp rfl) (rv_tmp rfl) (fun w' s' => ⟨(h1, .slice none 0 0), rfl, s'.nil, Sc.nil h1 1 none 0⟩)
end Go.Proofs.YtgeepceieckooaaGreatDoor
end

section
namespace Go.Proofs.YtgeepceieckooaaGreatDoor
open Go Go.Ck
set_option maxHeartbeats 4000000
theorem VOpenR_sp (bv : Nat) (key : List Int) (bn bu bt : Nat) (ep c n : Int) (vw vs : Value) (wi se : List Int) (hk : Bytes key) (hk32 : key.length = 32) (hok : sealOk ep c n) (hsl : 16 ≤ se.length ∧ se.length ≤ 8192) (hwl : wi.length ≤ 400000) (yw : Bytes wi) (ys : Bytes se)
    (h : View) (hv : Vb h bv false key bn bu bt) (hw : Bs8 h vw wi) (hb : Bs8 h vs se) (hg : ShG h) (w : World) (s : St ⟨w, h, []⟩ h [] w) :
    Calls Tryz.prog 37 [.pointer (some ⟨bv, 0, none⟩), .int .i64 ep, .int .i64 c, .int .i64 n, vw, vs].toArray w fun e w' => ∃ x : View × Value, e = .returned (.tuple #[x.2, .int .i64 (match aeadO (sealK key ep) (nonceF c n) wi se with | some _ => 0 | none => 6)]) ∧
      St ⟨w, h, []⟩ x.1 [] w' ∧ Bs8 x.1 x.2 ((aeadO (sealK key ep) (nonceF c n) wi se).getD []) := by
  obtain ⟨_, adw, capw, rfl, hcapw, _⟩ := id hw
  obtain ⟨_, ads, caps, rfl, hcaps, _⟩ := id hb
  have R1 := vright_sp ep c n h
  rw [if_pos hok] at R1
  have K1 := vkeys_sp bv false key bn bu bt ep c n hk hk32 hok h hv hg
  have kl := sealK_len key ep
  have kb := sealK_by key ep
  have nl := nonceF_len c n
  have nb := nonceF_by c n
  generalize sealK key ep = kk at K1 kl kb ⊢
  generalize nonceF c n = nn at K1 nl nb ⊢
  have S1 := aOpen_sp _ _ kk nn wi se kb nb kl nl yw ys hwl (by omega) h hw hb
  have hok1 : (bcs kk).length = 32 := by rw [bcs_len, kl]
  have hon : (bcs nn).length = 12 := by rw [bcs_len, nl]
  refine calls_enter Tryz.func37 rfl Tryz.ntmps37 rfl s ?_
  repeat' (first|refine zw148 ?_|(refine ta_ ?_;intro _)|(refine zk0 ?_ ?_<;>intro ht)|fail)
  (refine ycn (ycp Tryz.func61 rfl (by kernel_rfl) rfl) (R1) rfl rfl rfl ?_ ?_; (· (exact to_)))
  repeat' (first|refine zw148 ?_|(refine ta_ ?_;intro _)|(refine zk0 ?_ ?_<;>intro ht)|fail)
  (refine ycn (ycp Tryz.func62 rfl (by kernel_rfl) rfl) (K1) rfl rfl rfl ?_ ?_; (· (exact to_)))
  repeat' (first|refine zw214 ?_|(refine ta_ ?_;intro _)|(refine zk0 ?_ ?_<;>intro ht)|fail)
  (refine yco (ycp Tryz.func75 rfl (by kernel_rfl) rfl) (S1) rfl rfl rfl ?_ ?_ ?_; (· (exact to_)); (·exact zc148); intro x px hle)
  obtain ⟨h2, v2⟩ := x
  dsimp only at px hle ⊢
  repeat' (first|refine zw183 ?_|(refine ta_ ?_;intro _)|(refine zk0 ?_ ?_<;>intro ht)|fail)
  exact nx_ret2 rfl (rv_tmp rfl) (rv_tmp rfl) (fun w' s' => ⟨(h2, v2), rfl, s'.nil, px⟩)
theorem openC_false : OpenC false := fun bv key bn bu bt N T nm ek se vn pv sv q hk hk32 he32 hN hNl hTl hnm hnl hok hsl h hT hv hsn hsp hss ye yp ys hg w s => by
  obtain ⟨_, adn, capn, rfl, hcapn, _⟩ := id hsn
  obtain ⟨_, adp, capp, rfl, hcapp, _⟩ := id hsp
  obtain ⟨_, ads, caps, rfl, hcaps, _⟩ := id hss
  have HR := eright_sp ek q _ _ se he32 h hsp hss
  have HN := name_sp _ nm h hsn
  have e1 : decide (q.ok ∧ 16 ≤ se.length ∧ se.length ≤ 8192) = true := by simpa using ⟨hok, hsl⟩
  have e2 : decide (1 ≤ nm.length ∧ nm.length ≤ 64) = true := by simpa using hnl
  have hbk : (blindR key nm).length = 32 := blindR_len key nm
  rw [e1] at HR
  rw [e2] at HN
  refine calls_enter Tryz.func12 rfl Tryz.ntmps12 rfl s ?_
  repeat' (first|refine zw218 ?_|(refine ta_ ?_;intro _)|(refine zk0 ?_ ?_<;>intro ht)|fail)
  (refine ycn (ycp Tryz.func22 rfl (by kernel_rfl) rfl) (HN) rfl rfl rfl ?_ ?_; (· (exact to_)))
  repeat' (first|refine zw218 ?_|(refine ta_ ?_;intro _)|(refine zk0 ?_ ?_<;>intro ht)|fail)
  (refine ycn (ycp Tryz.func36 rfl (by kernel_rfl) rfl) (HR) rfl rfl rfl ?_ ?_; (· (exact to_)))
  repeat' (first|refine zw218 ?_|(refine ta_ ?_;intro _)|(refine zk0 ?_ ?_<;>intro ht)|fail)
  (refine ycn (ycp Tryz.func25 rfl (by kernel_rfl) rfl) (BlindR_sp bv key bn bu bt _ nm hk hk32 hnm hnl h hv hsn (hg rfl)) rfl rfl rfl ?_ ?_; (· (exact to_)))
  generalize hbkk : blindR key nm = bk at hbk ⊢
  have hol : (bcs bk).length = 32 := by rw [bcs_len, hbk]
  by_cases hbe : bk = ek
  · have hd : (!decide (bk = ek)) = false := by simpa using hbe
    have hop : openX false key N T nm ek q se = (match aeadO (sealK key q.ep) (nonceF q.cl q.ct) (boundF ek q) se with | some p => valF p | none => ([], false, 6)) := by show openR key nm ek q se = _;unfold openR;rw [hbkk, if_pos hbe];try (cases aeadO (sealK key q.ep) (nonceF q.cl q.ct) (boundF ek q) se<;>rfl)
    rw [hop]
    have hneq : ∀ {n : Nat} {F : List (Nat × Value)} {h : View} {L : List Res} {dst : Option Nat} {ty T' : Nat} {pos : String} {af : Array Edge} {gd : Option (Nat × Bool)} {x y : Operand}, ev F x = some (.agg (bcs bk).toArray) → ev F y = some (.agg (bcs ek).toArray) → QV Tryz.prog n F h L ⟨dst, .binOp .neq 39 x y T', ty, pos, af, gd⟩ (.bool false) := fun hx hy => by rw [← hd]; exact arr_neq hx hy hbk he32
    repeat' (first|refine zw257 ?_|(refine ta_ ?_;intro _)|(refine zk0 ?_ ?_<;>intro ht)|fail)
    have hbl := boundF_len (q := q) he32
    (refine yco (ycp Tryz.func27 rfl (by kernel_rfl) rfl) (bound_sp ek q _ _ he32 hok rfl h hsp) rfl rfl rfl ?_ ?_ ?_; (· (exact to_)); (·exact zc148); intro x px hle)
    obtain ⟨bo, vo⟩ := x
    clear px hle
    repeat' (first|refine zw3 ?_|(refine ta_ ?_;intro _)|(refine zk0 ?_ ?_<;>intro ht)|fail)
    (refine rx_call_2 (ycp Tryz.func28 rfl (by kernel_rfl) rfl) (Done_sp bo vo (boundF ek q) (by rw [hbl]; have := hok.2.2.2.2; omega) h) rfl rfl rfl ?_ ?_ ?_; (· (exact to_)); (·exact zc148); intro x px hle)
    refine rx_persistA (by intro z hz; simp only [doms, List.flatMap_cons, List.flatMap_nil, List.mem_append, Res.mp, List.mem_singleton] at hz ⊢; simp; rcases hz with hz | hz; (· simp_all); (· simp_all)) fun h2 hle2 hvw => ?_
    have hvw : Bs8 h2 x (boundF ek q) := hvw
    obtain ⟨_, adw, capw, rfl, hcapw, _⟩ := id hvw
    have hv2 := hv.mono hle2
    have hT2 := hT.mono hle2
    have hss2 := hss.mono hle2
    repeat' (first|refine zw258 ?_|(refine ta_ ?_;intro _)|(refine zk0 ?_ ?_<;>intro ht)|fail)
    have V1 := VOpenR_sp bv key bn bu bt q.ep q.cl q.ct _ _ (boundF ek q) se hk hk32 hok.sealk hsl (by rw [hbl]; have := hok.2.2.2.2; omega) (boundF_by ye yp) ys h2 hv2 hvw hss2 ((hg rfl).mono hle2)
    have yo : ∀ p, aeadO (sealK key q.ep) (nonceF q.cl q.ct) (boundF ek q) se = some p → Bytes p ∧ p.length ≤ 900000 := fun p hp => by
      unfold aeadO at hp
      split at hp
      · cases hp
        exact ⟨strmF_by _ _ _ _ _, by rw [streamF_len]; simp; omega⟩
      · cases hp
    generalize aeadO (sealK key q.ep) (nonceF q.cl q.ct) (boundF ek q) se = O at V1 yo ⊢
    (refine yco (ycp Tryz.func37 rfl (by kernel_rfl) rfl) (V1) rfl rfl rfl ?_ ?_ ?_; (· (exact to_)); (·exact zc148); intro x px hle)
    obtain ⟨h3, vo2⟩ := x
    dsimp only at px hle ⊢
    cases O with
    | none =>
      repeat' (first|refine zw3 ?_|(refine ta_ ?_;intro _)|(refine zk0 ?_ ?_<;>intro ht)|fail)
      refine nx_ret3 rfl (rv_tmp rfl) (rv_tmp rfl) (rv_tmp rfl) (fun w' s' => ⟨(h3, .slice none 0 0), rfl, ?_, Sc.nil _ _ _ _⟩)
      exact s'.picks [4, 4]
    | some r =>
      obtain ⟨yr, lr⟩ := yo r rfl
      have hvo : Bs8 h3 vo2 r := px
      obtain ⟨_, ado, capo, rfl, hcapo, _⟩ := id hvo
      repeat' (first|refine zw3 ?_|(refine ta_ ?_;intro _)|(refine zk0 ?_ ?_<;>intro ht)|fail)
      (refine yco (ycp Tryz.func38 rfl (by kernel_rfl) rfl) (value_sp _ r yr lr h3 hvo) rfl rfl rfl ?_ ?_ ?_; (· (exact to_)); (·exact zc148); intro x px hle)
      obtain ⟨h4, vr⟩ := x
      dsimp only at px ⊢
      repeat' (first|refine zw3 ?_|(refine ta_ ?_;intro _)|(refine zk0 ?_ ?_<;>intro ht)|fail)
      refine nx_ret3 rfl (rv_tmp rfl) (rv_tmp rfl) (rv_tmp rfl) (fun w' s' => ⟨(h4, vr), rfl, ?_, px⟩)
      exact s'.picks [4, 4]
  · have hd : (!decide (bk = ek)) = true := by simpa using hbe
    have hop : openX false key N T nm ek q se = ([], false, 6) := by show openR key nm ek q se = _; unfold openR; rw [hbkk, if_neg hbe]
    rw [hop]
    have hneq : ∀ {n : Nat} {F : List (Nat × Value)} {h : View} {L : List Res} {dst : Option Nat} {ty T' : Nat} {pos : String} {af : Array Edge} {gd : Option (Nat × Bool)} {x y : Operand}, ev F x = some (.agg (bcs bk).toArray) → ev F y = some (.agg (bcs ek).toArray) → QV Tryz.prog n F h L ⟨dst, .binOp .neq 39 x y T', ty, pos, af, gd⟩ (.bool true) := fun hx hy => by rw [← hd]; exact arr_neq hx hy hbk he32
    repeat' (first|refine zw259 ?_|(refine ta_ ?_;intro _)|(refine zk0 ?_ ?_<;>intro ht)|fail)
    refine nx_ret3 rfl (rv_tmp rfl) (rv_tmp rfl) (rv_tmp rfl) (fun w' s' => ⟨(h, .slice none 0 0), rfl, ?_, Sc.nil _ _ _ _⟩)
    exact s'.picks [2, 2]
end Go.Proofs.YtgeepceieckooaaGreatDoor
end

section
namespace Go.Proofs.YtgeepceieckooaaGreatDoor
open Go Go.Ck
set_option maxHeartbeats 4000000
theorem names_nil : Names [] := fun x hx => by cases hx
theorem addX_names {idl : Bool} {N : List (List Int)} (hN : Names N) {x : List Int} (hx : Bytes x) : Names (addX idl N x) := by
  cases idl
  · exact hN
  · exact addN_names hN hx
theorem addX_len (idl : Bool) (N : List (List Int)) (x : List Int) : (addX idl N x).length ≤ N.length + 1 := by
  cases idl
  · show N.length ≤ _; omega
  · show (addN N x).length ≤ _
    unfold addN
    split
    · omega
    · simp
theorem held_nil : Held [] [] := fun x hx => by cases hx
structure AskD where
  nm : List Int
  ep : Int
  ct : Int
  cl : Int
  nu : Int
  past : List Int
  val : List Int
  del : Bool
def askc (a : AskD) (vn vp vv : Value) : List Value := [vn, .int .i64 a.ep, .int .i64 a.ct, .int .i64 a.cl, .int .i64 a.nu, vp, vv, .bool a.del]
def AskD.by' (a : AskD) : Prop := Bytes a.nm ∧ Bytes a.past ∧ Bytes a.val ∧ a.nm.length ≤ 9223372036854775807 ∧ a.past.length ≤ 9223372036854775807 ∧ a.val.length ≤ 9223372036854775807
end Go.Proofs.YtgeepceieckooaaGreatDoor
end

section
namespace Go.Proofs.YtgeepceieckooaaGreatDoor
open Go Go.Ck
set_option maxHeartbeats 1000000
structure Sd where
  ep : Int
  cl : Int
  ct : Int
  wi : List Int
  b : List Int
  out : List Int
def usD (D : List Sd) : List UseK := D.map fun x => (x.cl, x.ct)
end Go.Proofs.YtgeepceieckooaaGreatDoor
end
