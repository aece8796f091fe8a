/-
  Part 12 of a proof: EvC EvF DotQ DotR SbA SbC SbL SbP SbQ.
  Conditions: each theorem states its own.
-/
import Derived.Laws.IdiomCopy
import Derived.Laws.IdiomStrings
import Derived.Test.YtaofgcahmfailaaGreatDoorCmNPM11
set_option maxRecDepth 100000
set_option linter.unusedVariables false
set_option linter.unusedSimpArgs false
section
namespace Go.Ck
open Go
section
variable {P : Program} {n : Nat} {F : List (Nat × Value)} {h : View} {L : List Res} {dst : Option Nat} {ty : Nat} {pos : String} {af : Array Edge} {gd : Option (Nat × Bool)}
theorem qv_copy_zero {T T2 e by' : Nat} {x y : Operand} {z : Value} {d a : Option Addr} {dLen dCap sCap : Nat} [tu : TyU P T (.slice e)] [tb : TyB P e z 1 by'] (hx : ev F x = some (.slice d dLen dCap)) (hy : ev F y = some (.slice a 0 sCap)) :
    QV P n F h L ⟨dst, .call ⟨.builtin .copy, #[x, y], #[T, T2]⟩, ty, pos, af, gd⟩ (.int .i64 0) := .mk fun ac w f s => by
  obtain ⟨inf, hi, _, hsize, _⟩ := tb.ex
  have hs1 : (P.info? e).map (·.size) = some 1 := by rw [hi]; simp [hsize]
  have hrun := run_copy_none (P := P) w T T2 ty e d a dLen dCap 0 sCap tu.u hs1 (by simp)
  simp [execOp, resolve, invoke, builtin, f.ev hx, f.ev hy, hrun, goInt]
end
end Go.Ck
namespace Go.Proofs.YtaofgcahmfailaaGreatDoor
open Go Go.Ck
set_option maxHeartbeats 4000000
instance ckuPi : TyU Tryz.prog 151 (.slice 150) := ⟨Tryz.underlying151⟩
def envL (kk hv : List Int) (pv sv : Value) : List Value := bcs kk ++ (hv.map (Value.int .i64) ++ [pv, sv])
def padK (k : List Int) : List Int := k ++ List.replicate (32 - k.length) 0
theorem padK_len {k : List Int} (h : k.length ≤ 32) : (padK k).length = 32 := by simp [padK]; omega
theorem padK_full {k : List Int} (h : k.length = 32) : padK k = k := by simp [padK, h]
theorem envL_len {kk hv : List Int} {pv sv : Value} (h1 : kk.length = 32) (h2 : hv.length = 4) : (envL kk hv pv sv).length = 38 := by simp [envL, bcs_len, h1, h2]
theorem envL_env {kk : List Int} {hv p : List Int} {pv sv : Value} (h2 : hv.length = 4) : envL kk hv pv sv = envc kk (hdOf hv p) pv sv := by
  obtain ⟨a, b, c, d, rfl⟩ := list4 hv h2
  simp [envL, envc, hdc, hdOf]
theorem fix32 (s : RS) (n : Nat) : (fixC s n).1.length = n ∨ (fixC s n).1 = [] := by
  unfold fixC
  split
  · exact .inr rfl
  · split
    · exact .inr rfl
    · exact .inl (by simp; omega)
theorem spl_pre {l m z : List Value} (hl : l.length = z.length) : spl (z ++ m) 0 l = l ++ m := by
  simp [spl, hl]
def padH (xs : List Int) : List Int := xs ++ List.replicate (4 - xs.length) 0
theorem padH_len {xs : List Int} (h : xs.length ≤ 4) : (padH xs).length = 4 := by simp [padH]; omega
theorem padH_full {xs : List Int} (h : xs.length = 4) : padH xs = xs := by simp [padH, h]
theorem padH_set {xs : List Int} {x : Int} {k : Nat} (hk : xs.length = k) (h : k < 4) : (padH xs).set k x = padH (xs ++ [x]) := by
  subst hk
  simp only [padH, List.length_append, List.length_singleton]
  have e : 4 - xs.length = (4 - (xs.length + 1)) + 1 := by omega
  rw [e, List.replicate_succ, List.set_append_right _ _ (Nat.le_refl _), Nat.sub_self, List.set_cons_zero]
  simp
theorem spl_app' {l m vs : List Value} {k j : Nat} (hk : l.length = k) : spl (l ++ m) (k + j) vs = l ++ spl m j vs := by
  subst hk
  simp only [spl, List.take_append, List.drop_append, Nat.add_sub_cancel_left, List.append_assoc]
  rw [List.take_of_length_le (by omega), List.drop_eq_nil_of_le (by omega), List.nil_append, Nat.add_assoc, Nat.add_sub_cancel_left]
theorem spl_envL {kk hv : List Int} {pv sv : Value} {k o : Nat} {x : Int} (h1 : kk.length = 32) (ho : o = 32 + k) (hk : k < hv.length) : spl (envL kk hv pv sv) o [.int .i64 x] = envL kk (hv.set k x) pv sv := by
  subst ho
  have hb : (bcs kk).length = 32 := by rw [bcs_len, h1]
  unfold envL
  rw [spl_app' hb]
  congr 1
  have e : (hv.set k x).map (Value.int .i64) = (hv.map (Value.int .i64)).set k (.int .i64 x) := by rw [List.map_set]
  rw [e]
  have hl : k < (hv.map (Value.int .i64)).length := by simpa using hk
  generalize hv.map (Value.int .i64) = m at hl ⊢
  simp only [spl, List.length_singleton]
  rw [List.take_append_of_le_length (by omega), List.drop_append_of_le_length (by omega), List.set_eq_take_append_cons_drop, if_pos hl]
  simp
theorem spl_pv {kk hv : List Int} {p0 s0 pv : Value} (h1 : kk.length = 32) (h2 : hv.length = 4) : spl (envL kk hv p0 s0) (0 + 32 + 4) [pv] = envL kk hv pv s0 := by
  have hb : (bcs kk).length = 32 := by rw [bcs_len, h1]
  obtain ⟨a, b, c, d, rfl⟩ := list4 hv h2
  unfold envL
  rw [Nat.zero_add, spl_app' hb]
  rfl
theorem spl_sv {kk hv : List Int} {p0 s0 sv : Value} (h1 : kk.length = 32) (h2 : hv.length = 4) : spl (envL kk hv p0 s0) (0 + 37) [sv] = envL kk hv p0 sv := by
  have hb : (bcs kk).length = 32 := by rw [bcs_len, h1]
  obtain ⟨a, b, c, d, rfl⟩ := list4 hv h2
  unfold envL
  rw [Nat.zero_add, show 37 = 32 + 5 from rfl, spl_app' hb]
  rfl
def ptrs (be : Nat) : List Value := [.pointer (some ⟨be, 32 + 0, none⟩), .pointer (some ⟨be, 32 + 1, none⟩), .pointer (some ⟨be, 32 + 2, none⟩), .pointer (some ⟨be, 32 + 3, none⟩)]
theorem ptrs_at {be k : Nat} (h : k < 4) : (ptrs be)[k]? = some (.pointer (some ⟨be, 32 + k, none⟩)) := by
  rcases (by omega : k = 0 ∨ k = 1 ∨ k = 2 ∨ k = 3) with rfl | rfl | rfl | rfl<;>rfl
theorem ERead_sp (sv : Value) (l : List Int) (hb : Bytes l) (hl : l.length ≤ 140737488355328) (h : View) (hs : Bs8 h sv l) (w : World) (s : St ⟨w, h, []⟩ h [] w) :
    Calls Tryz.prog 44 [sv].toArray w fun en w' => ∃ x : View × Value × Value, en = .returned (.tuple #[.agg (if rdOk l then (envc (rdK l).1 (rdQ l) x.2.1 x.2.2).toArray else zEnv), .int .i64 (if rdOk l then 0 else 2)]) ∧ St ⟨w, h, []⟩ x.1 [] w' ∧ (rdOk l → Bs8 x.1 x.2.1 (rdQ l).past ∧ Bs8 x.1 x.2.2 (rdZ l).1) := by
  obtain ⟨o1, o2, o3, o4⟩ := rd_oks hb (by omega)
  obtain ⟨_, ad, cap, rfl, hcap, _⟩ := id hs
  refine calls_enter Tryz.func44 rfl Tryz.ntmps44 rfl s ?_
  repeat' (first|refine tw_ ?_|(refine ta_ ?_;intro _)|((fail_if_success (refine ybi rfl ?_));refine ybj rfl ?_ ?_<;>(intro ht;rw [ht];first|replace ht := oet_ ht|replace ht := oef_ ht|skip))|(refine ych ?_;first|(refine ybw rfl ?_ ?_<;>intro ht)|(refine ybx rfl ?_ ?_<;>intro ht)))
  (refine yco (ycp Tryz.func62 rfl (by kernel_rfl) rfl) (Of_sp _ l (by omega) h hs) rfl rfl rfl ?_ ?_ ?_; (· (exact to_)); (· intro _ _ hle; (exact to_)); intro x px hle)
  obtain ⟨h1, bi, v1⟩ := x
  dsimp only at px hle ⊢
  repeat' (first|refine tw_ ?_|(refine ta_ ?_;intro _)|((fail_if_success (refine ybi rfl ?_));refine ybj rfl ?_ ?_<;>(intro ht;rw [ht];first|replace ht := oet_ ht|replace ht := oef_ ht|skip))|(refine ych ?_;first|(refine ybw rfl ?_ ?_<;>intro ht)|(refine ybx rfl ?_ ?_<;>intro ht)))
  rename_i b2 be
  have hle1 : Le h h1 := hle
  clear hle
  refine cx_perm (L' := [Res.blk be (.cells (envL (padK []) [0, 0, 0, 0] (.slice none 0 0) (.slice none 0 0)).toArray 90 (0, 0)), inR bi v1 0, Res.blk b2 (.cells zEnv 90 (0, 0))]) (.refl _) ?_
  refine cx_cut (X := View × Value) (fun y => [(2, .pointer (some ⟨b2, 0, none⟩)), (4, .pointer (some ⟨bi, 0, none⟩)), (5, .pointer (some ⟨be, 0, none⟩))]) (fun y => y.1) (fun y => [Res.blk be (.cells (envL (padK (rdK l).1) [0, 0, 0, 0] (.slice none 0 0) (.slice none 0 0)).toArray 90 (0, 0)), inR bi y.2 (rdK l).2.2, Res.blk b2 (.cells zEnv 90 (0, 0))]) (fun y => Le h1 y.1 ∧ Bs8 y.1 y.2 (rdK l).2.1) ?_ ?_
  · refine cx_region_draw [] rfl (by kernel_rfl) ?_
    repeat' (refine ycf ?_;(first|(first|(apply ybm;(·(first|(exact qv_slice_arr rfl)|exact tq_));(·rfl);(·rfl);(·(first|exact fun _ s => Hd.sub s (Le.refl _) (fun r hr => nomatch hr)|exact fun _ s => Hd.sub s hle (fun r hr => nomatch hr))))|refine ybl rfl rfl ?_|((fail_if_success (refine ybi rfl ?_));refine ybj rfl ?_ ?_<;>(intro ht;rw [ht];first|replace ht := oet_ ht|replace ht := oef_ ht|skip))|(refine tb_ ?_ ?_ ?_;(·(first|exact ybf|(refine .inl ?_;(first|exact fun _ s => Hd.sub s (Le.refl _) (fun r hr => nomatch hr)|exact fun _ s => Hd.sub s hle (fun r hr => nomatch hr)))|exact to_));(·intro _;(first|exact ybf|(refine .inl ?_;(first|exact fun _ s => Hd.sub s (Le.refl _) (fun r hr => nomatch hr)|exact fun _ s => Hd.sub s hle (fun r hr => nomatch hr)))|exact to_));intro _)|(first|(refine tqs_ ?_ ?_ ?_;(·(first|exact ybf|(refine .inl ?_;(first|exact fun _ s => Hd.sub s (Le.refl _) (fun r hr => nomatch hr)|exact fun _ s => Hd.sub s hle (fun r hr => nomatch hr)))|exact to_));(·(first|exact ybf|(refine .inl ?_;(first|exact fun _ s => Hd.sub s (Le.refl _) (fun r hr => nomatch hr)|exact fun _ s => Hd.sub s hle (fun r hr => nomatch hr)))|exact to_))))|(apply ybn;(·(first|(exact qv_slice_arr rfl)|exact tq_));(·rfl);(·rfl);(·rfl);(·(first|exact ybf|(refine .inl ?_;(first|exact fun _ s => Hd.sub s (Le.refl _) (fun r hr => nomatch hr)|exact fun _ s => Hd.sub s hle (fun r hr => nomatch hr)))|exact to_))))|refine ycg ?_))
    (refine rx_call_m (ycp Tryz.func63 rfl (by kernel_rfl) rfl) (perm_at (k := 1) rfl) (InFixed_sp bi v1 l 0 32 hb (by omega) (by omega) h1 px) rfl rfl rfl ?_ ?_ ?_;(·(first|exact ybf | (refine .inl ?_;(first|exact fun _ s => Hd.sub s (Le.refl _) (fun r hr => nomatch hr) | exact fun _ s => Hd.sub s hle (fun r hr => nomatch hr))) | exact to_));(·intro _ _ hle;(first|exact ybf | (refine .inl ?_;(first|exact fun _ s => Hd.sub s (Le.refl _) (fun r hr => nomatch hr) | exact fun _ s => Hd.sub s hle (fun r hr => nomatch hr))) | exact to_));intro x px hle)
    obtain ⟨h2, vk, v2⟩ := x
    obtain ⟨pk, pv2⟩ := px
    dsimp only at pk pv2 hle ⊢
    rcases fix32 (l, 0) 32 with hk | hk
    · obtain ⟨_, adk, capk, rfl, hcapk, _⟩ := id pk
      obtain ⟨bk, ok, rfl⟩ := pk.ad (by omega) (by omega)
      have hbl := bcs_len (fixC (l, 0) 32).1
      have hspl : spl (envL (padK []) [0, 0, 0, 0] (.slice none 0 0) (.slice none 0 0)) (0 + 0) (bcs (fixC (l, 0) 32).1) = envL (padK (fixC (l, 0) 32).1) [0, 0, 0, 0] (.slice none 0 0) (.slice none 0 0) := by
        rw [padK_full hk]
        exact spl_pre (by rw [hbl, hk]; rfl)
      refine rx_copy (news := bcs (fixC (l, 0) 32).1) 1 rfl rfl rfl pk.cells (by rw [hbl, hk]; rfl) (by show 0 + 0 + _ ≤ (envL (padK []) _ _ _).toArray.size; rw [List.size_toArray, envL_len rfl rfl, hbl, hk]; omega) (bcs_one _) hspl rfl rfl rfl ?_ ?_ ?_
      · (first|exact ybf | (refine .inl ?_;(first|exact fun _ s => Hd.sub s (Le.refl _) (fun r hr => nomatch hr) | exact fun _ s => Hd.sub s hle (fun r hr => nomatch hr))) | exact to_)
      · exact .inr (by kernel_rfl)
      repeat' (refine ycf ?_;(first|(first|(apply ybm;(·(first|(exact qv_slice_arr rfl)|exact tq_));(·rfl);(·rfl);(·(first|exact fun _ s => Hd.sub s (Le.refl _) (fun r hr => nomatch hr)|exact fun _ s => Hd.sub s hle (fun r hr => nomatch hr))))|refine ybl rfl rfl ?_|((fail_if_success (refine ybi rfl ?_));refine ybj rfl ?_ ?_<;>(intro ht;rw [ht];first|replace ht := oet_ ht|replace ht := oef_ ht|skip))|(refine tb_ ?_ ?_ ?_;(·(first|exact ybf|(refine .inl ?_;(first|exact fun _ s => Hd.sub s (Le.refl _) (fun r hr => nomatch hr)|exact fun _ s => Hd.sub s hle (fun r hr => nomatch hr)))|exact to_));(·intro _;(first|exact ybf|(refine .inl ?_;(first|exact fun _ s => Hd.sub s (Le.refl _) (fun r hr => nomatch hr)|exact fun _ s => Hd.sub s hle (fun r hr => nomatch hr)))|exact to_));intro _)|(first|(refine tqs_ ?_ ?_ ?_;(·(first|exact ybf|(refine .inl ?_;(first|exact fun _ s => Hd.sub s (Le.refl _) (fun r hr => nomatch hr)|exact fun _ s => Hd.sub s hle (fun r hr => nomatch hr)))|exact to_));(·(first|exact ybf|(refine .inl ?_;(first|exact fun _ s => Hd.sub s (Le.refl _) (fun r hr => nomatch hr)|exact fun _ s => Hd.sub s hle (fun r hr => nomatch hr)))|exact to_))))|(apply ybn;(·(first|(exact qv_slice_arr rfl)|exact tq_));(·rfl);(·rfl);(·rfl);(·(first|exact ybf|(refine .inl ?_;(first|exact fun _ s => Hd.sub s (Le.refl _) (fun r hr => nomatch hr)|exact fun _ s => Hd.sub s hle (fun r hr => nomatch hr)))|exact to_))))|refine ycg ?_))
      refine nx_cut (h2, v2) ⟨hle, pv2⟩ ts_ (fun _ s => ?_)
      exact s.perm (List.Perm.swap _ _ _)
    · rw [hk] at pk
      obtain ⟨_, adk, capk, rfl, hcapk, _⟩ := id pk
      repeat' (refine ycf ?_;(first|(first|(apply ybm;(·(first|(exact qv_copy_zero rfl rfl)|exact tq_));(·rfl);(·rfl);(·(first|exact fun _ s => Hd.sub s (Le.refl _) (fun r hr => nomatch hr)|exact fun _ s => Hd.sub s hle (fun r hr => nomatch hr))))|refine ybl rfl rfl ?_|((fail_if_success (refine ybi rfl ?_));refine ybj rfl ?_ ?_<;>(intro ht;rw [ht];first|replace ht := oet_ ht|replace ht := oef_ ht|skip))|(refine tb_ ?_ ?_ ?_;(·(first|exact ybf|(refine .inl ?_;(first|exact fun _ s => Hd.sub s (Le.refl _) (fun r hr => nomatch hr)|exact fun _ s => Hd.sub s hle (fun r hr => nomatch hr)))|exact to_));(·intro _;(first|exact ybf|(refine .inl ?_;(first|exact fun _ s => Hd.sub s (Le.refl _) (fun r hr => nomatch hr)|exact fun _ s => Hd.sub s hle (fun r hr => nomatch hr)))|exact to_));intro _)|(first|(refine tqs_ ?_ ?_ ?_;(·(first|exact ybf|(refine .inl ?_;(first|exact fun _ s => Hd.sub s (Le.refl _) (fun r hr => nomatch hr)|exact fun _ s => Hd.sub s hle (fun r hr => nomatch hr)))|exact to_));(·(first|exact ybf|(refine .inl ?_;(first|exact fun _ s => Hd.sub s (Le.refl _) (fun r hr => nomatch hr)|exact fun _ s => Hd.sub s hle (fun r hr => nomatch hr)))|exact to_))))|(apply ybn;(·(first|(exact qv_copy_zero rfl rfl)|exact tq_));(·rfl);(·rfl);(·rfl);(·(first|exact ybf|(refine .inl ?_;(first|exact fun _ s => Hd.sub s (Le.refl _) (fun r hr => nomatch hr)|exact fun _ s => Hd.sub s hle (fun r hr => nomatch hr)))|exact to_))))|refine ycg ?_))
      refine nx_cut (h2, v2) ⟨hle, pv2⟩ ts_ (fun _ s => ?_)
      show St _ h2 [Res.blk be (.cells (envL (padK (fixC (l, 0) 32).1) _ _ _).toArray _ _), _, _] _
      rw [hk]
      exact s.perm (List.Perm.swap _ _ _)
  rintro ⟨h2, v2⟩ ⟨hle2, pv2⟩
  dsimp only at hle2 pv2 ⊢
  have hk32 : (padK (rdK l).1).length = 32 := padK_len (by rcases fix32 (l, 0) 32 with hk | hk; (· show (fixC (l, 0) 32).1.length ≤ 32; omega); (· show (fixC (l, 0) 32).1.length ≤ 32; rw [hk]; simp))
  have hkk : (rdK l).1.length = 32 → padK (rdK l).1 = (rdK l).1 := padK_full
  generalize padK (rdK l).1 = kk at hk32 hkk ⊢
  refine yby ?_
  repeat' (first|refine tw_ ?_|(refine ta_ ?_;intro _)|((fail_if_success (refine ybi rfl ?_));refine ybj rfl ?_ ?_<;>(intro ht;rw [ht];first|replace ht := oet_ ht|replace ht := oef_ ht|skip))|(refine ych ?_;first|(refine ybw rfl ?_ ?_<;>intro ht)|(refine ybx rfl ?_ ?_<;>intro ht)))
  rename_i bp
  refine cx_loop (X := Nat × View × Value) (fun y => [(2, .pointer (some ⟨b2, 0, none⟩)), (4, .pointer (some ⟨bi, 0, none⟩)), (5, .pointer (some ⟨be, 0, none⟩)), (25, .slice (some ⟨bp, 0, none⟩) 4 4), (26, .int .i64 (4 : Nat)), (27, .int .i64 (y.1 : Nat))]) (fun y => y.2.1)
    (fun y => [Res.blk bp (.cells (ptrs be).toArray 150 (0, 0)), Res.blk be (.cells (envL kk (padH (rdN (rdK l).2 y.1).1) (.slice none 0 0) (.slice none 0 0)).toArray 90 (0, 0)), inR bi y.2.2 (rdN (rdK l).2 y.1).2.2, Res.blk b2 (.cells zEnv 90 (0, 0))])
    (fun y => y.1 ≤ 4 ∧ Le h2 y.2.1 ∧ Bs8 y.2.1 y.2.2 (rdN (rdK l).2 y.1).2.1) (fun y => 4 - y.1) (0, h2, v2) ⟨by omega, Le.refl _, pv2⟩ ts_ (fun _ s => s) ?_
  rintro ⟨k, h3, v3⟩ ⟨hk, hle3, pv3⟩
  dsimp only at hk hle3 pv3 ⊢
  by_cases hk4 : k < 4
  · obtain ⟨r1, r2⟩ := rdN_ok o1 k
    have hps : ∀ L' : List Res, L'[0]? = some (Res.blk bp (.cells (ptrs be).toArray 150 (0, 0))) → CellAt h3 L' bp (0 + (k : Int).toNat * 1) (.pointer (some ⟨be, 32 + k, none⟩)) := fun L' hL => by
      have := (yaz (h := h3) 0 hL).cell (ptrs_at (be := be) hk4)
      have e : 0 + (k : Int).toNat * 1 = 0 + k := by omega
      rw [e]; exact this
    repeat' (first|(refine ycf ?_;apply ybk;(·first|(exact tk_)|(apply yae;(·rfl);(·(exact hps _ rfl))));(·rfl);(·rfl))|refine t1_ ?_|(refine ta_ ?_;intro _)|((fail_if_success (refine ybi rfl ?_));refine ybj rfl ?_ ?_<;>(intro ht;rw [ht];first|replace ht := oet_ ht|replace ht := oef_ ht|skip))|(refine ych ?_;first|(refine ybw rfl ?_ ?_<;>intro ht)|(refine ybx rfl ?_ ?_<;>intro ht)))
    (refine rx_call_m (ycp Tryz.func64 rfl (by kernel_rfl) rfl) (perm_at (k := 2) rfl) (InNum_sp bi v3 (rdN (rdK l).2 k).2.1 (rdN (rdK l).2 k).2.2 4611686018427387904 r1.b (by omega) r1.l h3 pv3) rfl rfl rfl ?_ ?_ ?_;(·(first|exact ybf | (refine .inl ?_;(first|exact fun _ s => Hd.sub s (Le.refl _) (fun r hr => nomatch hr) | exact fun _ s => Hd.sub s hle (fun r hr => nomatch hr))) | exact to_));(·intro _ _ hle;(first|exact ybf | (refine .inl ?_;(first|exact fun _ s => Hd.sub s (Le.refl _) (fun r hr => nomatch hr) | exact fun _ s => Hd.sub s hle (fun r hr => nomatch hr))) | exact to_));intro x px hle)
    repeat' (first|(refine ycf ?_;apply ybk;(·first|(apply qv_nilCheck;rfl));(·rfl);(·rfl))|(refine ybg 2 rfl rfl rfl rfl (by show 32 + k + 1 ≤ (envL kk _ _ _).toArray.size;rw [List.size_toArray, envL_len hk32 (padH_len (by omega))];omega) rfl (spl_envL hk32 rfl (by rw [padH_len (by omega)];exact hk4)) rfl rfl ?_ ?_ ?_;(·(first|exact ybf|(refine .inl ?_;(first|exact fun _ s => Hd.sub s (Le.refl _) (fun r hr => nomatch hr)|exact fun _ s => Hd.sub s hle (fun r hr => nomatch hr)))|exact to_));(·(first|exact ybf|(refine .inl ?_;(first|exact fun _ s => Hd.sub s (Le.refl _) (fun r hr => nomatch hr)|exact fun _ s => Hd.sub s hle (fun r hr => nomatch hr)))|exact to_)))|refine t1_ ?_|(refine ta_ ?_;intro _)|((fail_if_success (refine ybi rfl ?_));refine ybj rfl ?_ ?_<;>(intro ht;rw [ht];first|replace ht := oet_ ht|replace ht := oef_ ht|skip))|(refine ych ?_;first|(refine ybw rfl ?_ ?_<;>intro ht)|(refine ybx rfl ?_ ?_<;>intro ht)))
    repeat' (first|(refine ycf ?_;apply ybk;(·first|(exact tk_));(·rfl);(·rfl))|refine t1_ ?_|(refine ta_ ?_;intro _)|((fail_if_success (refine ybi rfl ?_));refine ybj rfl ?_ ?_<;>(intro ht;rw [ht];first|replace ht := oet_ ht|replace ht := oef_ ht|skip))|(refine ych ?_;first|(refine ybw rfl ?_ ?_<;>intro ht)|(refine ybx rfl ?_ ?_<;>intro ht)))
    refine nx_round (k + 1, h3, x) ⟨by show k + 1 ≤ 4; omega, hle3, px⟩ (by show 4 - (k + 1) < 4 - k; omega) ts_ (fun _ s => ?_)
    have s2 := s.picks [1, 1, 0, 0]
    have e : padH (rdN (rdK l).2 (k + 1)).1 = (padH (rdN (rdK l).2 k).1).set k (numC (rdN (rdK l).2 k).2 8 4611686018427387904).1 := (padH_set r2 hk4).symm
    dsimp only
    rw [e]
    exact s2
  · have ek : k = 4 := by omega
    subst ek
    obtain ⟨r1, r2⟩ := rdN_ok o1 4
    rw [padH_full r2]
    change (rdH l).1.length = 4 at r2
    change Bs8 h3 v3 (rdH l).2.1 at pv3
    show CX _ _ _ _ _ _ [_, Res.blk be (.cells (envL kk (rdH l).1 _ _).toArray _ _), inR bi v3 (rdH l).2.2, _] _
    repeat' (first|(refine ycf ?_;apply ybk;(·first|(exact tk_));(·rfl);(·rfl))|refine t1_ ?_|(refine ta_ ?_;intro _)|((fail_if_success (refine ybi rfl ?_));refine ybj rfl ?_ ?_<;>(intro ht;rw [ht];first|replace ht := oet_ ht|replace ht := oef_ ht|skip))|(refine ych ?_;first|(refine ybw rfl ?_ ?_<;>intro ht)|(refine ybx rfl ?_ ?_<;>intro ht)))
    (refine rx_call_m (ycp Tryz.func65 rfl (by kernel_rfl) rfl) (perm_at (k := 2) rfl) (InBytes_sp bi v3 (rdH l).2.1 (rdH l).2.2 4096 o2.b (by omega) o2.l h3 pv3) rfl rfl rfl ?_ ?_ ?_;(·(first|exact ybf | (refine .inl ?_;(first|exact fun _ s => Hd.sub s (Le.refl _) (fun r hr => nomatch hr) | exact fun _ s => Hd.sub s hle (fun r hr => nomatch hr))) | exact to_));(·intro _ _ hle;(first|exact ybf | (refine .inl ?_;(first|exact fun _ s => Hd.sub s (Le.refl _) (fun r hr => nomatch hr) | exact fun _ s => Hd.sub s hle (fun r hr => nomatch hr))) | exact to_));intro x px hle)
    obtain ⟨h4, pv, v4⟩ := x
    obtain ⟨pp, pv4⟩ := px
    have hle4 : Le h3 h4 := hle
    clear hle
    dsimp only at pp pv4 ⊢
    obtain ⟨_, adp, capp, rfl, hcapp, _⟩ := id pp
    repeat' (first|(refine ybg 2 rfl rfl rfl rfl (by show 0 + 32 + 4 + 1 ≤ (envL kk _ _ _).toArray.size;rw [List.size_toArray, envL_len hk32 r2];omega) rfl (spl_pv hk32 r2) rfl rfl ?_ ?_ ?_;(·(first|exact ybf|(refine .inl ?_;(first|exact fun _ s => Hd.sub s (Le.refl _) (fun r hr => nomatch hr)|exact fun _ s => Hd.sub s hle (fun r hr => nomatch hr)))|exact to_));(·(first|exact ybf|(refine .inl ?_;(first|exact fun _ s => Hd.sub s (Le.refl _) (fun r hr => nomatch hr)|exact fun _ s => Hd.sub s hle (fun r hr => nomatch hr)))|exact to_)))|refine t1_ ?_|(refine ta_ ?_;intro _)|((fail_if_success (refine ybi rfl ?_));refine ybj rfl ?_ ?_<;>(intro ht;rw [ht];first|replace ht := oet_ ht|replace ht := oef_ ht|skip))|(refine ych ?_;first|(refine ybw rfl ?_ ?_<;>intro ht)|(refine ybx rfl ?_ ?_<;>intro ht)))
    (refine rx_call_m (ycp Tryz.func65 rfl (by kernel_rfl) rfl) (perm_at (k := 0) rfl) (InBytes_sp bi v4 (rdP l).2.1 (rdP l).2.2 8192 o3.b (by omega) o3.l h4 pv4) rfl rfl rfl ?_ ?_ ?_;(·(first|exact ybf | (refine .inl ?_;(first|exact fun _ s => Hd.sub s (Le.refl _) (fun r hr => nomatch hr) | exact fun _ s => Hd.sub s hle (fun r hr => nomatch hr))) | exact to_));(·intro _ _ hle;(first|exact ybf | (refine .inl ?_;(first|exact fun _ s => Hd.sub s (Le.refl _) (fun r hr => nomatch hr) | exact fun _ s => Hd.sub s hle (fun r hr => nomatch hr))) | exact to_));intro x px hle)
    obtain ⟨h5, sv, v5⟩ := x
    obtain ⟨ps, pv5⟩ := px
    have hle5 : Le h4 h5 := hle
    clear hle
    dsimp only at ps pv5 ⊢
    obtain ⟨_, ads, caps, rfl, hcaps, _⟩ := id ps
    repeat' (first|(refine ybg 2 rfl rfl rfl rfl (by show 0 + 37 + 1 ≤ (envL kk _ _ _).toArray.size;rw [List.size_toArray, envL_len hk32 r2];omega) rfl (spl_sv hk32 r2) rfl rfl ?_ ?_ ?_;(·(first|exact ybf|(refine .inl ?_;(first|exact fun _ s => Hd.sub s (Le.refl _) (fun r hr => nomatch hr)|exact fun _ s => Hd.sub s hle (fun r hr => nomatch hr)))|exact to_));(·(first|exact ybf|(refine .inl ?_;(first|exact fun _ s => Hd.sub s (Le.refl _) (fun r hr => nomatch hr)|exact fun _ s => Hd.sub s hle (fun r hr => nomatch hr)))|exact to_)))|refine t1_ ?_|(refine ta_ ?_;intro _)|((fail_if_success (refine ybi rfl ?_));refine ybj rfl ?_ ?_<;>(intro ht;rw [ht];first|replace ht := oet_ ht|replace ht := oef_ ht|skip))|(refine ych ?_;first|(refine ybw rfl ?_ ?_<;>intro ht)|(refine ybx rfl ?_ ?_<;>intro ht)))
    (refine rx_call_m (ycp Tryz.func66 rfl (by kernel_rfl) rfl) (perm_at (k := 0) rfl) (End_sp bi v5 (rdZ l).2.1 (rdZ l).2.2 h5 pv5) rfl rfl rfl ?_ ?_ ?_;(·(first|exact ybf | (refine .inl ?_;(first|exact fun _ s => Hd.sub s (Le.refl _) (fun r hr => nomatch hr) | exact fun _ s => Hd.sub s hle (fun r hr => nomatch hr))) | exact to_));(·intro _ _ hle;(first|exact ybf | (refine .inl ?_;(first|exact fun _ s => Hd.sub s (Le.refl _) (fun r hr => nomatch hr) | exact fun _ s => Hd.sub s hle (fun r hr => nomatch hr))) | exact to_));intro x px hle)
    change Bs8 h4 (.slice adp (rdP l).1.length capp) (rdP l).1 at pp
    change Bs8 h5 (.slice ads (rdZ l).1.length caps) (rdZ l).1 at ps
    have pp5 := pp.mono hle5
    have hq : (rdQ l).past = (rdP l).1 := rfl
    have R1 := eright_sp kk (rdQ l) (.slice adp (rdP l).1.length capp) (.slice ads (rdZ l).1.length caps) (rdZ l).1 hk32 h5 pp5 ps
    have hee : envL kk (rdH l).1 (.slice adp (rdP l).1.length capp) (.slice ads (rdZ l).1.length caps) = envc kk (rdQ l) (.slice adp (rdP l).1.length capp) (.slice ads (rdZ l).1.length caps) := envL_env r2
    refine rx_perm (L' := [inR bi v5 (rdZ l).2.2, Res.blk bp (.cells (ptrs be).toArray 150 (0, 0)), Res.blk be (.cells (envL kk (rdH l).1 (.slice adp (rdP l).1.length capp) (.slice ads (rdZ l).1.length caps)).toArray 90 (0, 0)), Res.blk b2 (.cells zEnv 90 (0, 0))]) (.refl _) ?_
    rw [hee]
    have hen : endC ((rdZ l).2.1, (rdZ l).2.2) = endC (rdZ l).2 := rfl
    rw [hen]
    by_cases hE : endC (rdZ l).2 = 0
    · rw [hE]
      repeat' (first|(refine ycf ?_;apply ybk;(·first|(first|exact tk_|(apply yad;(·rfl);(·exact yaz 2 rfl);(·exact envc_len hk32))));(·rfl);(·rfl))|refine t1_ ?_|(refine ta_ ?_;intro _)|((fail_if_success (refine ybi rfl ?_));refine ybj rfl ?_ ?_<;>(intro ht;rw [ht];first|replace ht := oet_ ht|replace ht := oef_ ht|skip))|(refine ych ?_;first|(refine ybw rfl ?_ ?_<;>intro ht)|(refine ybx rfl ?_ ?_<;>intro ht)))
      (refine ycn (ycp Tryz.func42 rfl (by kernel_rfl) rfl) (R1) rfl rfl rfl ?_ ?_;(·(first|exact ybf | (refine .inl ?_;(first|exact fun _ s => Hd.sub s (Le.refl _) (fun r hr => nomatch hr) | exact fun _ s => Hd.sub s hle (fun r hr => nomatch hr))) | exact to_)))
      by_cases hR : (rdQ l).ok ∧ 16 ≤ (rdZ l).1.length ∧ (rdZ l).1.length ≤ 8192
      · have hok : rdOk l := ⟨hE, hR⟩
        have hK := hkk (rdOk_key hb (by omega) hok)
        rw [decide_eq_true hR, if_pos hok, ← hK]
        repeat' (first|(refine ycf ?_;apply ybk;(·first|(first|exact tk_|(apply yad;(·rfl);(·exact yaz 2 rfl);(·exact envc_len hk32))));(·rfl);(·rfl))|(refine ybg 3 rfl rfl rfl (by show (envc kk (rdQ l) _ _).toArray.size = 38;simpa using envc_len hk32) (by show 0 + (envc kk (rdQ l) _ _).toArray.size ≤ _;rw [List.size_toArray, envc_len hk32];exact nble rfl) (List.all_eq_true.2 (envc_one rfl rfl)) (ybh (by show (envc kk (rdQ l) _ _).length = _;rw [envc_len hk32];rfl)) rfl rfl ?_ ?_ ?_;(·(first|exact ybf|(refine .inl ?_;(first|exact fun _ s => Hd.sub s (Le.refl _) (fun r hr => nomatch hr)|exact fun _ s => Hd.sub s hle (fun r hr => nomatch hr)))|exact to_));(·(first|exact ybf|(refine .inl ?_;(first|exact fun _ s => Hd.sub s (Le.refl _) (fun r hr => nomatch hr)|exact fun _ s => Hd.sub s hle (fun r hr => nomatch hr)))|exact to_)))|refine t1_ ?_|(refine ta_ ?_;intro _)|((fail_if_success (refine ybi rfl ?_));refine ybj rfl ?_ ?_<;>(intro ht;rw [ht];first|replace ht := oet_ ht|replace ht := oef_ ht|skip))|(refine ych ?_;first|(refine ybw rfl ?_ ?_<;>intro ht)|(refine ybx rfl ?_ ?_<;>intro ht)))
        refine nx_ret2 rfl (rv_cells rfl (yaz 3 rfl) (envc_len hk32)) (rv_tmp rfl) (fun w' s' => ⟨(h5, .slice adp (rdP l).1.length capp, .slice ads (rdZ l).1.length caps), ?_, s'.nil, fun _ => ⟨pp5, ps⟩⟩)
        rw [if_pos hok]
        rfl
      · have hok : ¬ rdOk l := fun q => hR q.2
        rw [decide_eq_false hR, if_neg hok]
        repeat' (first|(refine ycf ?_;apply ybk;(·first|(first|exact tk_|(apply yad;(·rfl);(·exact yaz 2 rfl);(·exact envc_len hk32))));(·rfl);(·rfl))|(refine ybg 3 rfl rfl rfl rfl (nble rfl) rfl (ybh (z := zEnv.toList) rfl) rfl rfl ?_ ?_ ?_;(·(first|exact ybf|(refine .inl ?_;(first|exact fun _ s => Hd.sub s (Le.refl _) (fun r hr => nomatch hr)|exact fun _ s => Hd.sub s hle (fun r hr => nomatch hr)))|exact to_));(·(first|exact ybf|(refine .inl ?_;(first|exact fun _ s => Hd.sub s (Le.refl _) (fun r hr => nomatch hr)|exact fun _ s => Hd.sub s hle (fun r hr => nomatch hr)))|exact to_)))|refine t1_ ?_|(refine ta_ ?_;intro _)|((fail_if_success (refine ybi rfl ?_));refine ybj rfl ?_ ?_<;>(intro ht;rw [ht];first|replace ht := oet_ ht|replace ht := oef_ ht|skip))|(refine ych ?_;first|(refine ybw rfl ?_ ?_<;>intro ht)|(refine ybx rfl ?_ ?_<;>intro ht)))
        exact nx_ret2 rfl (rv_cells rfl (yaz 3 rfl) rfl) (rv_tmp rfl) (fun w' s' => ⟨(h5, .slice none 0 0, .slice none 0 0), by rw [if_neg hok]; rfl, s'.nil, fun q => absurd q hok⟩)
    · have hok : ¬ rdOk l := fun q => hE q.1
      rw [if_neg hok]
      repeat' (first|(refine ycf ?_;apply ybk;(·first|(exact tk_));(·rfl);(·rfl))|(refine ybg 3 rfl rfl rfl rfl (nble rfl) rfl (ybh (z := zEnv.toList) rfl) rfl rfl ?_ ?_ ?_;(·(first|exact ybf|(refine .inl ?_;(first|exact fun _ s => Hd.sub s (Le.refl _) (fun r hr => nomatch hr)|exact fun _ s => Hd.sub s hle (fun r hr => nomatch hr)))|exact to_));(·(first|exact ybf|(refine .inl ?_;(first|exact fun _ s => Hd.sub s (Le.refl _) (fun r hr => nomatch hr)|exact fun _ s => Hd.sub s hle (fun r hr => nomatch hr)))|exact to_)))|refine t1_ ?_|(refine ta_ ?_;intro _)|((fail_if_success (refine ybi rfl ?_));refine ybj rfl ?_ ?_<;>(intro ht;rw [ht];first|replace ht := oet_ ht|replace ht := oef_ ht|skip))|(refine ych ?_;first|(refine ybw rfl ?_ ?_<;>intro ht)|(refine ybx rfl ?_ ?_<;>intro ht)))
      exact nx_ret2 rfl (rv_cells rfl (yaz 3 rfl) rfl) (rv_tmp rfl) (fun w' s' => ⟨(h5, .slice none 0 0, .slice none 0 0), by rw [if_neg hok]; rfl, s'.nil, fun q => absurd q hok⟩)
end Go.Proofs.YtaofgcahmfailaaGreatDoor
end

section
namespace Go.Proofs.YtaofgcahmfailaaGreatDoor
open Go Go.Ck
set_option maxHeartbeats 4000000
theorem EWrite_sp (ek : List Int) (q : Hdr) (pv sv : Value) (se : List Int) (hk32 : ek.length = 32) (hok : q.ok) (hsl : 16 ≤ se.length ∧ se.length ≤ 8192) (h : View) (hp : Bs8 h pv q.past) (hs : Bs8 h sv se) (w : World) (s : St ⟨w, h, []⟩ h [] w) :
    Calls Tryz.prog 26 [.agg (envc ek q pv sv).toArray].toArray w fun en w' => ∃ v, en = .returned (.tuple #[v, .int .i64 0]) ∧ St ⟨w, h, []⟩ h [rowB v (encE ek q se)] w' ∧ True := by
  obtain ⟨_, adp, capp, rfl, hcapp, _⟩ := id hp
  obtain ⟨_, ads, caps, rfl, hcaps, _⟩ := id hs
  have R1 := eright_sp ek q _ _ se hk32 h hp hs
  rw [decide_eq_true (⟨hok, hsl⟩ : q.ok ∧ 16 ≤ se.length ∧ se.length ≤ 8192)] at R1
  have hbl := boundF_len (q := q) hk32
  have hpl := hok.2.2.2.2
  refine calls_enter Tryz.func26 rfl Tryz.ntmps26 rfl s ?_
  repeat' (first|(refine ycf ?_;apply ybk;(·first|(first|exact tk_|(apply yad;(·rfl);(·exact yaz 0 rfl);(·exact envc_len hk32))));(·rfl);(·rfl))|(refine ybg 0 rfl rfl rfl (by show (envc ek q _ _).toArray.size = 38;simpa using envc_len hk32) (by show 0 + (envc ek q _ _).toArray.size ≤ _;rw [List.size_toArray, envc_len hk32];exact nble rfl) (List.all_eq_true.2 (envc_one rfl rfl)) (ybh (by show (envc ek q _ _).length = _;rw [envc_len hk32];rfl)) rfl rfl ?_ ?_ ?_;(·(exact to_));(·(exact to_)))|refine t1_ ?_|(refine ta_ ?_;intro _)|((fail_if_success (refine ybi rfl ?_));refine ybj rfl ?_ ?_<;>(intro ht;rw [ht];first|replace ht := oet_ ht|replace ht := oef_ ht|skip))|(refine ych ?_;first|(refine ybw rfl ?_ ?_<;>intro ht)|(refine ybx rfl ?_ ?_<;>intro ht)))
  (refine ycn (ycp Tryz.func42 rfl (by kernel_rfl) rfl) (R1) rfl rfl rfl ?_ ?_; (· (exact to_)))
  repeat' (first|(refine ycf ?_;apply ybk;(·first|(first|exact tk_|(apply yad;(·rfl);(·exact yaz 0 rfl);(·exact envc_len hk32))));(·rfl);(·rfl))|(refine ybg 0 rfl rfl rfl (by show (envc ek q _ _).toArray.size = 38;simpa using envc_len hk32) (by show 0 + (envc ek q _ _).toArray.size ≤ _;rw [List.size_toArray, envc_len hk32];exact nble rfl) (List.all_eq_true.2 (envc_one rfl rfl)) (ybh (by show (envc ek q _ _).length = _;rw [envc_len hk32];rfl)) rfl rfl ?_ ?_ ?_;(·(exact to_));(·(exact to_)))|refine t1_ ?_|(refine ta_ ?_;intro _)|((fail_if_success (refine ybi rfl ?_));refine ybj rfl ?_ ?_<;>(intro ht;rw [ht];first|replace ht := oet_ ht|replace ht := oef_ ht|skip))|(refine ych ?_;first|(refine ybw rfl ?_ ?_<;>intro ht)|(refine ybx rfl ?_ ?_<;>intro ht)))
  refine cx_region_draw' rfl (by kernel_rfl) ?_
  repeat' (refine ycf ?_;(first|(first|(apply ybm;(·(first|(first|exact tk_|(apply yad;(·rfl);(·exact yaz 0 rfl);(·exact envc_len hk32)))|exact tq_));(·rfl);(·rfl);(·(exact th_)))|refine ybl rfl rfl ?_|((fail_if_success (refine ybi rfl ?_));refine ybj rfl ?_ ?_<;>(intro ht;rw [ht];first|replace ht := oet_ ht|replace ht := oef_ ht|skip))|(refine tb_ ?_ ?_ ?_;(·(exact to_));(·intro _;(exact to_));intro _)|(first|(refine tqs_ ?_ ?_ ?_;(·(exact to_));(·(exact to_))))|(apply ybn;(·(first|(first|exact tk_|(apply yad;(·rfl);(·exact yaz 0 rfl);(·exact envc_len hk32)))|exact tq_));(·rfl);(·rfl);(·rfl);(·(exact to_))))|refine ycg ?_))
  (refine yco (ycp Tryz.func39 rfl (by kernel_rfl) rfl) (bound_sp ek q _ _ hk32 hok rfl h hp) rfl rfl rfl ?_ ?_ ?_; (· (exact to_)); (· intro _ _ hle; (exact to_)); intro x px hle)
  obtain ⟨bo, vo⟩ := x
  clear px hle
  dsimp only
  repeat' (refine ycf ?_;(first|(first|(apply ybm;(·(first|(apply yae;(·rfl);(·(exact env_seal hk32 (yaz 0 rfl))))|exact tq_));(·rfl);(·rfl);(·(exact th_)))|refine ybl rfl rfl ?_|((fail_if_success (refine ybi rfl ?_));refine ybj rfl ?_ ?_<;>(intro ht;rw [ht];first|replace ht := oet_ ht|replace ht := oef_ ht|skip))|(refine tb_ ?_ ?_ ?_;(·(exact to_));(·intro _;(exact to_));intro _)|(first|(refine tqs_ ?_ ?_ ?_;(·(exact to_));(·(exact to_))))|(apply ybn;(·(first|(apply yae;(·rfl);(·(exact env_seal hk32 (yaz 0 rfl))))|exact tq_));(·rfl);(·rfl);(·rfl);(·(exact to_))))|refine ycg ?_))
  (refine rx_call_2 (ycp Tryz.func43 rfl (by kernel_rfl) rfl) (OutBytes_sp bo vo _ false _ se (by rw [hbl]; omega) h hs) rfl rfl rfl ?_ ?_ ?_; (· (exact to_)); (· intro _ _ hle; (exact to_)); intro x px hle)
  repeat' (refine ycf ?_;(first|(first|(apply ybm;(·(first|(apply yae;(·rfl);(·(exact env_seal hk32 (yaz 0 rfl))))|exact tq_));(·rfl);(·rfl);(·(exact th_)))|refine ybl rfl rfl ?_|((fail_if_success (refine ybi rfl ?_));refine ybj rfl ?_ ?_<;>(intro ht;rw [ht];first|replace ht := oet_ ht|replace ht := oef_ ht|skip))|(refine tb_ ?_ ?_ ?_;(·(exact to_));(·intro _;(exact to_));intro _)|(first|(refine tqs_ ?_ ?_ ?_;(·(exact to_));(·(exact to_))))|(apply ybn;(·(first|(apply yae;(·rfl);(·(exact env_seal hk32 (yaz 0 rfl))))|exact tq_));(·rfl);(·rfl);(·rfl);(·(exact to_))))|refine ycg ?_))
  (refine rx_call_2 (ycp Tryz.func40 rfl (by kernel_rfl) rfl) (Done_sp bo x _ (by simp only [List.length_append, hbl, num4_len]; omega) h) rfl rfl rfl ?_ ?_ ?_; (· (exact to_)); (· intro _ _ hle; (exact to_)); intro x px hle)
  repeat' (refine ycf ?_;(first|(first|(apply ybm;(·(first|(apply yae;(·rfl);(·(exact env_seal hk32 (yaz 0 rfl))))|exact tq_));(·rfl);(·rfl);(·(exact th_)))|refine ybl rfl rfl ?_|((fail_if_success (refine ybi rfl ?_));refine ybj rfl ?_ ?_<;>(intro ht;rw [ht];first|replace ht := oet_ ht|replace ht := oef_ ht|skip))|(refine tb_ ?_ ?_ ?_;(·(exact to_));(·intro _;(exact to_));intro _)|(first|(refine tqs_ ?_ ?_ ?_;(·(exact to_));(·(exact to_))))|(apply ybn;(·(first|(apply yae;(·rfl);(·(exact env_seal hk32 (yaz 0 rfl))))|exact tq_));(·rfl);(·rfl);(·rfl);(·(exact to_))))|refine ycg ?_))
  repeat' (first|refine tw_ ?_|(refine ta_ ?_;intro _)|((fail_if_success (refine ybi rfl ?_));refine ybj rfl ?_ ?_<;>(intro ht;rw [ht];first|replace ht := oet_ ht|replace ht := oef_ ht|skip))|(refine ych ?_;first|(refine ybw rfl ?_ ?_<;>intro ht)|(refine ybx rfl ?_ ?_<;>intro ht)))
  refine nx_ret2 rfl (rv_tmp rfl) (rv_tmp rfl) (fun w' s' => ⟨_, rfl, ?_, trivial⟩)
  exact s'.picks [0]
instance tykDot : TyK Tryz.prog 45 [(3, 0), (3, 1)] := ⟨by kernel_rfl, by kernel_rfl, by kernel_rfl, by kernel_rfl⟩
end Go.Proofs.YtaofgcahmfailaaGreatDoor
end

section
namespace Go.Proofs.YtaofgcahmfailaaGreatDoor
open Go Go.Ck
set_option maxHeartbeats 1000000
structure Inv (u : List Int) (out : List Dt) : Prop where
  len : u.length = 16
  bd : ∀ x ∈ u, 0 ≤ x ∧ x ≤ 1099511627776
  mor : ∀ e ∈ out, rightB e = true ∧ uD u e + 1 < e.2
  srt : out.Pairwise fun x y => ordD x y < 0
end Go.Proofs.YtaofgcahmfailaaGreatDoor
end

section
namespace Go.Proofs.YtaofgcahmfailaaGreatDoor
open Go Go.Ck
set_option maxHeartbeats 1000000
structure GSt where
  k : Nat
  h : View
  ua : List Int
  la : List Dt
  va : Value
  ub : List Int
  lb : List Dt
  vb : Value
structure GOk (h0 : View) (L : List Dt) (g : GSt) : Prop where
  kl : g.k ≤ L.length
  le : Le h0 g.h
  ca : Inv g.ua g.la
  cb : Inv g.ub g.lb
  na : g.la.length ≤ g.k
  nb : g.lb.length ≤ g.k
  da : Ds g.h g.va g.la
  db : Ds g.h g.vb g.lb
  sa : ∀ x, rightB x = true → hasC g.ua g.la x = decide (x ∈ L.take g.k)
  sb : ∀ x, rightB x = true → hasC g.ub g.lb x = decide (x ∈ L.reverse.take g.k)
end Go.Proofs.YtaofgcahmfailaaGreatDoor
end

section
namespace Go.Proofs.YtaofgcahmfailaaGreatDoor
open Go Go.Ck
set_option maxHeartbeats 2000000
structure Sb where
  d : Dt
  u : List Int
  hu : u.length = 16
  l : List Dt
  mv : Value
  b : List Int
  bv : Value
def sbc (s : Sb) : List Value := dcs s.d ++ (cxc s.u s.mv ++ [s.bv])
def sbv (s : Sb) : Value := .agg (sbc s).toArray
theorem sbc_len (s : Sb) : (sbc s).length = 20 := by
  have := ycj (mv := s.mv) s.hu
  simp [sbc, dcs_len, this]
structure Sv (h : View) (s : Sb) : Prop where
  ds : Ds h s.mv s.l
  bs : Bs8 h s.bv s.b
  by8 : Bytes s.b
theorem Sv.mono {h h' : View} {s : Sb} (v : Sv h s) (hl : Le h h') : Sv h' s := ⟨v.ds.mono hl, v.bs.mono hl, v.by8⟩
abbrev Ab := Dt × List Int × List Dt × List Int
def Sb.a (s : Sb) : Ab := (s.d, s.u, s.l, s.b)
def Ss (h : View) (v : Value) (l : List Sb) : Prop := Sc h 20 v l.length (l.flatMap sbc) ∧ ∀ s ∈ l, Sv h s
theorem Ss.mono {h h' : View} {v : Value} {l : List Sb} (s : Ss h v l) (hl : Le h h') : Ss h' v l := ⟨s.1.mono hl, fun x hx => (s.2 x hx).mono hl⟩
section
variable {h : View} {L : List Res} {b o : Nat} {s : Sb}
theorem sb_past (c : Cells h L ⟨b, o, none⟩ (sbc s)) : Cells h L ⟨b, o + 2, none⟩ (cxc s.u s.mv) := by
  have h1 := (c.drop 2).take 17
  have h2 : ((sbc s).drop 2).take 17 = cxc s.u s.mv := by
    show (cxc s.u s.mv ++ [s.bv]).take 17 = _
    rw [List.take_append_of_le_length (by rw [ycj s.hu]; omega), List.take_of_length_le (by rw [ycj s.hu]; omega)]
  rwa [h2] at h1
theorem sb_dot (c : Cells h L ⟨b, o, none⟩ (sbc s)) : Cells h L ⟨b, o, none⟩ (dcs s.d) := c.take 2
theorem sb_nu (c : Cells h L ⟨b, o, none⟩ (sbc s)) : CellAt h L b (o + 1) (.int .i64 s.d.2) := c.cell rfl
theorem sb_body (c : Cells h L ⟨b, o, none⟩ (sbc s)) : CellAt h L b (o + 19) s.bv := by
  refine c.cell ?_
  show (cxc s.u s.mv ++ [s.bv])[17]? = _
  rw [List.getElem?_append_right (by rw [ycj s.hu]; omega), ycj s.hu]
  rfl
theorem sb_body' {v : Value} (c : Cells h L ⟨b, o, none⟩ (sbc s)) (e : s.bv = v) : CellAt h L b (o + 19) v := e ▸ sb_body c
end
theorem sbc_sz (s : Sb) : (Value.agg (sbc s).toArray).cells.size = 20 := by
  show (sbc s).toArray.size = 20
  simpa using sbc_len s
theorem sbc_fit {s : Sb} {cs : Array Value} (h : cs.size = 20) : 0 + (Value.agg (sbc s).toArray).cells.size ≤ cs.size := by rw [sbc_sz, h]; omega
theorem sbc_all {s : Sb} {cs : List Value} (h : cs.length = 20) : (Value.agg (sbc s).toArray).cells.toList.length = cs.length := by
  rw [h]
  exact sbc_len s
theorem sbc_one {s : Sb} (h1 : s.mv.oneCell' = true) (h2 : s.bv.oneCell' = true) : (Value.agg (sbc s).toArray).cells.toList.all Value.oneCell' = true := by
  show (sbc s).all Value.oneCell' = true
  have h3 := cxc_one (u := s.u) h1
  have h4 : (cxc s.u s.mv).all Value.oneCell' = true := h3
  simp only [sbc, List.all_append, h4, List.all_cons, List.all_nil, h2, Bool.and_true, dcs]
  rfl
theorem Sv.one {h : View} {s : Sb} (v : Sv h s) : s.mv.oneCell' = true ∧ s.bv.oneCell' = true := by
  obtain ⟨_, _, _, e1, _⟩ := v.ds
  obtain ⟨_, _, _, e2, _⟩ := v.bs
  rw [e1, e2]
  exact ⟨rfl, rfl⟩
end Go.Proofs.YtaofgcahmfailaaGreatDoor
end

section
namespace Go.Proofs.YtaofgcahmfailaaGreatDoor
open Go Go.Ck
set_option maxHeartbeats 2000000
section
variable {h : View} {L : List Res}
end
def KF (l m : List Sb) : Prop := ∀ d : Dt, l.filter (fun x => decide (x.d = d)) = m.filter (fun x => decide (x.d = d))
theorem KF.refl (l : List Sb) : KF l l := fun _ => rfl
theorem KF.symm {l m : List Sb} (h : KF l m) : KF m l := fun d => (h d).symm
theorem KF.trans {l m n : List Sb} (h : KF l m) (k : KF m n) : KF l n := fun d => (h d).trans (k d)
theorem KF.move {x : Sb} : ∀ {l : List Sb}, (∀ y ∈ l, y.d ≠ x.d) → KF (l ++ [x]) (x :: l)
  | [], _ => KF.refl _
  | y :: l, h => fun d => by
    have ih := KF.move (l := l) (fun z hz => h z (List.mem_cons_of_mem _ hz)) d
    have hy := h y (List.mem_cons_self ..)
    rw [List.cons_append, List.filter_cons, ih]
    by_cases e1 : x.d = d
    · have e2 : y.d ≠ d := fun e => hy (e.trans e1.symm)
      simp [e1, e2]
    · simp [List.filter_cons, e1]
theorem KF.perm {l m : List Sb} (h : KF l m) : l.Perm m := by
  classical
  refine List.perm_iff_count.2 fun x => ?_
  have h1 := h x.d
  have e1 := List.count_filter (p := fun y : Sb => decide (y.d = x.d)) (a := x) (l := l) (by simp)
  have e2 := List.count_filter (p := fun y : Sb => decide (y.d = x.d)) (a := x) (l := m) (by simp)
  rw [← e1, ← e2, h1]
theorem KF.len {l m : List Sb} (h : KF l m) : l.length = m.length := h.perm.length_eq
theorem KF.swap {a b : List Sb} (h : ∀ x ∈ a, ∀ y ∈ b, y.d ≠ x.d) : KF (a ++ b) (b ++ a) := fun d => by
  rw [List.filter_append, List.filter_append]
  by_cases h1 : ∃ x ∈ a, x.d = d
  · obtain ⟨x, hx, rfl⟩ := h1
    have : b.filter (fun y => decide (y.d = x.d)) = [] := List.filter_eq_nil_iff.2 fun y hy => by simpa using h x hx y hy
    rw [this, List.append_nil, List.nil_append]
  · have : a.filter (fun y => decide (y.d = d)) = [] := List.filter_eq_nil_iff.2 fun y hy => by simpa using fun e => h1 ⟨y, hy, e⟩
    rw [this, List.append_nil, List.nil_append]
end Go.Proofs.YtaofgcahmfailaaGreatDoor
end

section
namespace Go.Proofs.YtaofgcahmfailaaGreatDoor
open Go Go.Ck
set_option maxHeartbeats 4000000
theorem sbc_more (x : Sb) : (sbc x)[18]? = some x.mv := by
  show (cxc x.u x.mv ++ [x.bv])[16]? = _
  rw [List.getElem?_append_left (by rw [ycj x.hu]; omega)]
  exact cxc_more x.hu
theorem sb_more {h : View} {L : List Res} {b : Nat} {x : Sb} {v : Value} (c : Cells h L ⟨b, 0, none⟩ (sbc x)) (e : x.mv = v) : CellAt h L b (0 + 2 + 16) v := by
  subst e
  exact c.cell (j := 18) (sbc_more x)
theorem sb_body0 {h : View} {L : List Res} {b : Nat} {x : Sb} {v : Value} (c : Cells h L ⟨b, 0, none⟩ (sbc x)) (e : x.bv = v) : CellAt h L b (0 + 19) v := sb_body' c e
end Go.Proofs.YtaofgcahmfailaaGreatDoor
end

section
namespace Go.Proofs.YtaofgcahmfailaaGreatDoor
open Go Go.Ck
set_option maxHeartbeats 4000000
theorem cells_up2 {h : View} {L : List Res} {b o : Nat} {u : List Int} {mv : Value} (c : Cells h L ⟨b, o, none⟩ (cxc u mv)) : Cells h L ⟨b, o, none⟩ (up u) := by
  have := c.take (up u).length
  simpa [cxc] using this
end Go.Proofs.YtaofgcahmfailaaGreatDoor
end

section
namespace Go.Proofs.YtaofgcahmfailaaGreatDoor
open Go Go.Ck
set_option maxHeartbeats 4000000
section
variable {P : Program} {n : Nat} {K : Bs} {F : List (Nat × Value)} {h : View} {L : List Res} {Q : Exit → Act → World → Prop}
variable {dst : Option Nat} {ty : Nat} {pos : String} {af : Array Edge} {gd : Option (Nat × Bool)}
theorem bytes_at {l : List Int} (hb : Bytes l) (cap : Nat) (j : Nat) (u : Value) (hj : (bcs l)[j]? = some u) : (bytesRow (bstr l) cap)[j]? = some u := by
  have hjl : j < l.length := by
    have := (List.getElem?_eq_some_iff.1 hj).1
    rwa [bcs_len] at this
  have hs : j < (bstr l).data.size := by simp [bstr, hjl]
  rw [bytesRow_at _ _ _ hs, ← hj]
  have hc := hb l[j] (List.getElem_mem hjl)
  have e1 : (bcs l)[j]? = some (.int .u8 l[j]) := by simp [bcs, hjl]
  rw [e1]
  have e2 : (bstr l).data[j] = UInt8.ofNat l[j].toNat := by simp [bstr]
  rw [e2]
  congr 2
  simp
  omega
theorem rx_bytes_of {g : Rg} {i : Nat} {r : List (Nat × Oper)} {S D e : Nat} {x : Operand} {l : List Int} [tS : TyU P S .string] [tD : TyU P D (.slice e)] [te : TyU P e (.int .u8)] (hA : K.A = []) (hx : ev F x = some (.string (bstr l))) (hb : Bytes l)
    (hw : wantedF g.ops F ⟨dst, .convert S D x, ty, pos, af, gd⟩ = some true) (hd : okd n dst = true) (hl : g.lo i = true) (o1 : Owe g i h L) (o2 : ∀ h', Le h h' → Owe g i h' L)
    (hn : ∀ h' v, Le h h' → Bs8 h' v l → RX P n K g r (putF dst v F) h' L Q) : RX P n K g ((i, ⟨dst, .convert S D x, ty, pos, af, gd⟩) :: r) F h L Q := by
  unfold RX at *
  intro a w f s
  have hrun := run_bytes_of_string (P := P) w S D e (bstr l) tS.u tD.u te.u
  obtain ⟨cap, hcap⟩ : ∃ cap, cap = grownCap w (bstr l).size 0 e := ⟨_, rfl⟩
  have hge : (bstr l).size ≤ cap := by rw [hcap]; exact grownCap_ge ..
  rw [← hcap] at hrun
  have s1 := s.drew.alloc (.cells (bytesRow (bstr l) cap) e ((bytesRow (bstr l) cap).size, (bytesRow (bstr l) cap).size + 1))
  have hnone : h w.heap.size = none := s1.dis _ (by rw [doms_cons]; exact List.mem_append_left _ (List.mem_singleton.2 rfl))
  have s2 := s1.persist hA
  have hle := Le.addV (o := .cells (bytesRow (bstr l) cap) e ((bytesRow (bstr l) cap).size, (bytesRow (bstr l) cap).size + 1)) hnone
  refine .inr (.inr ⟨wantedF_ok f hw, hl, o1.out s, ?_⟩)
  unfold Oper.wp
  have he : (execOp a.eval ⟨dst, .convert S D x, ty, pos, af, gd⟩).run P w = .ok (.value (.slice (some ⟨w.heap.size, 0, none⟩) (bstr l).size cap)) (w.drew.alloc (.cells (bytesRow (bstr l) cap) e ((bytesRow (bstr l) cap).size, (bytesRow (bstr l) cap).size + 1))) := by
    simp only [execOp, f.ev hx, Sem.run_bind, hrun]
    rfl
  rw [he]
  refine ⟨(o2 _ hle).out s2, hn _ _ hle ?_ _ _ (f.put hd _) s2⟩
  refine ⟨by rw [bcs_len]; simp, some ⟨w.heap.size, 0, none⟩, cap, by rw [bstr_size], by rwa [bstr_size] at hge, .inr ⟨w.heap.size, 0, _, _, _, rfl, addV_same, fun j u hj => ?_⟩⟩
  rw [Nat.zero_add]
  exact bytes_at hb cap j u hj
end
structure Rv (h : View) (s : Sb) : Prop where
  ds : Ds h s.mv s.l
  bs : s.bv = .string (bstr s.b)
  by8 : Bytes s.b
theorem Rv.mono {h h' : View} {s : Sb} (v : Rv h s) (hl : Le h h') : Rv h' s := ⟨v.ds.mono hl, v.bs, v.by8⟩
theorem Rv.one {h : View} {s : Sb} (v : Rv h s) : s.mv.oneCell' = true ∧ s.bv.oneCell' = true := by
  obtain ⟨_, _, _, e1, _⟩ := v.ds
  rw [e1, v.bs]
  exact ⟨rfl, rfl⟩
def Rs (h : View) (v : Value) (l : List Sb) : Prop := Sc h 20 v l.length (l.flatMap sbc) ∧ ∀ s ∈ l, Rv h s
theorem Rs.mono {h h' : View} {v : Value} {l : List Sb} (s : Rs h v l) (hl : Le h h') : Rs h' v l := ⟨s.1.mono hl, fun x hx => (s.2 x hx).mono hl⟩
end Go.Proofs.YtaofgcahmfailaaGreatDoor
end
