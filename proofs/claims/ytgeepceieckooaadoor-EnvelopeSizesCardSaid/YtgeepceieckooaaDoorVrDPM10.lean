/-
  Part 10 of a proof: VaJ VaK VaL VaM VaN HmA.
  Conditions: each theorem states its own.
-/
import Derived.Test.YtgeepceieckooaaDoorVrDPM9
section
namespace Go.Proofs.YtgeepceieckooaaDoor
open Go Go.Ck
set_option maxRecDepth 100000
set_option maxHeartbeats 4000000
set_option linter.unusedVariables false
abbrev useV : UseK → Value := fun a => Value.agg (useA a)
abbrev seaV : SeaK → Value := fun a => Value.agg (seaA a)
def usL (U : List UseK) : List (UseK × Value) := U.map fun x => (x, .bool true)
abbrev usR (bu : Nat) (U : List UseK) : Res := Res.mp useV bu (usL U)
abbrev Tab := List (SeaK × Value × List Int)
def tbL (T : Tab) : List (SeaK × Value) := T.map fun x => (x.1, x.2.1)
abbrev tbR (bt : Nat) (T : Tab) : Res := Res.mp seaV bt (tbL T)
theorem usL_get (U : List UseK) (a : UseK) : mget (usL U) a = if a ∈ U then some (.bool true) else none := by
  induction U with
  | nil => rfl
  | cons y U ih =>
    show (if a = y then some (Value.bool true) else mget (usL U) a) = _
    by_cases h : a = y
    · rw [if_pos h, if_pos (by rw [h]; exact List.mem_cons_self ..)]
    · rw [if_neg h, ih]
      have : (a ∈ y :: U) ↔ a ∈ U := by simp [h]
      simp only [this]
theorem usL_put {U : List UseK} {a : UseK} (h : a ∉ U) : mput (usL U) a (.bool true) = usL (U ++ [a]) := by
  rw [mput_new (by rw [usL_get, if_neg h])]
  simp [usL]
theorem usL_len (U : List UseK) : (usL U).length = U.length := by simp [usL]
def Held (U : List UseK) (T : Tab) : Prop := ∀ x ∈ T, (x.1.1, x.1.2.1) ∈ U
def TbOk (h : View) (T : Tab) : Prop := ∀ x ∈ T, Bs8 h x.2.1 x.2.2
theorem TbOk.mono {h h' : View} {T : Tab} (s : TbOk h T) (hl : Le h h') : TbOk h' T := fun x hx => (s x hx).mono hl
theorem tbL_new {U : List UseK} {T : Tab} (hh : Held U T) {k : SeaK} (hk : (k.1, k.2.1) ∉ U) : mget (tbL T) k = none := by
  rw [mget_none]
  intro x hx e
  obtain ⟨y, hy, rfl⟩ := List.mem_map.1 hx
  have e : y.1 = k := e
  exact hk (e ▸ hh y hy)
theorem tbL_put {U : List UseK} {T : Tab} (hh : Held U T) {k : SeaK} (hk : (k.1, k.2.1) ∉ U) (v : Value) (b : List Int) : mput (tbL T) k v = tbL (T ++ [(k, v, b)]) := by
  rw [mput_new (tbL_new hh hk)]
  simp [tbL]
theorem Held.add {U : List UseK} {T : Tab} (hh : Held U T) (k : SeaK) (v : Value) (b : List Int) : Held (U ++ [(k.1, k.2.1)]) (T ++ [(k, v, b)]) := fun x hx => by
  rcases List.mem_append.1 hx with hx | hx
  · exact List.mem_append_left _ (hh x hx)
  · rw [List.mem_singleton.1 hx]
    exact List.mem_append_right _ (List.mem_singleton.2 rfl)
def sealF (key : List Int) (U : List UseK) (b : List Int) : List Int := drawF key 1 (U.length + 1) (b.length + 16)
theorem VSeal_sp (bv : Nat) (key : List Int) (bn bu bt : Nat) (U : List UseK) (T : Tab) (ep c n : Int) (vw vb : Value) (wi b : List Int) (hk : Bytes key) (hk32 : key.length = 32) (hU : U.length < 900000) (hT : Held U T) (hok : sealOk ep c n) (hnew : (c, n) ∉ U) (hbl : b.length ≤ 5000)
    (h : View) (hv : Vb h bv true key bn bu bt) (hw : Bs8 h vw wi) (hb : Bs8 h vb b) (w : World) (s : St ⟨w, h, doms [usR bu U, tbR bt T]⟩ h [usR bu U, tbR bt T] w) :
    Calls Tryd.prog 19 [.pointer (some ⟨bv, 0, none⟩), .int .i64 ep, .int .i64 c, .int .i64 n, vw, vb].toArray w fun e w' => ∃ x : View × Value × Value, e = .returned (.tuple #[x.2.1, .int .i64 0]) ∧
      St ⟨w, h, doms [usR bu U, tbR bt T]⟩ x.1 [rowB x.2.1 (sealF key U b), usR bu (U ++ [(c, n)]), tbR bt (T ++ [((c, n, ep, bstr wi, bstr (sealF key U b)), x.2.2, b)])] w' ∧ Bs8 x.1 x.2.2 b := by
  obtain ⟨_, adw, capw, rfl, hcapw, _⟩ := id hw
  obtain ⟨_, adb, capb, rfl, hcapb, _⟩ := id hb
  have R1 := vright_sp ep c n h
  rw [if_pos hok] at R1
  refine calls_enter Tryd.func19 rfl Tryd.ntmps19 rfl s ?_
  repeat' (first|(refine ycf ?_;apply ybk;(·first|(first|exact tk_|(apply qv_eql_pnil<;>rfl)|(apply qv_nilCheck;rfl))|(apply yae;(·rfl);(·(first|exact hv.at hk32 (.inl ⟨rfl, rfl⟩)|exact hv.at hk32 (.inr (.inr (.inl ⟨rfl, rfl⟩)))|exact hv.at hk32 (.inr (.inr (.inr ⟨rfl, rfl⟩)))))));(·rfl);(·rfl))|refine t1_ ?_|(refine ta_ ?_;intro _)|((fail_if_success (refine ybi rfl ?_));refine ybj rfl ?_ ?_<;>(intro ht;rw [ht];first|replace ht := oet_ ht|replace ht := oef_ ht|skip))|(refine ych ?_;first|(refine ybw rfl ?_ ?_<;>intro ht)|(refine ybx rfl ?_ ?_<;>intro ht)))
  (refine ycn (ycp Tryd.func32 rfl (by kernel_rfl) rfl) (R1) rfl rfl rfl ?_ ?_; (· (exact to_)))
  repeat' (first|(refine ycf ?_;apply ybk;(·first|(first|exact tk_|(apply qv_eql_pnil<;>rfl)|(apply qv_nilCheck;rfl))|(apply yae;(·rfl);(·(first|exact hv.at hk32 (.inl ⟨rfl, rfl⟩)|exact hv.at hk32 (.inr (.inr (.inl ⟨rfl, rfl⟩)))|exact hv.at hk32 (.inr (.inr (.inr ⟨rfl, rfl⟩)))))));(·rfl);(·rfl))|refine t1_ ?_|(refine ta_ ?_;intro _)|((fail_if_success (refine ybi rfl ?_));refine ybj rfl ?_ ?_<;>(intro ht;rw [ht];first|replace ht := oet_ ht|replace ht := oef_ ht|skip))|(refine ych ?_;first|(refine ybw rfl ?_ ?_<;>intro ht)|(refine ybx rfl ?_ ?_<;>intro ht)))
  have hu0 : (mget (usL U) ((c, n) : UseK)).getD (.bool false) = .bool false := by rw [usL_get, if_neg hnew]; rfl
  refine cx_region_draw' rfl (by kernel_rfl) ?_
  repeat' (refine ycf ?_;(first|(first|(apply ybm;(·(first|(first|exact tk_|(apply qv_nilCheck;rfl)|(refine qv_lookup (a := ((c, n) : UseK)) 1 use_kl rfl rfl rfl hu0))|(apply yae;(·rfl);(·(first|exact hv.at hk32 (.inl ⟨rfl, rfl⟩)|exact hv.at hk32 (.inr (.inr (.inl ⟨rfl, rfl⟩)))|exact hv.at hk32 (.inr (.inr (.inr ⟨rfl, rfl⟩))))))|exact tq_));(·rfl);(·rfl);(·(exact th_)))|refine ybl rfl rfl ?_|((fail_if_success (refine ybi rfl ?_));refine ybj rfl ?_ ?_<;>(intro ht;rw [ht];first|replace ht := oet_ ht|replace ht := oef_ ht|skip))|(refine tb_ ?_ ?_ ?_;(·(exact to_));(·intro _;(exact to_));intro _)|(first|(refine tqs_ ?_ ?_ ?_;(·(exact to_));(·(exact to_))))|(apply ybn;(·(first|(first|exact tk_|(apply qv_nilCheck;rfl)|(refine qv_lookup (a := ((c, n) : UseK)) 1 use_kl rfl rfl rfl hu0))|(apply yae;(·rfl);(·(first|exact hv.at hk32 (.inl ⟨rfl, rfl⟩)|exact hv.at hk32 (.inr (.inr (.inl ⟨rfl, rfl⟩)))|exact hv.at hk32 (.inr (.inr (.inr ⟨rfl, rfl⟩))))))|exact tq_));(·rfl);(·rfl);(·rfl);(·(exact to_))))|refine ycg ?_))
  repeat' (first|(refine ycf ?_;apply ybk;(·first|(first|exact tk_|(apply qv_nilCheck;rfl))|(apply yae;(·rfl);(·(first|exact hv.at hk32 (.inl ⟨rfl, rfl⟩)|exact hv.at hk32 (.inr (.inr (.inl ⟨rfl, rfl⟩)))|exact hv.at hk32 (.inr (.inr (.inr ⟨rfl, rfl⟩)))))));(·rfl);(·rfl))|refine t1_ ?_|(refine ta_ ?_;intro _)|((fail_if_success (refine ybi rfl ?_));refine ybj rfl ?_ ?_<;>(intro ht;rw [ht];first|replace ht := oet_ ht|replace ht := oef_ ht|skip))|(refine ych ?_;first|(refine ybw rfl ?_ ?_<;>intro ht)|(refine ybx rfl ?_ ?_<;>intro ht)))
  refine cx_region_draw' rfl (by kernel_rfl) ?_
  repeat' (refine ycf ?_;(first|(first|(apply ybm;(·(first|(first|exact tk_|(apply qv_nilCheck;rfl))|(apply yae;(·rfl);(·(first|exact hv.at hk32 (.inl ⟨rfl, rfl⟩)|exact hv.at hk32 (.inr (.inr (.inl ⟨rfl, rfl⟩)))|exact hv.at hk32 (.inr (.inr (.inr ⟨rfl, rfl⟩))))))|exact tq_));(·rfl);(·rfl);(·(exact th_)))|refine ybl rfl rfl ?_|((fail_if_success (refine ybi rfl ?_));refine ybj rfl ?_ ?_<;>(intro ht;rw [ht];first|replace ht := oet_ ht|replace ht := oef_ ht|skip))|(refine tb_ ?_ ?_ ?_;(·(exact to_));(·intro _;(exact to_));intro _)|(first|(refine tqs_ ?_ ?_ ?_;(·(exact to_));(·(exact to_))))|(apply ybn;(·(first|(first|exact tk_|(apply qv_nilCheck;rfl))|(apply yae;(·rfl);(·(first|exact hv.at hk32 (.inl ⟨rfl, rfl⟩)|exact hv.at hk32 (.inr (.inr (.inl ⟨rfl, rfl⟩)))|exact hv.at hk32 (.inr (.inr (.inr ⟨rfl, rfl⟩))))))|exact tq_));(·rfl);(·rfl);(·rfl);(·(exact to_))))|refine ycg ?_))
  refine rx_mapUpdate (a := ((c, n) : UseK)) 1 use_kl rfl rfl rfl rfl rfl rfl ?_ ?_ ?_
  · (exact to_)
  · exact .inr (by kernel_rfl)
  rw [usL_put hnew]
  have hU2 : (usL (U ++ [((c, n) : UseK)])).length = U.length + 1 := by rw [usL_len, List.length_append]; rfl
  have hkey : sealF key U b = drawF key 1 (usL (U ++ [((c, n) : UseK)])).length (b.length + 16) := by rw [hU2]; rfl
  have hlen1 : (usL (U ++ [((c, n) : UseK)])).length < 1000000 := by omega
  generalize hU3 : U ++ [((c, n) : UseK)] = U2 at hkey hlen1 hU2 ⊢
  repeat' (refine ycf ?_;(first|(first|(apply ybm;(·(first|(first|exact tk_|(apply qv_nilCheck;rfl))|(apply yae;(·rfl);(·(first|exact hv.at hk32 (.inl ⟨rfl, rfl⟩)|exact hv.at hk32 (.inr (.inr (.inl ⟨rfl, rfl⟩)))|exact hv.at hk32 (.inr (.inr (.inr ⟨rfl, rfl⟩))))))|exact tq_));(·rfl);(·rfl);(·(exact th_)))|refine ybl rfl rfl ?_|((fail_if_success (refine ybi rfl ?_));refine ybj rfl ?_ ?_<;>(intro ht;rw [ht];first|replace ht := oet_ ht|replace ht := oef_ ht|skip))|(refine tb_ ?_ ?_ ?_;(·(exact to_));(·intro _;(exact to_));intro _)|(first|(refine tqs_ ?_ ?_ ?_;(·(exact to_));(·(exact to_))))|(apply ybn;(·(first|(first|exact tk_|(apply qv_nilCheck;rfl))|(apply yae;(·rfl);(·(first|exact hv.at hk32 (.inl ⟨rfl, rfl⟩)|exact hv.at hk32 (.inr (.inr (.inl ⟨rfl, rfl⟩)))|exact hv.at hk32 (.inr (.inr (.inr ⟨rfl, rfl⟩))))))|exact tq_));(·rfl);(·rfl);(·rfl);(·(exact to_))))|refine ycg ?_))
  have wl : IntKind.i64.wrap ((b.length : Nat) + 16 : Int) = ((b.length + 16 : Nat) : Int) := by rw [IntKind.wrap_i64]<;>omega
  repeat' (first|(refine ycf ?_;apply ybk;(·first|(first|exact tk_|(apply qv_nilCheck;rfl)|(refine qv_len_map 1 rfl rfl)|(refine qv_addr rfl rfl wl))|(apply yae;(·rfl);(·(first|exact hv.at hk32 (.inl ⟨rfl, rfl⟩)|exact hv.at hk32 (.inr (.inr (.inl ⟨rfl, rfl⟩)))|exact hv.at hk32 (.inr (.inr (.inr ⟨rfl, rfl⟩)))))));(·rfl);(·rfl))|refine t1_ ?_|(refine ta_ ?_;intro _)|((fail_if_success (refine ybi rfl ?_));refine ybj rfl ?_ ?_<;>(intro ht;rw [ht];first|replace ht := oet_ ht|replace ht := oef_ ht|skip))|(refine ych ?_;first|(refine ybw rfl ?_ ?_<;>intro ht)|(refine ybx rfl ?_ ?_<;>intro ht)))
  (refine yco (ycp Tryd.func28 rfl (by kernel_rfl) rfl) (draw_sp bv true key bn bu bt 1 (usL U2).length (b.length + 16) hk hk32 (by omega) hlen1 (by omega) h hv) rfl rfl rfl ?_ ?_ ?_; (· (exact to_)); (· intro _ _ hle; (exact to_)); intro x px hle)
  rw [← hkey]
  have hol : (sealF key U b).length = b.length + 16 := drawF_len _ _ _ _ (by omega)
  generalize sealF key U b = out at hkey hol ⊢
  refine rx_rowform 0 rfl (fun _ h1 _ => (by omega)) ?_
  rintro go capo rfl
  clear px hle
  repeat' (first|(refine ycf ?_;apply ybk;(·first|(first|exact tk_|(apply qv_nilCheck;rfl)|(refine qv_str_bs rfl hw)|(refine qv_str_of (l := out) rfl (row_cells 0 rfl)))|(apply yae;(·rfl);(·(first|exact hv.at hk32 (.inl ⟨rfl, rfl⟩)|exact hv.at hk32 (.inr (.inr (.inl ⟨rfl, rfl⟩)))|exact hv.at hk32 (.inr (.inr (.inr ⟨rfl, rfl⟩)))))));(·rfl);(·rfl))|refine t1_ ?_|(refine ta_ ?_;intro _)|((fail_if_success (refine ybi rfl ?_));refine ybj rfl ?_ ?_<;>(intro ht;rw [ht];first|replace ht := oet_ ht|replace ht := oef_ ht|skip))|(refine ych ?_;first|(refine ybw rfl ?_ ?_<;>intro ht)|(refine ybx rfl ?_ ?_<;>intro ht)))
  refine cx_region_drawY [12, 13] rfl (by kernel_rfl) ?_
  repeat' (refine ycf ?_;(first|(first|(apply ybm;(·(first|(first|exact tk_|(apply qv_nilCheck;rfl)|(refine qv_str_bs rfl hw)|(refine qv_str_of (l := out) rfl (row_cells 0 rfl)))|(apply yae;(·rfl);(·(first|exact hv.at hk32 (.inl ⟨rfl, rfl⟩)|exact hv.at hk32 (.inr (.inr (.inl ⟨rfl, rfl⟩)))|exact hv.at hk32 (.inr (.inr (.inr ⟨rfl, rfl⟩))))))|exact tq_));(·rfl);(·rfl);(·(exact th_)))|refine ybl rfl rfl ?_|((fail_if_success (refine ybi rfl ?_));refine ybj rfl ?_ ?_<;>(intro ht;rw [ht];first|replace ht := oet_ ht|replace ht := oef_ ht|skip))|(refine tb_ ?_ ?_ ?_;(·(exact to_));(·intro _;(exact to_));intro _)|(first|(refine tqs_ ?_ ?_ ?_;(·(exact to_));(·(exact to_))))|(apply ybn;(·(first|(first|exact tk_|(apply qv_nilCheck;rfl)|(refine qv_str_bs rfl hw)|(refine qv_str_of (l := out) rfl (row_cells 0 rfl)))|(apply yae;(·rfl);(·(first|exact hv.at hk32 (.inl ⟨rfl, rfl⟩)|exact hv.at hk32 (.inr (.inr (.inl ⟨rfl, rfl⟩)))|exact hv.at hk32 (.inr (.inr (.inr ⟨rfl, rfl⟩))))))|exact tq_));(·rfl);(·rfl);(·rfl);(·(exact to_))))|refine ycg ?_))
  (refine yco (ycp Tryd.func31 rfl (by kernel_rfl) rfl) (BClone_sp _ b h hb (by omega)) rfl rfl rfl ?_ ?_ ?_; (· (exact to_)); (· intro _ _ hle; (exact to_)); intro x px hle)
  refine rx_persistA (by intro z hz; simp only [doms, List.flatMap_cons, List.flatMap_nil, List.mem_append, Res.mp, List.mem_singleton] at hz ⊢; simp; rcases hz with hz | hz; (· simp_all); (· simp_all)) fun h1 hle1 hv1 => ?_
  refine rx_mapUpdate (a := ((c, n, ep, bstr wi, bstr out) : SeaK)) 3 sea_kl rfl rfl rfl rfl rfl rfl ?_ ?_ ?_
  · exact .inl (fun _ s => Hd.sub s hle1 (fun r hr => hr))
  · exact .inr (by kernel_rfl)
  have hput : mput (tbL T) ((c, n, ep, bstr wi, bstr out) : SeaK) x = tbL (T ++ [((c, n, ep, bstr wi, bstr out), x, b)]) := tbL_put hT hnew x b
  rw [hput]
  repeat' (refine ycf ?_;(first|(first|(apply ybm;(·(first|(exact tk_)|exact tq_));(·rfl);(·rfl);(·(exact th_)))|refine ybl rfl rfl ?_|((fail_if_success (refine ybi rfl ?_));refine ybj rfl ?_ ?_<;>(intro ht;rw [ht];first|replace ht := oet_ ht|replace ht := oef_ ht|skip))|(refine tb_ ?_ ?_ ?_;(·(exact to_));(·intro _;(exact to_));intro _)|(first|(refine tqs_ ?_ ?_ ?_;(·(exact to_));(·(exact to_))))|(apply ybn;(·(first|(exact tk_)|exact tq_));(·rfl);(·rfl);(·rfl);(·(exact to_))))|refine ycg ?_))
  repeat' (first|(refine ycf ?_;apply ybk;(·first|(exact tk_));(·rfl);(·rfl))|refine t1_ ?_|(refine ta_ ?_;intro _)|((fail_if_success (refine ybi rfl ?_));refine ybj rfl ?_ ?_<;>(intro ht;rw [ht];first|replace ht := oet_ ht|replace ht := oef_ ht|skip))|(refine ych ?_;first|(refine ybw rfl ?_ ?_<;>intro ht)|(refine ybx rfl ?_ ?_<;>intro ht)))
  refine nx_ret2 rfl (rv_tmp rfl) (rv_tmp rfl) (fun w' s' => ⟨(h1, _, x), rfl, ?_, hv1⟩)
  exact (s'.perm (perm_at (k := 1) rfl)).tl
end Go.Proofs.YtgeepceieckooaaDoor
end

section
namespace Go.Proofs.YtgeepceieckooaaDoor
open Go Go.Ck
set_option maxRecDepth 100000
set_option maxHeartbeats 4000000
set_option linter.unusedVariables false
theorem tbL_get (T : Tab) (k : SeaK) : mget (tbL T) k = (mget T k).map (·.1) := by
  induction T with
  | nil => rfl
  | cons y T ih =>
    show (if k = y.1 then some y.2.1 else mget (tbL T) k) = Option.map _ (if k = y.1 then some y.2 else mget T k)
    split
    · rfl
    · exact ih
theorem VOpen_some (bv : Nat) (key : List Int) (bn bu bt : Nat) (T : Tab) (ep c n : Int) (vw vs : Value) (wi se : List Int) (x : Value × List Int) (hk32 : key.length = 32) (hok : sealOk ep c n) (hsl : 16 ≤ se.length)
    (hx : mget T (c, n, ep, bstr wi, bstr se) = some x) (hxl : x.2.length ≤ 1000000) (h : View) (hT : TbOk h T) (hv : Vb h bv true key bn bu bt) (hw : Bs8 h vw wi) (hb : Bs8 h vs se) (w : World) (s : St ⟨w, h, doms [tbR bt T]⟩ h [tbR bt T] w) :
    Calls Tryd.prog 21 [.pointer (some ⟨bv, 0, none⟩), .int .i64 ep, .int .i64 c, .int .i64 n, vw, vs].toArray w fun e w' => ∃ v, e = .returned (.tuple #[v, .int .i64 0]) ∧ St ⟨w, h, doms [tbR bt T]⟩ h [rowB v x.2, tbR bt T] w' ∧ True := by
  obtain ⟨_, adw, capw, rfl, hcapw, _⟩ := id hw
  obtain ⟨_, ads, caps, rfl, hcaps, _⟩ := id hb
  have R1 := vright_sp ep c n h
  rw [if_pos hok] at R1
  have hxb : Bs8 h x.1 x.2 := hT _ (mget_mem hx)
  have hg : mget (tbL T) ((c, n, ep, bstr wi, bstr se) : SeaK) = some x.1 := by rw [tbL_get, hx]; rfl
  have hg1 : (mget (tbL T) ((c, n, ep, bstr wi, bstr se) : SeaK)).getD (.slice none 0 0) = x.1 := by rw [hg]; rfl
  have hg2 : (mget (tbL T) ((c, n, ep, bstr wi, bstr se) : SeaK)).isSome = true := by rw [hg]; rfl
  obtain ⟨xv, xb⟩ := x
  dsimp only at hxb hg1 hxl ⊢
  obtain ⟨_, adx, capx, rfl, hcapx, _⟩ := id hxb
  refine calls_enter Tryd.func21 rfl Tryd.ntmps21 rfl s ?_
  repeat' (first|(refine ycf ?_;apply ybk;(·first|(first|exact tk_|(apply qv_eql_pnil<;>rfl)|(apply qv_nilCheck;rfl))|(apply yae;(·rfl);(·(first|exact hv.at hk32 (.inl ⟨rfl, rfl⟩)|exact hv.at hk32 (.inr (.inr (.inr ⟨rfl, rfl⟩)))))));(·rfl);(·rfl))|refine t1_ ?_|(refine ta_ ?_;intro _)|((fail_if_success (refine ybi rfl ?_));refine ybj rfl ?_ ?_<;>(intro ht;rw [ht];first|replace ht := oet_ ht|replace ht := oef_ ht|skip))|(refine ych ?_;first|(refine ybw rfl ?_ ?_<;>intro ht)|(refine ybx rfl ?_ ?_<;>intro ht)))
  (refine ycn (ycp Tryd.func32 rfl (by kernel_rfl) rfl) (R1) rfl rfl rfl ?_ ?_; (· (exact to_)))
  repeat' (first|(refine ycf ?_;apply ybk;(·first|(first|exact tk_|(apply qv_eql_pnil<;>rfl)|(apply qv_nilCheck;rfl))|(apply yae;(·rfl);(·(first|exact hv.at hk32 (.inl ⟨rfl, rfl⟩)|exact hv.at hk32 (.inr (.inr (.inr ⟨rfl, rfl⟩)))))));(·rfl);(·rfl))|refine t1_ ?_|(refine ta_ ?_;intro _)|((fail_if_success (refine ybi rfl ?_));refine ybj rfl ?_ ?_<;>(intro ht;rw [ht];first|replace ht := oet_ ht|replace ht := oef_ ht|skip))|(refine ych ?_;first|(refine ybw rfl ?_ ?_<;>intro ht)|(refine ybx rfl ?_ ?_<;>intro ht)))
  refine cx_region_drawY [17, 18] rfl (by kernel_rfl) ?_
  repeat' (refine ycf ?_;(first|(first|(apply ybm;(·(first|(first|exact tk_|(apply qv_nilCheck;rfl)|(refine qv_str_bs rfl hw)|(refine qv_str_bs rfl hb)|(refine qv_lookup_ok (a := ((c, n, ep, bstr wi, bstr se) : SeaK)) 0 sea_kl rfl rfl rfl hg1 hg2))|(apply yae;(·rfl);(·(first|exact hv.at hk32 (.inl ⟨rfl, rfl⟩)|exact hv.at hk32 (.inr (.inr (.inr ⟨rfl, rfl⟩))))))|exact tq_));(·rfl);(·rfl);(·(exact th_)))|refine ybl rfl rfl ?_|((fail_if_success (refine ybi rfl ?_));refine ybj rfl ?_ ?_<;>(intro ht;rw [ht];first|replace ht := oet_ ht|replace ht := oef_ ht|skip))|(refine tb_ ?_ ?_ ?_;(·(exact to_));(·intro _;(exact to_));intro _)|(first|(refine tqs_ ?_ ?_ ?_;(·(exact to_));(·(exact to_))))|(apply ybn;(·(first|(first|exact tk_|(apply qv_nilCheck;rfl)|(refine qv_str_bs rfl hw)|(refine qv_str_bs rfl hb)|(refine qv_lookup_ok (a := ((c, n, ep, bstr wi, bstr se) : SeaK)) 0 sea_kl rfl rfl rfl hg1 hg2))|(apply yae;(·rfl);(·(first|exact hv.at hk32 (.inl ⟨rfl, rfl⟩)|exact hv.at hk32 (.inr (.inr (.inr ⟨rfl, rfl⟩))))))|exact tq_));(·rfl);(·rfl);(·rfl);(·(exact to_))))|refine ycg ?_))
  repeat' (first|(refine ycf ?_;apply ybk;(·first|(exact tk_));(·rfl);(·rfl))|refine t1_ ?_|(refine ta_ ?_;intro _)|((fail_if_success (refine ybi rfl ?_));refine ybj rfl ?_ ?_<;>(intro ht;rw [ht];first|replace ht := oet_ ht|replace ht := oef_ ht|skip))|(refine ych ?_;first|(refine ybw rfl ?_ ?_<;>intro ht)|(refine ybx rfl ?_ ?_<;>intro ht)))
  (refine yco (ycp Tryd.func31 rfl (by kernel_rfl) rfl) (BClone_sp _ xb h hxb hxl) rfl rfl rfl ?_ ?_ ?_; (· (exact to_)); (· intro _ _ hle; (exact to_)); intro x px hle)
  repeat' (first|(refine ycf ?_;apply ybk;(·first|(exact tk_));(·rfl);(·rfl))|refine t1_ ?_|(refine ta_ ?_;intro _)|((fail_if_success (refine ybi rfl ?_));refine ybj rfl ?_ ?_<;>(intro ht;rw [ht];first|replace ht := oet_ ht|replace ht := oef_ ht|skip))|(refine ych ?_;first|(refine ybw rfl ?_ ?_<;>intro ht)|(refine ybx rfl ?_ ?_<;>intro ht)))
  exact nx_ret2 rfl (rv_tmp rfl) (rv_tmp rfl) (fun w' s' => ⟨x, rfl, s', trivial⟩)
theorem VOpen_none (bv : Nat) (key : List Int) (bn bu bt : Nat) (T : Tab) (ep c n : Int) (vw vs : Value) (wi se : List Int) (hk32 : key.length = 32) (hok : sealOk ep c n) (hsl : 16 ≤ se.length)
    (hx : mget T (c, n, ep, bstr wi, bstr se) = none) (h : View) (hv : Vb h bv true key bn bu bt) (hw : Bs8 h vw wi) (hb : Bs8 h vs se) (w : World) (s : St ⟨w, h, doms [tbR bt T]⟩ h [tbR bt T] w) :
    Calls Tryd.prog 21 [.pointer (some ⟨bv, 0, none⟩), .int .i64 ep, .int .i64 c, .int .i64 n, vw, vs].toArray w fun e w' => ∃ _ : Unit, e = .returned (.tuple #[.slice none 0 0, .int .i64 6]) ∧ St ⟨w, h, doms [tbR bt T]⟩ h [tbR bt T] w' ∧ True := by
  obtain ⟨_, adw, capw, rfl, hcapw, _⟩ := id hw
  obtain ⟨_, ads, caps, rfl, hcaps, _⟩ := id hb
  have R1 := vright_sp ep c n h
  rw [if_pos hok] at R1
  have hg : mget (tbL T) ((c, n, ep, bstr wi, bstr se) : SeaK) = none := by rw [tbL_get, hx]; rfl
  have hg1 : (mget (tbL T) ((c, n, ep, bstr wi, bstr se) : SeaK)).getD (.slice none 0 0) = .slice none 0 0 := by rw [hg]; rfl
  have hg2 : (mget (tbL T) ((c, n, ep, bstr wi, bstr se) : SeaK)).isSome = false := by rw [hg]; rfl
  refine calls_enter Tryd.func21 rfl Tryd.ntmps21 rfl s ?_
  repeat' (first|(refine ycf ?_;apply ybk;(·first|(first|exact tk_|(apply qv_eql_pnil<;>rfl)|(apply qv_nilCheck;rfl))|(apply yae;(·rfl);(·(first|exact hv.at hk32 (.inl ⟨rfl, rfl⟩)|exact hv.at hk32 (.inr (.inr (.inr ⟨rfl, rfl⟩)))))));(·rfl);(·rfl))|refine t1_ ?_|(refine ta_ ?_;intro _)|((fail_if_success (refine ybi rfl ?_));refine ybj rfl ?_ ?_<;>(intro ht;rw [ht];first|replace ht := oet_ ht|replace ht := oef_ ht|skip))|(refine ych ?_;first|(refine ybw rfl ?_ ?_<;>intro ht)|(refine ybx rfl ?_ ?_<;>intro ht)))
  (refine ycn (ycp Tryd.func32 rfl (by kernel_rfl) rfl) (R1) rfl rfl rfl ?_ ?_; (· (exact to_)))
  repeat' (first|(refine ycf ?_;apply ybk;(·first|(first|exact tk_|(apply qv_eql_pnil<;>rfl)|(apply qv_nilCheck;rfl))|(apply yae;(·rfl);(·(first|exact hv.at hk32 (.inl ⟨rfl, rfl⟩)|exact hv.at hk32 (.inr (.inr (.inr ⟨rfl, rfl⟩)))))));(·rfl);(·rfl))|refine t1_ ?_|(refine ta_ ?_;intro _)|((fail_if_success (refine ybi rfl ?_));refine ybj rfl ?_ ?_<;>(intro ht;rw [ht];first|replace ht := oet_ ht|replace ht := oef_ ht|skip))|(refine ych ?_;first|(refine ybw rfl ?_ ?_<;>intro ht)|(refine ybx rfl ?_ ?_<;>intro ht)))
  refine cx_region_drawY [17, 18] rfl (by kernel_rfl) ?_
  repeat' (refine ycf ?_;(first|(first|(apply ybm;(·(first|(first|exact tk_|(apply qv_nilCheck;rfl)|(refine qv_str_bs rfl hw)|(refine qv_str_bs rfl hb)|(refine qv_lookup_ok (a := ((c, n, ep, bstr wi, bstr se) : SeaK)) 0 sea_kl rfl rfl rfl hg1 hg2))|(apply yae;(·rfl);(·(first|exact hv.at hk32 (.inl ⟨rfl, rfl⟩)|exact hv.at hk32 (.inr (.inr (.inr ⟨rfl, rfl⟩))))))|exact tq_));(·rfl);(·rfl);(·(exact th_)))|refine ybl rfl rfl ?_|((fail_if_success (refine ybi rfl ?_));refine ybj rfl ?_ ?_<;>(intro ht;rw [ht];first|replace ht := oet_ ht|replace ht := oef_ ht|skip))|(refine tb_ ?_ ?_ ?_;(·(exact to_));(·intro _;(exact to_));intro _)|(first|(refine tqs_ ?_ ?_ ?_;(·(exact to_));(·(exact to_))))|(apply ybn;(·(first|(first|exact tk_|(apply qv_nilCheck;rfl)|(refine qv_str_bs rfl hw)|(refine qv_str_bs rfl hb)|(refine qv_lookup_ok (a := ((c, n, ep, bstr wi, bstr se) : SeaK)) 0 sea_kl rfl rfl rfl hg1 hg2))|(apply yae;(·rfl);(·(first|exact hv.at hk32 (.inl ⟨rfl, rfl⟩)|exact hv.at hk32 (.inr (.inr (.inr ⟨rfl, rfl⟩))))))|exact tq_));(·rfl);(·rfl);(·rfl);(·(exact to_))))|refine ycg ?_))
  repeat' (first|(refine ycf ?_;apply ybk;(·first|(exact tk_));(·rfl);(·rfl))|refine t1_ ?_|(refine ta_ ?_;intro _)|((fail_if_success (refine ybi rfl ?_));refine ybj rfl ?_ ?_<;>(intro ht;rw [ht];first|replace ht := oet_ ht|replace ht := oef_ ht|skip))|(refine ych ?_;first|(refine ybw rfl ?_ ?_<;>intro ht)|(refine ybx rfl ?_ ?_<;>intro ht)))
  exact nx_ret2 rfl (rv_tmp rfl) (rv_tmp rfl) (fun w' s' => ⟨(), rfl, s', trivial⟩)
end Go.Proofs.YtgeepceieckooaaDoor
end

section
namespace Go.Proofs.YtgeepceieckooaaDoor
open Go Go.Ck
set_option maxRecDepth 100000
set_option maxHeartbeats 4000000
set_option linter.unusedVariables false
theorem fill_vault {idl : Bool} {key : List Int} {a b c : Nat} (hol : (bcs key).length = 32) : fillL (fun i : Nat => ([(0, 1), (1, 32), (33, 1), (34, 1), (35, 1)] : List (Nat × Nat))[i]?) (.bool false :: (List.replicate 32 (.int .u8 0) ++ [.map none, .map none, .map none])) [(0, .bool idl), (1, .agg (bcs key).toArray), (2, .map (some a)), (3, .map (some b)), (4, .map (some c))] = some (vcells idl key a b c) := by
  have h1 : (bcs key).toArray.size = 32 := by simpa using hol
  unfold vcells
  generalize bcs key = l at hol h1 ⊢
  have h2 : (Value.agg l.toArray).cells.size = 32 := h1
  have h3 : (Value.agg l.toArray).cells.toList = l := rfl
  have t33 : l.take 33 = l := List.take_of_length_le (by omega)
  have t34 : l.take 34 = l := List.take_of_length_le (by omega)
  have d33 : l.drop 33 = [] := List.drop_eq_nil_of_le (by omega)
  have d34 : l.drop 34 = [] := List.drop_eq_nil_of_le (by omega)
  have d35 : l.drop 35 = [] := List.drop_eq_nil_of_le (by omega)
  simp [fillL, spl, hol, Value.cells, List.take_append, List.drop_append, t33, t34, d33, d34, d35]
theorem vault_sp (idl : Bool) (key : List Int) (hk32 : key.length = 32) (h : View) (w : World) (s : St ⟨w, h, []⟩ h [] w) :
    Calls Tryd.prog 11 [.bool idl, .agg (bcs key).toArray].toArray w fun e w' => ∃ x : View × Nat × Nat × Nat × Nat, e = .returned (.pointer (some ⟨x.2.1, 0, none⟩)) ∧
      St ⟨w, h, []⟩ x.1 [nmR x.2.2.1 [], usR x.2.2.2.1 [], tbR x.2.2.2.2 []] w' ∧ Vb x.1 x.2.1 idl key x.2.2.1 x.2.2.2.1 x.2.2.2.2 := by
  have hol : (bcs key).length = 32 := by rw [bcs_len, hk32]
  refine calls_enter Tryd.func11 rfl Tryd.ntmps11 rfl s ?_
  repeat' (first|(refine ycf ?_;apply ybk;(·first|(apply yad;(·rfl);(·exact yaz 0 rfl);(·exact hol)));(·rfl);(·rfl))|(refine ybg 0 rfl rfl rfl (by show (bcs key).toArray.size = 32;simpa using hol) (by show 0 + (bcs key).toArray.size ≤ _;rw [List.size_toArray, hol];exact nble rfl) (List.all_eq_true.2 (bcs_one key)) (ybh (by show (bcs key).length = _;rw [hol];rfl)) rfl rfl ?_ ?_ ?_;(·(exact to_));(·(exact to_)))|refine t1_ ?_|(refine ta_ ?_;intro _)|((fail_if_success (refine ybi rfl ?_));refine ybj rfl ?_ ?_<;>(intro ht;rw [ht];first|replace ht := oet_ ht|replace ht := oef_ ht|skip))|(refine ych ?_;first|(refine ybw rfl ?_ ?_<;>intro ht)|(refine ybx rfl ?_ ?_<;>intro ht)))
  refine yba ma_makeMap rfl rfl rfl ybf (fun _ => ybf) ?_
  intro bn
  refine yba ma_makeMap rfl rfl rfl ybf (fun _ => ybf) ?_
  intro bu
  refine yba ma_makeMap rfl rfl rfl ybf (fun _ => ybf) ?_
  intro bt
  repeat' (first|(refine ycf ?_;apply ybk;(·first|(apply yax (cs := vcells idl key bn bu bt);(·rfl);(·exact fill_vault hol)));(·rfl);(·rfl))|(refine ybg 0 rfl rfl rfl (by show (bcs key).toArray.size = 32;simpa using hol) (by show 0 + (bcs key).toArray.size ≤ _;rw [List.size_toArray, hol];exact nble rfl) (List.all_eq_true.2 (bcs_one key)) (ybh (by show (bcs key).length = _;rw [hol];rfl)) rfl rfl ?_ ?_ ?_;(·(exact to_));(·(exact to_)))|refine t1_ ?_|(refine ta_ ?_;intro _)|((fail_if_success (refine ybi rfl ?_));refine ybj rfl ?_ ?_<;>(intro ht;rw [ht];first|replace ht := oet_ ht|replace ht := oef_ ht|skip))|(refine ych ?_;first|(refine ybw rfl ?_ ?_<;>intro ht)|(refine ybx rfl ?_ ?_<;>intro ht)))
  refine nx_ret1 rfl (rv_tmp rfl) (fun w' s' => ?_)
  have s1 := s'.persist rfl
  have s2 := s1.mpOf seaV (k := 0) rfl
  have s3 := s2.mpOf useV (k := 1) rfl
  have s4 := s3.mpOf Value.string (k := 2) rfl
  have s5 := (s4.perm (List.reverse_perm _).symm).tl
  refine ⟨(_, _, bn, bu, bt), rfl, s5, ?_⟩
  show addV _ _ _ _ = _
  unfold addV
  rw [if_pos rfl]
  rfl
theorem Ideal_sp (key : List Int) (hk32 : key.length = 32) (h : View) (w : World) (s : St ⟨w, h, []⟩ h [] w) :
    Calls Tryd.prog 5 [.agg (bcs key).toArray].toArray w fun e w' => ∃ x : View × Nat × Nat × Nat × Nat, e = .returned (.pointer (some ⟨x.2.1, 0, none⟩)) ∧
      St ⟨w, h, []⟩ x.1 [nmR x.2.2.1 [], usR x.2.2.2.1 [], tbR x.2.2.2.2 []] w' ∧ Vb x.1 x.2.1 true key x.2.2.1 x.2.2.2.1 x.2.2.2.2 := by
  have hol : (bcs key).length = 32 := by rw [bcs_len, hk32]
  refine calls_enter Tryd.func5 rfl Tryd.ntmps5 rfl s ?_
  repeat' (first|(refine ycf ?_;apply ybk;(·first|(apply yad;(·rfl);(·exact yaz 0 rfl);(·exact hol)));(·rfl);(·rfl))|(refine ybg 0 rfl rfl rfl (by show (bcs key).toArray.size = 32;simpa using hol) (by show 0 + (bcs key).toArray.size ≤ _;rw [List.size_toArray, hol];exact nble rfl) (List.all_eq_true.2 (bcs_one key)) (ybh (by show (bcs key).length = _;rw [hol];rfl)) rfl rfl ?_ ?_ ?_;(·(exact to_));(·(exact to_)))|refine t1_ ?_|(refine ta_ ?_;intro _)|((fail_if_success (refine ybi rfl ?_));refine ybj rfl ?_ ?_<;>(intro ht;rw [ht];first|replace ht := oet_ ht|replace ht := oef_ ht|skip))|(refine ych ?_;first|(refine ybw rfl ?_ ?_<;>intro ht)|(refine ybx rfl ?_ ?_<;>intro ht)))
  (refine yco (ycp Tryd.func11 rfl (by kernel_rfl) rfl) (vault_sp true key hk32 h) rfl rfl rfl ?_ ?_ ?_; (· (exact to_)); (· intro _ _ hle; (exact to_)); intro x px hle)
  repeat' (first|(refine ycf ?_;apply ybk;(·first|(apply yad;(·rfl);(·exact yaz 0 rfl);(·exact hol)));(·rfl);(·rfl))|(refine ybg 0 rfl rfl rfl (by show (bcs key).toArray.size = 32;simpa using hol) (by show 0 + (bcs key).toArray.size ≤ _;rw [List.size_toArray, hol];exact nble rfl) (List.all_eq_true.2 (bcs_one key)) (ybh (by show (bcs key).length = _;rw [hol];rfl)) rfl rfl ?_ ?_ ?_;(·(exact to_));(·(exact to_)))|refine t1_ ?_|(refine ta_ ?_;intro _)|((fail_if_success (refine ybi rfl ?_));refine ybj rfl ?_ ?_<;>(intro ht;rw [ht];first|replace ht := oet_ ht|replace ht := oef_ ht|skip))|(refine ych ?_;first|(refine ybw rfl ?_ ?_<;>intro ht)|(refine ybx rfl ?_ ?_<;>intro ht)))
  refine nx_ret1 rfl (rv_tmp rfl) (fun w' s' => ⟨x, rfl, ?_, px⟩)
  exact (St.drop (L := [_]) (s'.perm (perm_at (k := 3) rfl)))
end Go.Proofs.YtgeepceieckooaaDoor
end

section
namespace Go.Proofs.YtgeepceieckooaaDoor
open Go Go.Ck
set_option maxRecDepth 100000
set_option maxHeartbeats 4000000
set_option linter.unusedVariables false
structure Hdr where
  ep : Int
  ct : Int
  cl : Int
  nu : Int
  past : List Int
def Hdr.ok (x : Hdr) : Prop := (1 ≤ x.ep ∧ x.ep ≤ 1048576) ∧ (1 ≤ x.ct ∧ x.ct ≤ 4611686018427387904) ∧ (1 ≤ x.cl ∧ x.cl ≤ 16) ∧ (1 ≤ x.nu ∧ x.nu ≤ 1099511627776) ∧ x.past.length ≤ 4096
instance (x : Hdr) : Decidable x.ok := by unfold Hdr.ok; exact inferInstance
def hdc (x : Hdr) (pv : Value) : List Value := [.int .i64 x.ep, .int .i64 x.ct, .int .i64 x.cl, .int .i64 x.nu, pv]
def envc (key : List Int) (x : Hdr) (pv sv : Value) : List Value := bcs key ++ (hdc x pv ++ [sv])
theorem within_sp (n a b : Int) (h : View) (w : World) (s : St ⟨w, h, []⟩ h [] w) :
    Calls Tryd.prog 24 [.int .i64 n, .int .i64 a, .int .i64 b].toArray w fun e w' => e = .returned (.bool (decide (a ≤ n ∧ n ≤ b))) ∧ St ⟨w, h, []⟩ h [] w' := by
  refine calls_enter Tryd.func24 rfl Tryd.ntmps24 rfl s ?_
  by_cases h1 : a ≤ n
  · by_cases h2 : n ≤ b
    · have e : decide (a ≤ n ∧ n ≤ b) = true := by simp [h1, h2]
      rw [e]
      repeat' (first|(refine ycf ?_;apply ybk;(·first|(exact tk_));(·rfl);(·rfl))|refine t1_ ?_|(refine ta_ ?_;intro _)|((fail_if_success (refine ybi rfl ?_));refine ybj rfl ?_ ?_<;>(intro ht;rw [ht];first|replace ht := oet_ ht|replace ht := oef_ ht|skip))|(refine ych ?_;first|(refine ybw rfl ?_ ?_<;>intro ht)|(refine ybx rfl ?_ ?_<;>intro ht)))
      exact nx_ret1 rfl (rv_tmp rfl) (fun w' s' => ⟨rfl, s'⟩)
    · have e : decide (a ≤ n ∧ n ≤ b) = false := by simp [h2]
      rw [e]
      repeat' (first|(refine ycf ?_;apply ybk;(·first|(exact tk_));(·rfl);(·rfl))|refine t1_ ?_|(refine ta_ ?_;intro _)|((fail_if_success (refine ybi rfl ?_));refine ybj rfl ?_ ?_<;>(intro ht;rw [ht];first|replace ht := oet_ ht|replace ht := oef_ ht|skip))|(refine ych ?_;first|(refine ybw rfl ?_ ?_<;>intro ht)|(refine ybx rfl ?_ ?_<;>intro ht)))
      exact nx_ret1 rfl (rv_tmp rfl) (fun w' s' => ⟨rfl, s'⟩)
  · have e : decide (a ≤ n ∧ n ≤ b) = false := by simp [h1]
    rw [e]
    repeat' (first|(refine ycf ?_;apply ybk;(·first|(exact tk_));(·rfl);(·rfl))|refine t1_ ?_|(refine ta_ ?_;intro _)|((fail_if_success (refine ybi rfl ?_));refine ybj rfl ?_ ?_<;>(intro ht;rw [ht];first|replace ht := oet_ ht|replace ht := oef_ ht|skip))|(refine ych ?_;first|(refine ybw rfl ?_ ?_<;>intro ht)|(refine ybx rfl ?_ ?_<;>intro ht)))
    exact nx_ret1 rfl (rv_tmp rfl) (fun w' s' => ⟨rfl, s'⟩)
theorem name_sp (v : Value) (l : List Int) (h : View) (hs : Bs8 h v l) (w : World) (s : St ⟨w, h, []⟩ h [] w) :
    Calls Tryd.prog 12 [v].toArray w fun e w' => e = .returned (.bool (decide (1 ≤ l.length ∧ l.length ≤ 64))) ∧ St ⟨w, h, []⟩ h [] w' := by
  obtain ⟨_, ad, cap, rfl, hcap, _⟩ := id hs
  have e : decide (1 ≤ l.length ∧ l.length ≤ 64) = decide ((1 : Int) ≤ (l.length : Int) ∧ (l.length : Int) ≤ 64) := by
    rw [decide_eq_decide]; omega
  rw [e]
  refine calls_enter Tryd.func12 rfl Tryd.ntmps12 rfl s ?_
  repeat' (first|(refine ycf ?_;apply ybk;(·first|(exact tk_));(·rfl);(·rfl))|refine t1_ ?_|(refine ta_ ?_;intro _)|((fail_if_success (refine ybi rfl ?_));refine ybj rfl ?_ ?_<;>(intro ht;rw [ht];first|replace ht := oet_ ht|replace ht := oef_ ht|skip))|(refine ych ?_;first|(refine ybw rfl ?_ ?_<;>intro ht)|(refine ybx rfl ?_ ?_<;>intro ht)))
  (refine ycn (ycp Tryd.func24 rfl (by kernel_rfl) rfl) (within_sp (l.length : Int) 1 64 h) rfl rfl rfl ?_ ?_; (· (exact to_)))
  repeat' (first|(refine ycf ?_;apply ybk;(·first|(exact tk_));(·rfl);(·rfl))|refine t1_ ?_|(refine ta_ ?_;intro _)|((fail_if_success (refine ybi rfl ?_));refine ybj rfl ?_ ?_<;>(intro ht;rw [ht];first|replace ht := oet_ ht|replace ht := oef_ ht|skip))|(refine ych ?_;first|(refine ybw rfl ?_ ?_<;>intro ht)|(refine ybx rfl ?_ ?_<;>intro ht)))
  exact nx_ret1 rfl (rv_tmp rfl) (fun w' s' => ⟨rfl, s'⟩)
theorem hright_sp (x : Hdr) (pv : Value) (h : View) (hp : Bs8 h pv x.past) (w : World) (s : St ⟨w, h, []⟩ h [] w) :
    Calls Tryd.prog 13 [.agg (hdc x pv).toArray].toArray w fun e w' => e = .returned (.bool (decide x.ok)) ∧ St ⟨w, h, []⟩ h [] w' := by
  obtain ⟨_, ad, cap, rfl, hcap, _⟩ := id hp
  refine calls_enter Tryd.func13 rfl Tryd.ntmps13 rfl s ?_
  repeat' (first|(refine ycf ?_;apply ybk;(·first|(exact tk_));(·rfl);(·rfl))|refine t1_ ?_|(refine ta_ ?_;intro _)|((fail_if_success (refine ybi rfl ?_));refine ybj rfl ?_ ?_<;>(intro ht;rw [ht];first|replace ht := oet_ ht|replace ht := oef_ ht|skip))|(refine ych ?_;first|(refine ybw rfl ?_ ?_<;>intro ht)|(refine ybx rfl ?_ ?_<;>intro ht)))
  have e : decide x.ok = (decide (1 ≤ x.ep ∧ x.ep ≤ 1048576) && (decide (1 ≤ x.ct ∧ x.ct ≤ 4611686018427387904) && (decide (1 ≤ x.cl ∧ x.cl ≤ 16) && (decide (1 ≤ x.nu ∧ x.nu ≤ 1099511627776) && decide ((x.past.length : Int) ≤ 4096))))) := by
    rw [Bool.eq_iff_iff]
    simp only [decide_eq_true_eq, Bool.and_eq_true]
    unfold Hdr.ok
    constructor
    · rintro ⟨a, b, c, d, e⟩; exact ⟨a, b, c, d, by omega⟩
    · rintro ⟨a, b, c, d, e⟩; exact ⟨a, b, c, d, by omega⟩
  rw [e]
  have W1 := within_sp x.ep 1 1048576 h
  have W2 := within_sp x.ct 1 4611686018427387904 h
  have W3 := within_sp x.cl 1 16 h
  have W4 := within_sp x.nu 1 1099511627776 h
  generalize decide (1 ≤ x.ep ∧ x.ep ≤ 1048576) = b1 at W1 ⊢
  generalize decide (1 ≤ x.ct ∧ x.ct ≤ 4611686018427387904) = b2 at W2 ⊢
  generalize decide (1 ≤ x.cl ∧ x.cl ≤ 16) = b3 at W3 ⊢
  generalize decide (1 ≤ x.nu ∧ x.nu ≤ 1099511627776) = b4 at W4 ⊢
  (refine ycn (ycp Tryd.func24 rfl (by kernel_rfl) rfl) (W1) rfl rfl rfl ?_ ?_; (· (exact to_)))
  cases b1
  · repeat' (first|(refine ycf ?_;apply ybk;(·first|(exact tk_));(·rfl);(·rfl))|refine t1_ ?_|(refine ta_ ?_;intro _)|((fail_if_success (refine ybi rfl ?_));refine ybj rfl ?_ ?_<;>(intro ht;rw [ht];first|replace ht := oet_ ht|replace ht := oef_ ht|skip))|(refine ych ?_;first|(refine ybw rfl ?_ ?_<;>intro ht)|(refine ybx rfl ?_ ?_<;>intro ht)))
    exact nx_ret1 rfl (rv_tmp rfl) (fun w' s' => ⟨rfl, s'.nil⟩)
  repeat' (first|(refine ycf ?_;apply ybk;(·first|(exact tk_));(·rfl);(·rfl))|refine t1_ ?_|(refine ta_ ?_;intro _)|((fail_if_success (refine ybi rfl ?_));refine ybj rfl ?_ ?_<;>(intro ht;rw [ht];first|replace ht := oet_ ht|replace ht := oef_ ht|skip))|(refine ych ?_;first|(refine ybw rfl ?_ ?_<;>intro ht)|(refine ybx rfl ?_ ?_<;>intro ht)))
  (refine ycn (ycp Tryd.func24 rfl (by kernel_rfl) rfl) (W2) rfl rfl rfl ?_ ?_; (· (exact to_)))
  cases b2
  · repeat' (first|(refine ycf ?_;apply ybk;(·first|(exact tk_));(·rfl);(·rfl))|refine t1_ ?_|(refine ta_ ?_;intro _)|((fail_if_success (refine ybi rfl ?_));refine ybj rfl ?_ ?_<;>(intro ht;rw [ht];first|replace ht := oet_ ht|replace ht := oef_ ht|skip))|(refine ych ?_;first|(refine ybw rfl ?_ ?_<;>intro ht)|(refine ybx rfl ?_ ?_<;>intro ht)))
    exact nx_ret1 rfl (rv_tmp rfl) (fun w' s' => ⟨rfl, s'.nil⟩)
  repeat' (first|(refine ycf ?_;apply ybk;(·first|(exact tk_));(·rfl);(·rfl))|refine t1_ ?_|(refine ta_ ?_;intro _)|((fail_if_success (refine ybi rfl ?_));refine ybj rfl ?_ ?_<;>(intro ht;rw [ht];first|replace ht := oet_ ht|replace ht := oef_ ht|skip))|(refine ych ?_;first|(refine ybw rfl ?_ ?_<;>intro ht)|(refine ybx rfl ?_ ?_<;>intro ht)))
  (refine ycn (ycp Tryd.func24 rfl (by kernel_rfl) rfl) (W3) rfl rfl rfl ?_ ?_; (· (exact to_)))
  cases b3
  · repeat' (first|(refine ycf ?_;apply ybk;(·first|(exact tk_));(·rfl);(·rfl))|refine t1_ ?_|(refine ta_ ?_;intro _)|((fail_if_success (refine ybi rfl ?_));refine ybj rfl ?_ ?_<;>(intro ht;rw [ht];first|replace ht := oet_ ht|replace ht := oef_ ht|skip))|(refine ych ?_;first|(refine ybw rfl ?_ ?_<;>intro ht)|(refine ybx rfl ?_ ?_<;>intro ht)))
    exact nx_ret1 rfl (rv_tmp rfl) (fun w' s' => ⟨rfl, s'.nil⟩)
  repeat' (first|(refine ycf ?_;apply ybk;(·first|(exact tk_));(·rfl);(·rfl))|refine t1_ ?_|(refine ta_ ?_;intro _)|((fail_if_success (refine ybi rfl ?_));refine ybj rfl ?_ ?_<;>(intro ht;rw [ht];first|replace ht := oet_ ht|replace ht := oef_ ht|skip))|(refine ych ?_;first|(refine ybw rfl ?_ ?_<;>intro ht)|(refine ybx rfl ?_ ?_<;>intro ht)))
  (refine ycn (ycp Tryd.func24 rfl (by kernel_rfl) rfl) (W4) rfl rfl rfl ?_ ?_; (· (exact to_)))
  cases b4
  · repeat' (first|(refine ycf ?_;apply ybk;(·first|(exact tk_));(·rfl);(·rfl))|refine t1_ ?_|(refine ta_ ?_;intro _)|((fail_if_success (refine ybi rfl ?_));refine ybj rfl ?_ ?_<;>(intro ht;rw [ht];first|replace ht := oet_ ht|replace ht := oef_ ht|skip))|(refine ych ?_;first|(refine ybw rfl ?_ ?_<;>intro ht)|(refine ybx rfl ?_ ?_<;>intro ht)))
    exact nx_ret1 rfl (rv_tmp rfl) (fun w' s' => ⟨rfl, s'.nil⟩)
  repeat' (first|(refine ycf ?_;apply ybk;(·first|(exact tk_));(·rfl);(·rfl))|refine t1_ ?_|(refine ta_ ?_;intro _)|((fail_if_success (refine ybi rfl ?_));refine ybj rfl ?_ ?_<;>(intro ht;rw [ht];first|replace ht := oet_ ht|replace ht := oef_ ht|skip))|(refine ych ?_;first|(refine ybw rfl ?_ ?_<;>intro ht)|(refine ybx rfl ?_ ?_<;>intro ht)))
  exact nx_ret1 rfl (rv_tmp rfl) (fun w' s' => ⟨rfl, s'.nil⟩)
def boundF (key : List Int) (x : Hdr) : List Int := key ++ num8 x.ep ++ num8 x.ct ++ num8 x.cl ++ num8 x.nu ++ num4 x.past.length ++ x.past
theorem envc_len {key : List Int} {x : Hdr} {pv sv : Value} (hk : key.length = 32) : (envc key x pv sv).length = 38 := by
  simp [envc, hdc, bcs_len, hk]
theorem envc_one {key : List Int} {x : Hdr} {pv sv : Value} (h1 : pv.oneCell' = true) (h2 : sv.oneCell' = true) : ∀ u ∈ envc key x pv sv, u.oneCell' = true := fun u hu => by
  simp only [envc, hdc, List.mem_append, List.mem_cons, List.not_mem_nil, or_false] at hu
  rcases hu with hu | (rfl | rfl | rfl | rfl | rfl) | rfl
  · exact bcs_one _ u hu
  all_goals first | rfl | assumption
section
variable {h : View} {L : List Res} {b o : Nat} {key : List Int} {x : Hdr} {pv sv : Value}
theorem env_key (c : Cells h L ⟨b, o, none⟩ (envc key x pv sv)) : Cells h L ⟨b, o, none⟩ (bcs key) := by
  have := c.take (bcs key).length
  simpa [envc] using this
theorem env_head (hk : key.length = 32) (c : Cells h L ⟨b, o, none⟩ (envc key x pv sv)) : Cells h L ⟨b, o + 32, none⟩ (hdc x pv) := by
  have h1 := (c.drop 32).take 5
  have hb : (bcs key).length = 32 := by rw [bcs_len, hk]
  rw [envc, List.drop_left' hb] at h1
  exact h1
theorem env_seal (hk : key.length = 32) (c : Cells h L ⟨b, o, none⟩ (envc key x pv sv)) : CellAt h L b (o + 37) sv := by
  have hb : (bcs key).length = 32 := by rw [bcs_len, hk]
  refine c.cell ?_
  rw [envc, List.getElem?_append_right (by omega), hb]
  rfl
end
theorem eright_sp (key : List Int) (x : Hdr) (pv sv : Value) (se : List Int) (hk32 : key.length = 32) (h : View) (hp : Bs8 h pv x.past) (hs : Bs8 h sv se) (w : World) (s : St ⟨w, h, []⟩ h [] w) :
    Calls Tryd.prog 20 [.agg (envc key x pv sv).toArray].toArray w fun e w' => e = .returned (.bool (decide (x.ok ∧ 16 ≤ se.length ∧ se.length ≤ 8192))) ∧ St ⟨w, h, []⟩ h [] w' := by
  obtain ⟨_, ad, cap, rfl, hcap, _⟩ := id hs
  have hone : pv.oneCell' = true := by
    obtain ⟨_, _, _, rfl, _, _⟩ := id hp
    rfl
  refine calls_enter Tryd.func20 rfl Tryd.ntmps20 rfl s ?_
  have W0 := hright_sp x pv h hp
  have W1 := within_sp (se.length : Int) 16 8192 h
  have e : decide (x.ok ∧ 16 ≤ se.length ∧ se.length ≤ 8192) = (decide x.ok && decide ((16 : Int) ≤ (se.length : Int) ∧ (se.length : Int) ≤ 8192)) := by
    rw [Bool.eq_iff_iff]
    simp only [decide_eq_true_eq, Bool.and_eq_true]
    constructor
    · rintro ⟨a, b⟩; exact ⟨a, by omega⟩
    · rintro ⟨a, b⟩; exact ⟨a, by omega⟩
  rw [e]
  generalize decide x.ok = b0 at W0 ⊢
  repeat' (first|(refine ycf ?_;apply ybk;(·first|(apply yad;(·rfl);(·exact env_head hk32 (yaz 0 rfl));(·rfl))|(apply yae;(·rfl);(·(exact env_seal hk32 (yaz 0 rfl)))));(·rfl);(·rfl))|(refine ybg 0 rfl rfl rfl (by show (envc key x pv _).toArray.size = 38;simpa using envc_len hk32) (by show 0 + (envc key x pv _).toArray.size ≤ _;rw [List.size_toArray, envc_len hk32];exact nble rfl) (List.all_eq_true.2 (envc_one hone rfl)) (ybh (by show (envc key x pv _).length = _;rw [envc_len hk32];rfl)) rfl rfl ?_ ?_ ?_;(·(exact to_));(·(exact to_)))|refine t1_ ?_|(refine ta_ ?_;intro _)|((fail_if_success (refine ybi rfl ?_));refine ybj rfl ?_ ?_<;>(intro ht;rw [ht];first|replace ht := oet_ ht|replace ht := oef_ ht|skip))|(refine ych ?_;first|(refine ybw rfl ?_ ?_<;>intro ht)|(refine ybx rfl ?_ ?_<;>intro ht)))
  (refine ycn (ycp Tryd.func13 rfl (by kernel_rfl) rfl) (W0) rfl rfl rfl ?_ ?_; (· (exact to_)))
  cases b0
  · repeat' (first|(refine ycf ?_;apply ybk;(·first|(apply yad;(·rfl);(·exact env_head hk32 (yaz 0 rfl));(·rfl))|(apply yae;(·rfl);(·(exact env_seal hk32 (yaz 0 rfl)))));(·rfl);(·rfl))|(refine ybg 0 rfl rfl rfl (by show (envc key x pv _).toArray.size = 38;simpa using envc_len hk32) (by show 0 + (envc key x pv _).toArray.size ≤ _;rw [List.size_toArray, envc_len hk32];exact nble rfl) (List.all_eq_true.2 (envc_one hone rfl)) (ybh (by show (envc key x pv _).length = _;rw [envc_len hk32];rfl)) rfl rfl ?_ ?_ ?_;(·(exact to_));(·(exact to_)))|refine t1_ ?_|(refine ta_ ?_;intro _)|((fail_if_success (refine ybi rfl ?_));refine ybj rfl ?_ ?_<;>(intro ht;rw [ht];first|replace ht := oet_ ht|replace ht := oef_ ht|skip))|(refine ych ?_;first|(refine ybw rfl ?_ ?_<;>intro ht)|(refine ybx rfl ?_ ?_<;>intro ht)))
    exact nx_ret1 rfl (rv_tmp rfl) (fun w' s' => ⟨rfl, s'.nil⟩)
  repeat' (first|(refine ycf ?_;apply ybk;(·first|(apply yad;(·rfl);(·exact env_head hk32 (yaz 0 rfl));(·rfl))|(apply yae;(·rfl);(·(exact env_seal hk32 (yaz 0 rfl)))));(·rfl);(·rfl))|(refine ybg 0 rfl rfl rfl (by show (envc key x pv _).toArray.size = 38;simpa using envc_len hk32) (by show 0 + (envc key x pv _).toArray.size ≤ _;rw [List.size_toArray, envc_len hk32];exact nble rfl) (List.all_eq_true.2 (envc_one hone rfl)) (ybh (by show (envc key x pv _).length = _;rw [envc_len hk32];rfl)) rfl rfl ?_ ?_ ?_;(·(exact to_));(·(exact to_)))|refine t1_ ?_|(refine ta_ ?_;intro _)|((fail_if_success (refine ybi rfl ?_));refine ybj rfl ?_ ?_<;>(intro ht;rw [ht];first|replace ht := oet_ ht|replace ht := oef_ ht|skip))|(refine ych ?_;first|(refine ybw rfl ?_ ?_<;>intro ht)|(refine ybx rfl ?_ ?_<;>intro ht)))
  (refine ycn (ycp Tryd.func24 rfl (by kernel_rfl) rfl) (W1) rfl rfl rfl ?_ ?_; (· (exact to_)))
  repeat' (first|(refine ycf ?_;apply ybk;(·first|(apply yad;(·rfl);(·exact env_head hk32 (yaz 0 rfl));(·rfl))|(apply yae;(·rfl);(·(exact env_seal hk32 (yaz 0 rfl)))));(·rfl);(·rfl))|(refine ybg 0 rfl rfl rfl (by show (envc key x pv _).toArray.size = 38;simpa using envc_len hk32) (by show 0 + (envc key x pv _).toArray.size ≤ _;rw [List.size_toArray, envc_len hk32];exact nble rfl) (List.all_eq_true.2 (envc_one hone rfl)) (ybh (by show (envc key x pv _).length = _;rw [envc_len hk32];rfl)) rfl rfl ?_ ?_ ?_;(·(exact to_));(·(exact to_)))|refine t1_ ?_|(refine ta_ ?_;intro _)|((fail_if_success (refine ybi rfl ?_));refine ybj rfl ?_ ?_<;>(intro ht;rw [ht];first|replace ht := oet_ ht|replace ht := oef_ ht|skip))|(refine ych ?_;first|(refine ybw rfl ?_ ?_<;>intro ht)|(refine ybx rfl ?_ ?_<;>intro ht)))
  exact nx_ret1 rfl (rv_tmp rfl) (fun w' s' => ⟨rfl, s'.nil⟩)
end Go.Proofs.YtgeepceieckooaaDoor
end

section
namespace Go.Proofs.YtgeepceieckooaaDoor
open Go Go.Ck
set_option maxRecDepth 100000
set_option maxHeartbeats 4000000
set_option linter.unusedVariables false
theorem bclone_sp (sv : Value) (l : List Int) (h : View) (hs : Bs8 h sv l) (hl : l.length ≤ 1000000) (w : World) (s : St ⟨w, h, []⟩ h [] w) :
    Calls Tryd.prog 16 [sv].toArray w fun e w' => ∃ v, e = .returned v ∧ St ⟨w, h, []⟩ h [rowB v l] w' ∧ True := by
  obtain ⟨_, ad, cap, rfl, hcap, _⟩ := id hs
  refine calls_enter Tryd.func16 rfl Tryd.ntmps16 rfl s ?_
  repeat' (first|(refine ycf ?_;apply ybk;(·first|(first|(apply qv_eql_slnil<;>rfl)));(·rfl);(·rfl))|refine t1_ ?_|(refine ta_ ?_;intro _)|((fail_if_success (refine ybi rfl ?_));refine ybj rfl ?_ ?_<;>(intro ht;rw [ht];first|replace ht := oet_ ht|replace ht := oef_ ht|skip))|(refine ych ?_;first|(refine ybw rfl ?_ ?_<;>intro ht)|(refine ybx rfl ?_ ?_<;>intro ht)))
  · cases ad with
    | some ad => cases ht
    | none =>
      have h0 : l = [] := by
        obtain ⟨h1, ad', cap', h2, h3, h4⟩ := hs
        cases h2
        rcases h4 with h4 | ⟨b, o, cs, e, fz, q1, _⟩
        · have := congrArg List.length h4
          rw [bcs_len] at this
          exact List.eq_nil_of_length_eq_zero this
        · cases q1
      subst h0
      refine nx_ret1 rfl (rv_tmp rfl) (fun w' s' => ⟨_, rfl, ?_, trivial⟩)
      exact s'.rowNil _ _
  · refine yba ma_buildSlice0 rfl rfl rfl ybf (fun _ => ybf) ?_
    intro b
    refine rx_rowOf 1 0 0 (by omega) (by unfold maxLen; omega) rfl ?_
    repeat' (first|(refine ycf ?_;apply ybk;(·first|(first|(apply qv_eql_slnil<;>rfl)));(·rfl);(·rfl))|refine t1_ ?_|(refine ta_ ?_;intro _)|((fail_if_success (refine ybi rfl ?_));refine ybj rfl ?_ ?_<;>(intro ht;rw [ht];first|replace ht := oet_ ht|replace ht := oef_ ht|skip))|(refine ych ?_;first|(refine ybw rfl ?_ ?_<;>intro ht)|(refine ybx rfl ?_ ?_<;>intro ht)))
    refine rx_append_sc (sz := 1) 0 rfl rfl rfl hs (bcs_one l) rfl (by omega) (by unfold maxLen; omega) (by omega) rfl rfl rfl ybf (fun _ => ybf) ?_
    intro v' _
    repeat' (first|(refine ycf ?_;apply ybk;(·first|(first|(apply qv_eql_slnil<;>rfl)));(·rfl);(·rfl))|refine t1_ ?_|(refine ta_ ?_;intro _)|((fail_if_success (refine ybi rfl ?_));refine ybj rfl ?_ ?_<;>(intro ht;rw [ht];first|replace ht := oet_ ht|replace ht := oef_ ht|skip))|(refine ych ?_;first|(refine ybw rfl ?_ ?_<;>intro ht)|(refine ybx rfl ?_ ?_<;>intro ht)))
    refine nx_ret1 rfl (rv_tmp rfl) (fun w' s' => ⟨_, rfl, ?_, trivial⟩)
    simpa using s'
theorem bound_sp (key : List Int) (q : Hdr) (pv sv : Value) (hk32 : key.length = 32) (hok : q.ok) (hsv : sv.oneCell' = true) (h : View) (hp : Bs8 h pv q.past) (w : World) (s : St ⟨w, h, []⟩ h [] w) :
    Calls Tryd.prog 17 [.agg (envc key q pv sv).toArray].toArray w fun e w' => ∃ y : Nat × Value, e = .returned (.pointer (some ⟨y.1, 0, none⟩)) ∧ St ⟨w, h, []⟩ h [outR y.1 y.2 false, rowB y.2 (boundF key q)] w' ∧ True := by
  obtain ⟨_, ad, cap, rfl, hcap, _⟩ := id hp
  obtain ⟨⟨e1, e2⟩, ⟨c1, c2⟩, ⟨d1, d2⟩, ⟨n1, n2⟩, pl⟩ := id hok
  refine calls_enter Tryd.func17 rfl Tryd.ntmps17 rfl s ?_
  repeat' (first|(refine ycf ?_;apply ybk;(·first|(apply yad;(·rfl);(·exact env_head hk32 (yaz 0 rfl));(·rfl)));(·rfl);(·rfl))|(refine ybg 0 rfl rfl rfl (by show (envc key q _ _).toArray.size = 38;simpa using envc_len hk32) (by show 0 + (envc key q _ _).toArray.size ≤ _;rw [List.size_toArray, envc_len hk32];exact nble rfl) (List.all_eq_true.2 (envc_one rfl hsv)) (ybh (by show (envc key q _ _).length = _;rw [envc_len hk32];rfl)) rfl rfl ?_ ?_ ?_;(·(exact to_));(·(exact to_)))|refine t1_ ?_|(refine ta_ ?_;intro _)|((fail_if_success (refine ybi rfl ?_));refine ybj rfl ?_ ?_<;>(intro ht;rw [ht];first|replace ht := oet_ ht|replace ht := oef_ ht|skip))|(refine ych ?_;first|(refine ybw rfl ?_ ?_<;>intro ht)|(refine ybx rfl ?_ ?_<;>intro ht)))
  rename_i be bh bo
  refine cx_perm (perm_at (k := 2) rfl) ?_
  refine cx_bpersist rfl fun hn => ?_
  have hcells : (addV h be (Obj.cells (Value.agg (envc key q (Value.slice ad q.past.length cap) sv).toArray).cells 32)) be = some (.cells (envc key q (Value.slice ad q.past.length cap) sv).toArray 32 (0, 0)) := by
    unfold addV
    rw [if_pos rfl]
    rfl
  have hle1 : Le h (addV h be (Obj.cells (Value.agg (envc key q (Value.slice ad q.past.length cap) sv).toArray).cells 32)) := fun z o hz => by
    unfold addV
    by_cases hzb : z = be
    · subst hzb; rw [hn] at hz; cases hz
    · rw [if_neg hzb]; exact hz
  have hp1 := hp.mono hle1
  generalize hv1 : addV h be _ = h1 at *
  have hkey : Bs8 h1 (.slice (some ⟨be, 0, none⟩) 32 32) key := by
    have hb := bcs_len key
    refine ⟨by rw [hb, Nat.mul_one], _, _, by rw [hk32], by rw [hk32]; exact Nat.le_refl _, .inr ⟨be, 0, _, _, _, rfl, hcells, fun j u hj => ?_⟩⟩
    have hjl : j < (bcs key).length := (List.getElem?_eq_some_iff.1 hj).1
    show (envc key q _ _).toArray[0 + j]? = _
    rw [Nat.zero_add, List.getElem?_toArray, envc, List.getElem?_append_left hjl]
    exact hj
  refine cx_row 5 1 ?_
  refine cx_perm (List.Perm.swap _ _ _) ?_
  refine cx_region_draw [Res.blk bh (.cells (hdc q (.slice ad q.past.length cap)).toArray 30 (0, 0))] rfl (by kernel_rfl) ?_
  repeat' (refine ycf ?_;(first|(first|(apply ybm;(·(first|(exact qv_slice_arr rfl)|exact tq_));(·rfl);(·rfl);(·(exact fun _ s => Hd.sub s (Le.refl h1) (fun r hr => List.mem_cons_of_mem _ (List.mem_cons_of_mem _ hr)))))|refine ybl rfl rfl ?_|((fail_if_success (refine ybi rfl ?_));refine ybj rfl ?_ ?_<;>(intro ht;rw [ht];first|replace ht := oet_ ht|replace ht := oef_ ht|skip))|(refine tb_ ?_ ?_ ?_;(·(first|exact ybf|(refine .inl ?_;(exact fun _ s => Hd.sub s (Le.refl h1) (fun r hr => List.mem_cons_of_mem _ (List.mem_cons_of_mem _ hr))))|exact to_));(·intro _;(first|exact ybf|(refine .inl ?_;(exact fun _ s => Hd.sub s (Le.refl h1) (fun r hr => List.mem_cons_of_mem _ (List.mem_cons_of_mem _ hr))))|exact to_));intro _)|(first|(refine tqs_ ?_ ?_ ?_;(·(first|exact ybf|(refine .inl ?_;(exact fun _ s => Hd.sub s (Le.refl h1) (fun r hr => List.mem_cons_of_mem _ (List.mem_cons_of_mem _ hr))))|exact to_));(·(first|exact ybf|(refine .inl ?_;(exact fun _ s => Hd.sub s (Le.refl h1) (fun r hr => List.mem_cons_of_mem _ (List.mem_cons_of_mem _ hr))))|exact to_))))|(apply ybn;(·(first|(exact qv_slice_arr rfl)|exact tq_));(·rfl);(·rfl);(·rfl);(·(first|exact ybf|(refine .inl ?_;(exact fun _ s => Hd.sub s (Le.refl h1) (fun r hr => List.mem_cons_of_mem _ (List.mem_cons_of_mem _ hr))))|exact to_))))|refine ycg ?_))
  (refine rx_call_2 (ycp Tryd.func29 rfl (by kernel_rfl) rfl) (OutFixed_sp bo (.slice none 0 0) [] false _ key (by simp;omega) h1 hkey) rfl rfl rfl ?_ ?_ ?_;(·(first|exact ybf|(refine .inl ?_;(exact fun _ s => Hd.sub s (Le.refl h1) (fun r hr => List.mem_cons_of_mem _ (List.mem_cons_of_mem _ hr))))|exact to_));(·intro _ _ hle;(first|exact ybf|(refine .inl ?_;(exact fun _ s => Hd.sub s (Le.refl h1) (fun r hr => List.mem_cons_of_mem _ (List.mem_cons_of_mem _ hr))))|exact to_));intro x px hle)
  repeat' (refine ycf ?_;(first|(first|(apply ybm;(·exact tq_);(·rfl);(·rfl);(·(exact fun _ s => Hd.sub s (Le.refl h1) (fun r hr => List.mem_cons_of_mem _ (List.mem_cons_of_mem _ hr)))))|refine ybl rfl rfl ?_|((fail_if_success (refine ybi rfl ?_));refine ybj rfl ?_ ?_<;>(intro ht;rw [ht];first|replace ht := oet_ ht|replace ht := oef_ ht|skip))|(refine tb_ ?_ ?_ ?_;(·(first|exact ybf|(refine .inl ?_;(exact fun _ s => Hd.sub s (Le.refl h1) (fun r hr => List.mem_cons_of_mem _ (List.mem_cons_of_mem _ hr))))|exact to_));(·intro _;(first|exact ybf|(refine .inl ?_;(exact fun _ s => Hd.sub s (Le.refl h1) (fun r hr => List.mem_cons_of_mem _ (List.mem_cons_of_mem _ hr))))|exact to_));intro _)|(first|(refine tqs_ ?_ ?_ ?_;(·(first|exact ybf|(refine .inl ?_;(exact fun _ s => Hd.sub s (Le.refl h1) (fun r hr => List.mem_cons_of_mem _ (List.mem_cons_of_mem _ hr))))|exact to_));(·(first|exact ybf|(refine .inl ?_;(exact fun _ s => Hd.sub s (Le.refl h1) (fun r hr => List.mem_cons_of_mem _ (List.mem_cons_of_mem _ hr))))|exact to_))))|(apply ybn;(·exact tq_);(·rfl);(·rfl);(·rfl);(·(first|exact ybf|(refine .inl ?_;(exact fun _ s => Hd.sub s (Le.refl h1) (fun r hr => List.mem_cons_of_mem _ (List.mem_cons_of_mem _ hr))))|exact to_))))|refine ycg ?_))
  (refine rx_call_2 (ycp Tryd.func30 rfl (by kernel_rfl) rfl) (OutNum_sp bo x _ false q.ep (by omega) (by omega) (by simp;omega) h1) rfl rfl rfl ?_ ?_ ?_;(·(first|exact ybf|(refine .inl ?_;(exact fun _ s => Hd.sub s (Le.refl h1) (fun r hr => List.mem_cons_of_mem _ (List.mem_cons_of_mem _ hr))))|exact to_));(·intro _ _ hle;(first|exact ybf|(refine .inl ?_;(exact fun _ s => Hd.sub s (Le.refl h1) (fun r hr => List.mem_cons_of_mem _ (List.mem_cons_of_mem _ hr))))|exact to_));intro x px hle)
  repeat' (refine ycf ?_;(first|(first|(apply ybm;(·exact tq_);(·rfl);(·rfl);(·(exact fun _ s => Hd.sub s (Le.refl h1) (fun r hr => List.mem_cons_of_mem _ (List.mem_cons_of_mem _ hr)))))|refine ybl rfl rfl ?_|((fail_if_success (refine ybi rfl ?_));refine ybj rfl ?_ ?_<;>(intro ht;rw [ht];first|replace ht := oet_ ht|replace ht := oef_ ht|skip))|(refine tb_ ?_ ?_ ?_;(·(first|exact ybf|(refine .inl ?_;(exact fun _ s => Hd.sub s (Le.refl h1) (fun r hr => List.mem_cons_of_mem _ (List.mem_cons_of_mem _ hr))))|exact to_));(·intro _;(first|exact ybf|(refine .inl ?_;(exact fun _ s => Hd.sub s (Le.refl h1) (fun r hr => List.mem_cons_of_mem _ (List.mem_cons_of_mem _ hr))))|exact to_));intro _)|(first|(refine tqs_ ?_ ?_ ?_;(·(first|exact ybf|(refine .inl ?_;(exact fun _ s => Hd.sub s (Le.refl h1) (fun r hr => List.mem_cons_of_mem _ (List.mem_cons_of_mem _ hr))))|exact to_));(·(first|exact ybf|(refine .inl ?_;(exact fun _ s => Hd.sub s (Le.refl h1) (fun r hr => List.mem_cons_of_mem _ (List.mem_cons_of_mem _ hr))))|exact to_))))|(apply ybn;(·exact tq_);(·rfl);(·rfl);(·rfl);(·(first|exact ybf|(refine .inl ?_;(exact fun _ s => Hd.sub s (Le.refl h1) (fun r hr => List.mem_cons_of_mem _ (List.mem_cons_of_mem _ hr))))|exact to_))))|refine ycg ?_))
  (refine rx_call_2 (ycp Tryd.func30 rfl (by kernel_rfl) rfl) (OutNum_sp bo x _ false q.ct (by omega) (by omega) (by simp [putLow_len];omega) h1) rfl rfl rfl ?_ ?_ ?_;(·(first|exact ybf|(refine .inl ?_;(exact fun _ s => Hd.sub s (Le.refl h1) (fun r hr => List.mem_cons_of_mem _ (List.mem_cons_of_mem _ hr))))|exact to_));(·intro _ _ hle;(first|exact ybf|(refine .inl ?_;(exact fun _ s => Hd.sub s (Le.refl h1) (fun r hr => List.mem_cons_of_mem _ (List.mem_cons_of_mem _ hr))))|exact to_));intro x px hle)
  repeat' (refine ycf ?_;(first|(first|(apply ybm;(·exact tq_);(·rfl);(·rfl);(·(exact fun _ s => Hd.sub s (Le.refl h1) (fun r hr => List.mem_cons_of_mem _ (List.mem_cons_of_mem _ hr)))))|refine ybl rfl rfl ?_|((fail_if_success (refine ybi rfl ?_));refine ybj rfl ?_ ?_<;>(intro ht;rw [ht];first|replace ht := oet_ ht|replace ht := oef_ ht|skip))|(refine tb_ ?_ ?_ ?_;(·(first|exact ybf|(refine .inl ?_;(exact fun _ s => Hd.sub s (Le.refl h1) (fun r hr => List.mem_cons_of_mem _ (List.mem_cons_of_mem _ hr))))|exact to_));(·intro _;(first|exact ybf|(refine .inl ?_;(exact fun _ s => Hd.sub s (Le.refl h1) (fun r hr => List.mem_cons_of_mem _ (List.mem_cons_of_mem _ hr))))|exact to_));intro _)|(first|(refine tqs_ ?_ ?_ ?_;(·(first|exact ybf|(refine .inl ?_;(exact fun _ s => Hd.sub s (Le.refl h1) (fun r hr => List.mem_cons_of_mem _ (List.mem_cons_of_mem _ hr))))|exact to_));(·(first|exact ybf|(refine .inl ?_;(exact fun _ s => Hd.sub s (Le.refl h1) (fun r hr => List.mem_cons_of_mem _ (List.mem_cons_of_mem _ hr))))|exact to_))))|(apply ybn;(·exact tq_);(·rfl);(·rfl);(·rfl);(·(first|exact ybf|(refine .inl ?_;(exact fun _ s => Hd.sub s (Le.refl h1) (fun r hr => List.mem_cons_of_mem _ (List.mem_cons_of_mem _ hr))))|exact to_))))|refine ycg ?_))
  (refine rx_call_2 (ycp Tryd.func30 rfl (by kernel_rfl) rfl) (OutNum_sp bo x _ false q.cl (by omega) (by omega) (by simp [putLow_len];omega) h1) rfl rfl rfl ?_ ?_ ?_;(·(first|exact ybf|(refine .inl ?_;(exact fun _ s => Hd.sub s (Le.refl h1) (fun r hr => List.mem_cons_of_mem _ (List.mem_cons_of_mem _ hr))))|exact to_));(·intro _ _ hle;(first|exact ybf|(refine .inl ?_;(exact fun _ s => Hd.sub s (Le.refl h1) (fun r hr => List.mem_cons_of_mem _ (List.mem_cons_of_mem _ hr))))|exact to_));intro x px hle)
  repeat' (refine ycf ?_;(first|(first|(apply ybm;(·exact tq_);(·rfl);(·rfl);(·(exact fun _ s => Hd.sub s (Le.refl h1) (fun r hr => List.mem_cons_of_mem _ (List.mem_cons_of_mem _ hr)))))|refine ybl rfl rfl ?_|((fail_if_success (refine ybi rfl ?_));refine ybj rfl ?_ ?_<;>(intro ht;rw [ht];first|replace ht := oet_ ht|replace ht := oef_ ht|skip))|(refine tb_ ?_ ?_ ?_;(·(first|exact ybf|(refine .inl ?_;(exact fun _ s => Hd.sub s (Le.refl h1) (fun r hr => List.mem_cons_of_mem _ (List.mem_cons_of_mem _ hr))))|exact to_));(·intro _;(first|exact ybf|(refine .inl ?_;(exact fun _ s => Hd.sub s (Le.refl h1) (fun r hr => List.mem_cons_of_mem _ (List.mem_cons_of_mem _ hr))))|exact to_));intro _)|(first|(refine tqs_ ?_ ?_ ?_;(·(first|exact ybf|(refine .inl ?_;(exact fun _ s => Hd.sub s (Le.refl h1) (fun r hr => List.mem_cons_of_mem _ (List.mem_cons_of_mem _ hr))))|exact to_));(·(first|exact ybf|(refine .inl ?_;(exact fun _ s => Hd.sub s (Le.refl h1) (fun r hr => List.mem_cons_of_mem _ (List.mem_cons_of_mem _ hr))))|exact to_))))|(apply ybn;(·exact tq_);(·rfl);(·rfl);(·rfl);(·(first|exact ybf|(refine .inl ?_;(exact fun _ s => Hd.sub s (Le.refl h1) (fun r hr => List.mem_cons_of_mem _ (List.mem_cons_of_mem _ hr))))|exact to_))))|refine ycg ?_))
  (refine rx_call_2 (ycp Tryd.func30 rfl (by kernel_rfl) rfl) (OutNum_sp bo x _ false q.nu (by omega) (by omega) (by simp [putLow_len];omega) h1) rfl rfl rfl ?_ ?_ ?_;(·(first|exact ybf|(refine .inl ?_;(exact fun _ s => Hd.sub s (Le.refl h1) (fun r hr => List.mem_cons_of_mem _ (List.mem_cons_of_mem _ hr))))|exact to_));(·intro _ _ hle;(first|exact ybf|(refine .inl ?_;(exact fun _ s => Hd.sub s (Le.refl h1) (fun r hr => List.mem_cons_of_mem _ (List.mem_cons_of_mem _ hr))))|exact to_));intro x px hle)
  repeat' (refine ycf ?_;(first|(first|(apply ybm;(·exact tq_);(·rfl);(·rfl);(·(exact fun _ s => Hd.sub s (Le.refl h1) (fun r hr => List.mem_cons_of_mem _ (List.mem_cons_of_mem _ hr)))))|refine ybl rfl rfl ?_|((fail_if_success (refine ybi rfl ?_));refine ybj rfl ?_ ?_<;>(intro ht;rw [ht];first|replace ht := oet_ ht|replace ht := oef_ ht|skip))|(refine tb_ ?_ ?_ ?_;(·(first|exact ybf|(refine .inl ?_;(exact fun _ s => Hd.sub s (Le.refl h1) (fun r hr => List.mem_cons_of_mem _ (List.mem_cons_of_mem _ hr))))|exact to_));(·intro _;(first|exact ybf|(refine .inl ?_;(exact fun _ s => Hd.sub s (Le.refl h1) (fun r hr => List.mem_cons_of_mem _ (List.mem_cons_of_mem _ hr))))|exact to_));intro _)|(first|(refine tqs_ ?_ ?_ ?_;(·(first|exact ybf|(refine .inl ?_;(exact fun _ s => Hd.sub s (Le.refl h1) (fun r hr => List.mem_cons_of_mem _ (List.mem_cons_of_mem _ hr))))|exact to_));(·(first|exact ybf|(refine .inl ?_;(exact fun _ s => Hd.sub s (Le.refl h1) (fun r hr => List.mem_cons_of_mem _ (List.mem_cons_of_mem _ hr))))|exact to_))))|(apply ybn;(·exact tq_);(·rfl);(·rfl);(·rfl);(·(first|exact ybf|(refine .inl ?_;(exact fun _ s => Hd.sub s (Le.refl h1) (fun r hr => List.mem_cons_of_mem _ (List.mem_cons_of_mem _ hr))))|exact to_))))|refine ycg ?_))
  (refine rx_call_2 (ycp Tryd.func26 rfl (by kernel_rfl) rfl) (OutBytes_sp bo x _ false _ q.past (by simp [putLow_len];omega) h1 hp1) rfl rfl rfl ?_ ?_ ?_;(·(first|exact ybf|(refine .inl ?_;(exact fun _ s => Hd.sub s (Le.refl h1) (fun r hr => List.mem_cons_of_mem _ (List.mem_cons_of_mem _ hr))))|exact to_));(·intro _ _ hle;(first|exact ybf|(refine .inl ?_;(exact fun _ s => Hd.sub s (Le.refl h1) (fun r hr => List.mem_cons_of_mem _ (List.mem_cons_of_mem _ hr))))|exact to_));intro x px hle)
  repeat' (refine ycf ?_;(first|(first|(apply ybm;(·exact tq_);(·rfl);(·rfl);(·(exact fun _ s => Hd.sub s (Le.refl h1) (fun r hr => List.mem_cons_of_mem _ (List.mem_cons_of_mem _ hr)))))|refine ybl rfl rfl ?_|((fail_if_success (refine ybi rfl ?_));refine ybj rfl ?_ ?_<;>(intro ht;rw [ht];first|replace ht := oet_ ht|replace ht := oef_ ht|skip))|(refine tb_ ?_ ?_ ?_;(·(first|exact ybf|(refine .inl ?_;(exact fun _ s => Hd.sub s (Le.refl h1) (fun r hr => List.mem_cons_of_mem _ (List.mem_cons_of_mem _ hr))))|exact to_));(·intro _;(first|exact ybf|(refine .inl ?_;(exact fun _ s => Hd.sub s (Le.refl h1) (fun r hr => List.mem_cons_of_mem _ (List.mem_cons_of_mem _ hr))))|exact to_));intro _)|(first|(refine tqs_ ?_ ?_ ?_;(·(first|exact ybf|(refine .inl ?_;(exact fun _ s => Hd.sub s (Le.refl h1) (fun r hr => List.mem_cons_of_mem _ (List.mem_cons_of_mem _ hr))))|exact to_));(·(first|exact ybf|(refine .inl ?_;(exact fun _ s => Hd.sub s (Le.refl h1) (fun r hr => List.mem_cons_of_mem _ (List.mem_cons_of_mem _ hr))))|exact to_))))|(apply ybn;(·exact tq_);(·rfl);(·rfl);(·rfl);(·(first|exact ybf|(refine .inl ?_;(exact fun _ s => Hd.sub s (Le.refl h1) (fun r hr => List.mem_cons_of_mem _ (List.mem_cons_of_mem _ hr))))|exact to_))))|refine ycg ?_))
  repeat' (first|refine tw_ ?_|(refine ta_ ?_;intro _)|((fail_if_success (refine ybi rfl ?_));refine ybj rfl ?_ ?_<;>(intro ht;rw [ht];first|replace ht := oet_ ht|replace ht := oef_ ht|skip))|(refine ych ?_;first|(refine ybw rfl ?_ ?_<;>intro ht)|(refine ybx rfl ?_ ?_<;>intro ht)))
  refine nx_ret1 rfl (rv_tmp rfl) (fun w' s' => ⟨(bo, x), rfl, ?_, trivial⟩)
  have s2 := St.drop (L := [_]) (s'.perm (List.perm_append_comm (l₁ := [_, _]) (l₂ := [_])))
  rw [List.nil_append] at s2
  exact s2.baseL
end Go.Proofs.YtgeepceieckooaaDoor
end

section
namespace Go.Proofs.YtgeepceieckooaaDoor
open Go Go.Ck
set_option maxRecDepth 100000
set_option maxHeartbeats 4000000
set_option linter.unusedVariables false
def hpadF (key : List Int) (c : Int) : List Int := mixB (key ++ List.replicate (64 - key.length) 0) (List.replicate 64 c)
theorem hpadF_len {key : List Int} {c : Int} (h : key.length ≤ 64) : (hpadF key c).length = 64 := by
  rw [hpadF, mixB_len]; simp; omega
theorem zc_bytes (m : Nat) : (Builtin.zeroCells (Value.int .u8 0).cells m).toList = bcs (List.replicate m 0) := by
  rw [← zeros_bcs]
  apply List.ext_getElem
  · simp [size_zeroCells, Value.cells]
  · intro i h1 h2
    simp [Builtin.zeroCells, Value.cells, Nat.mod_one]
theorem hpadded_sp (v : Value) (key : List Int) (c : Int) (hc : 0 ≤ c ∧ c < 256) (hk : Bytes key) (hl : 1 ≤ key.length ∧ key.length ≤ 64) (h : View) (hb : Bs8 h v key) (w : World) (s : St ⟨w, h, []⟩ h [] w) :
    Calls Tryd.prog 49 [v, .int .u8 c].toArray w fun e w' => ∃ v, e = .returned v ∧ St ⟨w, h, []⟩ h [rowB v (hpadF key c)] w' ∧ True := by
  obtain ⟨_, ad, cap, rfl, hcap, _⟩ := id hb
  refine calls_enter Tryd.func49 rfl Tryd.ntmps49 rfl s ?_
  repeat' (first|(refine ycf ?_;apply ybk;(·first|(exact tk_));(·rfl);(·rfl))|refine t1_ ?_|(refine ta_ ?_;intro _)|((fail_if_success (refine ybi rfl ?_));refine ybj rfl ?_ ?_<;>(intro ht;rw [ht];first|replace ht := oet_ ht|replace ht := oef_ ht|skip))|(refine ych ?_;first|(refine ybw rfl ?_ ?_<;>intro ht)|(refine ybx rfl ?_ ?_<;>intro ht)))
  (refine yco (ycp Tryd.func16 rfl (by kernel_rfl) rfl) (bclone_sp _ key h hb (by omega)) rfl rfl rfl ?_ ?_ ?_; (· (exact to_)); (· intro _ _ hle; (exact to_)); intro x px hle)
  refine rx_rowform 0 rfl (fun _ h1 _ => (by omega)) ?_
  rintro g1 cap1 rfl
  clear px hle
  have wl : IntKind.i64.wrap (64 - (key.length : Nat) : Int) = ((64 - key.length : Nat) : Int) := by rw [IntKind.wrap_i64]<;>omega
  repeat' (first|(refine ycf ?_;apply ybk;(·first|(first|exact tk_|(refine qv_subr rfl rfl wl)));(·rfl);(·rfl))|refine t1_ ?_|(refine ta_ ?_;intro _)|((fail_if_success (refine ybi rfl ?_));refine ybj rfl ?_ ?_<;>(intro ht;rw [ht];first|replace ht := oet_ ht|replace ht := oef_ ht|skip))|(refine ych ?_;first|(refine ybw rfl ?_ ?_<;>intro ht)|(refine ybx rfl ?_ ?_<;>intro ht)))
  refine rx_append_zeros (z := .int .u8 0) (sz := 1) 0 rfl rfl rfl rfl rfl (by omega) (by unfold maxLen; omega) (by omega) rfl rfl rfl ybf (fun _ => ybf) ?_
  intro v1
  rw [zc_bytes, ← bcs_app]
  have hwl : (key ++ List.replicate (64 - key.length) 0).length = 64 := by simp; omega
  have hwb : Bytes (key ++ List.replicate (64 - key.length) 0) := cbytes_app hk (zeros_by _)
  have e64 : key.length + (64 - key.length) = (key ++ List.replicate (64 - key.length) (0 : Int)).length := by simp
  rw [e64]
  refine rx_persist rfl fun h1 hle1 hv1 => ?_
  have hv1 : Bs8 h1 v1 (key ++ List.replicate (64 - key.length) 0) := hv1
  unfold hpadF
  generalize key ++ List.replicate (64 - key.length) 0 = wide at hwl hwb hv1 ⊢
  obtain ⟨_, adw, capw, rfl, hcapw, _⟩ := id hv1
  repeat' (first|(refine ycf ?_;apply ybk;(·first|(exact tk_));(·rfl);(·rfl))|refine t1_ ?_|(refine ta_ ?_;intro _)|((fail_if_success (refine ybi rfl ?_));refine ybj rfl ?_ ?_<;>(intro ht;rw [ht];first|replace ht := oet_ ht|replace ht := oef_ ht|skip))|(refine ych ?_;first|(refine ybw rfl ?_ ?_<;>intro ht)|(refine ybx rfl ?_ ?_<;>intro ht)))
  refine rx_rowOf 1 1 1 (Nat.le_refl _) (by unfold maxLen; omega) rfl ?_
  refine rx_persist rfl fun h2 hle2 hv2 => ?_
  have hv2 : Bs8 h2 (.slice (some ⟨_, 0, none⟩) 1 1) [c] := hv2
  repeat' (first|(refine ycf ?_;apply ybk;(·first|(exact tk_));(·rfl);(·rfl))|refine t1_ ?_|(refine ta_ ?_;intro _)|((fail_if_success (refine ybi rfl ?_));refine ybj rfl ?_ ?_<;>(intro ht;rw [ht];first|replace ht := oet_ ht|replace ht := oef_ ht|skip))|(refine ych ?_;first|(refine ybw rfl ?_ ?_<;>intro ht)|(refine ybx rfl ?_ ?_<;>intro ht)))
  (refine yco (ycp Tryd.func61 rfl (by kernel_rfl) rfl) (Repeat_sp _ c hc h2 hv2) rfl rfl rfl ?_ ?_ ?_; (· (exact to_)); (· intro _ _ hle; (exact to_)); intro x px hle)
  obtain ⟨h3, v3⟩ := x
  dsimp only at px hle ⊢
  have hle3 : Le h2 h3 := hle
  clear hle
  repeat' (first|(refine ycf ?_;apply ybk;(·first|(exact tk_));(·rfl);(·rfl))|refine t1_ ?_|(refine ta_ ?_;intro _)|((fail_if_success (refine ybi rfl ?_));refine ybj rfl ?_ ?_<;>(intro ht;rw [ht];first|replace ht := oet_ ht|replace ht := oef_ ht|skip))|(refine ych ?_;first|(refine ybw rfl ?_ ?_<;>intro ht)|(refine ybx rfl ?_ ?_<;>intro ht)))
  (refine yco (ycp Tryd.func53 rfl (by kernel_rfl) rfl) (Mix_sp _ v3 wide (List.replicate 64 c) h3 ((hv1.mono hle2).mono hle3) px hwb (fun x hx => by rw [(List.mem_replicate.1 hx).2]; exact hc) (by omega)) rfl rfl rfl ?_ ?_ ?_; (· (exact to_)); (· intro _ _ hle; (exact to_)); intro x px hle)
  repeat' (first|(refine ycf ?_;apply ybk;(·first|(exact tk_));(·rfl);(·rfl))|refine t1_ ?_|(refine ta_ ?_;intro _)|((fail_if_success (refine ybi rfl ?_));refine ybj rfl ?_ ?_<;>(intro ht;rw [ht];first|replace ht := oet_ ht|replace ht := oef_ ht|skip))|(refine ych ?_;first|(refine ybw rfl ?_ ?_<;>intro ht)|(refine ybx rfl ?_ ?_<;>intro ht)))
  exact nx_ret1 rfl (rv_tmp rfl) (fun w' s' => ⟨x, rfl, s'.baseL, trivial⟩)
end Go.Proofs.YtgeepceieckooaaDoor
end
