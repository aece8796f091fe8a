/-
  Part 10 of a proof: VaI VaJ VaK VaL VaM.
  Conditions: each theorem states its own.
-/
import Derived.Test.YtaofgcahmfailaaGreatDoorCjGPM9
set_option maxRecDepth 100000
set_option linter.unusedVariables false
section
namespace Go.Proofs.YtaofgcahmfailaaGreatDoor
open Go Go.Ck
set_option maxHeartbeats 4000000
def nmL (N : List (List Int)) : List (ByteArray × Value) := N.zipIdx.map fun x => (bstr x.1, .int .i64 ((x.2 + 1 : Nat) : Int))
def addN (N : List (List Int)) (x : List Int) : List (List Int) := if x ∈ N then N else N ++ [x]
def Names (N : List (List Int)) : Prop := ∀ x ∈ N, Bytes x
theorem bstr_bc {l : List Int} (hb : Bytes l) : ((bstr l).data.map fun b => Value.int .u8 b.toNat).toList = bcs l := by
  unfold bstr bcs
  simp only [Array.toList_map, List.map_map]
  refine List.map_congr_left fun x hx => ?_
  have := hb x hx
  show Value.int .u8 ((UInt8.ofNat x.toNat).toNat : Int) = _
  congr 1
  simp
  omega
theorem bstr_inj {a b : List Int} (ha : Bytes a) (hb : Bytes b) (h : bstr a = bstr b) : a = b := by
  have h1 := bstr_bc ha
  have h2 := bstr_bc hb
  rw [h] at h1
  have h3 : bcs a = bcs b := h1.symm.trans h2
  have h4 := congrArg (List.map fun v => match v with | .int _ i => i | _ => 0) h3
  simpa [bcs, List.map_map, Function.comp_def] using h4
theorem nm_get {N : List (List Int)} (hN : Names N) {x : List Int} (hx : Bytes x) : ∀ k, mget (((N.zipIdx k).map fun x => (bstr x.1, Value.int .i64 ((x.2 + 1 : Nat) : Int)))) (bstr x) = if x ∈ N then some (.int .i64 ((k + N.idxOf x + 1 : Nat) : Int)) else none := by
  induction N with
  | nil => intro k; rfl
  | cons y N ih =>
    intro k
    simp only [List.zipIdx_cons, List.map_cons, mget]
    by_cases hxy : x = y
    · subst hxy
      rw [if_pos rfl, if_pos (List.mem_cons_self ..), List.idxOf_cons_self]
    · have hb : ¬ bstr x = bstr y := fun e => hxy (bstr_inj hx (hN y (List.mem_cons_self ..)) e)
      rw [if_neg hb, ih (fun z hz => hN z (List.mem_cons_of_mem _ hz)) (k + 1)]
      have hm : (x ∈ y :: N) ↔ x ∈ N := by simp [hxy]
      by_cases hxN : x ∈ N
      · have hb2 : (y == x) = false := by simpa using fun e => hxy (Eq.symm e)
        have he : List.idxOf x (y :: N) = List.idxOf x N + 1 := by rw [List.idxOf_cons, hb2]; rfl
        rw [if_pos hxN, if_pos (hm.2 hxN), he]
        congr 3
        omega
      · rw [if_neg hxN, if_neg (fun h => hxN (hm.1 h))]
theorem nmL_get {N : List (List Int)} (hN : Names N) {x : List Int} (hx : Bytes x) : mget (nmL N) (bstr x) = if x ∈ N then some (.int .i64 ((N.idxOf x + 1 : Nat) : Int)) else none := by
  have := nm_get hN hx 0
  rw [Nat.zero_add] at this
  exact this
theorem nmL_len (N : List (List Int)) : (nmL N).length = N.length := by simp [nmL]
theorem nmL_add {N : List (List Int)} (hN : Names N) {x : List Int} (hx : Bytes x) (hn : x ∉ N) : mput (nmL N) (bstr x) (.int .i64 ((N.length + 1 : Nat) : Int)) = nmL (addN N x) := by
  rw [mput_new (by rw [nmL_get hN hx, if_neg hn]), addN, if_neg hn]
  simp [nmL, List.zipIdx_append]
theorem addN_names {N : List (List Int)} (hN : Names N) {x : List Int} (hx : Bytes x) : Names (addN N x) := by
  unfold addN
  split
  · exact hN
  · intro y hy
    rcases List.mem_append.1 hy with hy | hy
    · exact hN y hy
    · rw [List.mem_singleton.1 hy]; exact hx
abbrev nmR (bn : Nat) (N : List (List Int)) : Res := Res.mp Value.string bn (nmL N)
def blindF (key : List Int) (N : List (List Int)) (x : List Int) : List Int := drawF key 0 (N.idxOf x + 1) 32
theorem Blind_sp (bv : Nat) (key : List Int) (bn bu bt : Nat) (N : List (List Int)) (v : Value) (nm : List Int) (hk : Bytes key) (hk32 : key.length = 32) (hN : Names N) (hNl : N.length < 900000) (hx : Bytes nm) (hxl : 1 ≤ nm.length ∧ nm.length ≤ 64) (h : View) (hv : Vb h bv true key bn bu bt) (hs : Bs8 h v nm) (w : World) (s : St ⟨w, h, doms [nmR bn N]⟩ h [nmR bn N] w) :
    Calls Tryz.prog 37 [.pointer (some ⟨bv, 0, none⟩), v].toArray w fun e w' => ∃ _ : Unit, e = .returned (.tuple #[.agg (bcs (blindF key N nm)).toArray, .int .i64 0]) ∧ St ⟨w, h, doms [nmR bn N]⟩ h [nmR bn (addN N nm)] w' ∧ True := by
  obtain ⟨_, ad, cap, rfl, hcap, _⟩ := id hs
  refine calls_enter Tryz.func37 rfl Tryz.ntmps37 rfl s ?_
  repeat' (first|(refine ycf ?_;apply ybk;(·first|(first|exact tk_|(apply qv_eql_pnil<;>rfl)|(apply qv_nilCheck;rfl))|(apply yae;(·rfl);(·(first|exact hv.at hk32 (.inl ⟨rfl, rfl⟩)|exact hv.at hk32 (.inr (.inl ⟨rfl, rfl⟩))))));(·rfl);(·rfl))|refine t1_ ?_|(refine ta_ ?_;intro _)|((fail_if_success (refine ybi rfl ?_));refine ybj rfl ?_ ?_<;>(intro ht;rw [ht];first|replace ht := oet_ ht|replace ht := oef_ ht|skip))|(refine ych ?_;first|(refine ybw rfl ?_ ?_<;>intro ht)|(refine ybx rfl ?_ ?_<;>intro ht)))
  rename_i b4
  have hget := nmL_get hN hx
  by_cases hm : nm ∈ N
  · have hil : N.idxOf nm < N.length := List.idxOf_lt_length_of_mem hm
    rw [if_pos hm] at hget
    have hg1 : (mget (nmL N) (bstr nm)).getD (.int .i64 0) = .int .i64 ((N.idxOf nm + 1 : Nat) : Int) := by rw [hget]; rfl
    have hg2 : (mget (nmL N) (bstr nm)).isSome = true := by rw [hget]; rfl
    refine cx_region_draw' rfl (by kernel_rfl) ?_
    repeat' (refine ycf ?_;(first|(first|(apply ybm;(·(first|(first|exact tk_|(apply qv_nilCheck;rfl)|(refine qv_str_bs rfl hs)|(refine qv_lookup_ok 1 string_kl rfl rfl rfl hg1 hg2))|(apply yae;(·rfl);(·(first|exact hv.at hk32 (.inl ⟨rfl, rfl⟩)|exact hv.at hk32 (.inr (.inl ⟨rfl, rfl⟩)))))|exact tq_));(·rfl);(·rfl);(·(exact th_)))|refine ybl rfl rfl ?_|((fail_if_success (refine ybi rfl ?_));refine ybj rfl ?_ ?_<;>(intro ht;rw [ht];first|replace ht := oet_ ht|replace ht := oef_ ht|skip))|(refine tb_ ?_ ?_ ?_;(·(exact to_));(·intro _;(exact to_));intro _)|(first|(refine tqs_ ?_ ?_ ?_;(·(exact to_));(·(exact to_))))|(apply ybn;(·(first|(first|exact tk_|(apply qv_nilCheck;rfl)|(refine qv_str_bs rfl hs)|(refine qv_lookup_ok 1 string_kl rfl rfl rfl hg1 hg2))|(apply yae;(·rfl);(·(first|exact hv.at hk32 (.inl ⟨rfl, rfl⟩)|exact hv.at hk32 (.inr (.inl ⟨rfl, rfl⟩)))))|exact tq_));(·rfl);(·rfl);(·rfl);(·(exact to_))))|refine ycg ?_))
    have ha : addN N nm = N := if_pos hm
    rw [ha]
    repeat' (first|(refine ycf ?_;apply ybk;(·first|(exact tk_)|(apply yae;(·rfl);(·(first|exact hv.at hk32 (.inl ⟨rfl, rfl⟩)|exact hv.at hk32 (.inr (.inl ⟨rfl, rfl⟩))))));(·rfl);(·rfl))|refine t1_ ?_|(refine ta_ ?_;intro _)|((fail_if_success (refine ybi rfl ?_));refine ybj rfl ?_ ?_<;>(intro ht;rw [ht];first|replace ht := oet_ ht|replace ht := oef_ ht|skip))|(refine ych ?_;first|(refine ybw rfl ?_ ?_<;>intro ht)|(refine ybx rfl ?_ ?_<;>intro ht)))
    (refine yco (ycp Tryz.func55 rfl (by kernel_rfl) rfl) (draw_sp bv true key bn bu bt 0 (N.idxOf nm + 1) 32 hk hk32 (by omega) (by omega) (by omega) h hv) rfl rfl rfl ?_ ?_ ?_; (· (exact to_)); (· intro _ _ hle; (exact to_)); intro x px hle)
    have hdl := drawF_len key 0 (N.idxOf nm + 1) 32 (by omega)
    have hol : (bcs (drawF key 0 (N.idxOf nm + 1) 32)).length = 32 := by rw [bcs_len, hdl]
    unfold blindF
    generalize drawF key 0 (N.idxOf nm + 1) 32 = out at hdl hol ⊢
    refine rx_rowform 0 rfl (fun _ h1 _ => (by omega)) ?_
    rintro g6 cap6 rfl
    repeat' (first|(refine ycf ?_;apply ybk;(·first|(first|(refine qv_arrptr rfl (by omega))|(apply yad;(·rfl);(·exact row_cells 0 rfl);(·exact hol)))|(apply yae;(·rfl);(·(first|exact hv.at hk32 (.inl ⟨rfl, rfl⟩)|exact hv.at hk32 (.inr (.inl ⟨rfl, rfl⟩))))));(·rfl);(·rfl))|(refine ybg 1 rfl rfl rfl (by show (bcs out).toArray.size = 32;simpa using hol) (by show 0 + (bcs out).toArray.size ≤ _;rw [List.size_toArray, hol];exact nble rfl) (List.all_eq_true.2 (bcs_one out)) (ybh (by show (bcs out).length = _;rw [hol];rfl)) rfl rfl ?_ ?_ ?_;(·(exact to_));(·(exact to_)))|refine t1_ ?_|(refine ta_ ?_;intro _)|((fail_if_success (refine ybi rfl ?_));refine ybj rfl ?_ ?_<;>(intro ht;rw [ht];first|replace ht := oet_ ht|replace ht := oef_ ht|skip))|(refine ych ?_;first|(refine ybw rfl ?_ ?_<;>intro ht)|(refine ybx rfl ?_ ?_<;>intro ht)))
    exact nx_ret2 rfl (rv_cells rfl (yaz 1 rfl) (by show (bcs out).toArray.toList.length = 32; simpa using hol)) (rv_tmp rfl) (fun w' s' => ⟨(), rfl, s'.tl.tl, trivial⟩)
  · have hget0 := hget
    rw [if_neg hm] at hget
    have hix : N.idxOf nm = N.length := List.idxOf_eq_length hm
    have hg1 : (mget (nmL N) (bstr nm)).getD (.int .i64 0) = .int .i64 0 := by rw [hget]; rfl
    have hg2 : (mget (nmL N) (bstr nm)).isSome = false := by rw [hget]; rfl
    have wl : IntKind.i64.wrap (((nmL N).length : Nat) + 1 : Int) = ((N.length + 1 : Nat) : Int) := by rw [nmL_len, IntKind.wrap_i64]<;>omega
    refine cx_region_draw' rfl (by kernel_rfl) ?_
    repeat' (refine ycf ?_;(first|(first|(apply ybm;(·(first|(first|exact tk_|(apply qv_nilCheck;rfl)|(refine qv_str_bs rfl hs)|(refine qv_lookup_ok 1 string_kl rfl rfl rfl hg1 hg2)|(refine qv_len_map 1 rfl rfl)|(refine qv_addr rfl rfl wl))|(apply yae;(·rfl);(·(first|exact hv.at hk32 (.inl ⟨rfl, rfl⟩)|exact hv.at hk32 (.inr (.inl ⟨rfl, rfl⟩)))))|exact tq_));(·rfl);(·rfl);(·(exact th_)))|refine ybl rfl rfl ?_|((fail_if_success (refine ybi rfl ?_));refine ybj rfl ?_ ?_<;>(intro ht;rw [ht];first|replace ht := oet_ ht|replace ht := oef_ ht|skip))|(refine tb_ ?_ ?_ ?_;(·(exact to_));(·intro _;(exact to_));intro _)|(first|(refine tqs_ ?_ ?_ ?_;(·(exact to_));(·(exact to_))))|(apply ybn;(·(first|(first|exact tk_|(apply qv_nilCheck;rfl)|(refine qv_str_bs rfl hs)|(refine qv_lookup_ok 1 string_kl rfl rfl rfl hg1 hg2)|(refine qv_len_map 1 rfl rfl)|(refine qv_addr rfl rfl wl))|(apply yae;(·rfl);(·(first|exact hv.at hk32 (.inl ⟨rfl, rfl⟩)|exact hv.at hk32 (.inr (.inl ⟨rfl, rfl⟩)))))|exact tq_));(·rfl);(·rfl);(·rfl);(·(exact to_))))|refine ycg ?_))
    repeat' (first|(refine ycf ?_;apply ybk;(·first|(first|exact tk_|(apply qv_nilCheck;rfl)|(refine qv_str_bs rfl hs)|(refine qv_lookup_ok 1 string_kl rfl rfl rfl hg1 hg2)|(refine qv_len_map 1 rfl rfl)|(refine qv_addr rfl rfl wl))|(apply yae;(·rfl);(·(first|exact hv.at hk32 (.inl ⟨rfl, rfl⟩)|exact hv.at hk32 (.inr (.inl ⟨rfl, rfl⟩))))));(·rfl);(·rfl))|refine t1_ ?_|(refine ta_ ?_;intro _)|((fail_if_success (refine ybi rfl ?_));refine ybj rfl ?_ ?_<;>(intro ht;rw [ht];first|replace ht := oet_ ht|replace ht := oef_ ht|skip))|(refine ych ?_;first|(refine ybw rfl ?_ ?_<;>intro ht)|(refine ybx rfl ?_ ?_<;>intro ht)))
    refine cx_region_draw' rfl (by kernel_rfl) ?_
    repeat' (refine ycf ?_;(first|(first|(apply ybm;(·(first|(first|exact tk_|(apply qv_nilCheck;rfl)|(refine qv_str_bs rfl hs)|(refine qv_lookup_ok 1 string_kl rfl rfl rfl hg1 hg2)|(refine qv_len_map 1 rfl rfl)|(refine qv_addr rfl rfl wl))|(apply yae;(·rfl);(·(first|exact hv.at hk32 (.inl ⟨rfl, rfl⟩)|exact hv.at hk32 (.inr (.inl ⟨rfl, rfl⟩)))))|exact tq_));(·rfl);(·rfl);(·(exact th_)))|refine ybl rfl rfl ?_|((fail_if_success (refine ybi rfl ?_));refine ybj rfl ?_ ?_<;>(intro ht;rw [ht];first|replace ht := oet_ ht|replace ht := oef_ ht|skip))|(refine tb_ ?_ ?_ ?_;(·(exact to_));(·intro _;(exact to_));intro _)|(first|(refine tqs_ ?_ ?_ ?_;(·(exact to_));(·(exact to_))))|(apply ybn;(·(first|(first|exact tk_|(apply qv_nilCheck;rfl)|(refine qv_str_bs rfl hs)|(refine qv_lookup_ok 1 string_kl rfl rfl rfl hg1 hg2)|(refine qv_len_map 1 rfl rfl)|(refine qv_addr rfl rfl wl))|(apply yae;(·rfl);(·(first|exact hv.at hk32 (.inl ⟨rfl, rfl⟩)|exact hv.at hk32 (.inr (.inl ⟨rfl, rfl⟩)))))|exact tq_));(·rfl);(·rfl);(·rfl);(·(exact to_))))|refine ycg ?_))
    refine rx_mapUpdate 1 string_kl rfl rfl rfl rfl rfl rfl ?_ ?_ ?_
    · (exact to_)
    · exact .inr (by kernel_rfl)
    have hmp : mput (nmL N) (bstr nm) (.int .i64 ((N.length + 1 : Nat) : Int)) = nmL (addN N nm) := nmL_add hN hx hm
    rw [hmp]
    generalize hN2 : addN N nm = N2
    show RX _ _ _ _ _ _ _ [_, nmR bn N2] _
    repeat' (refine ycf ?_;(first|(first|(apply ybm;(·(first|(first|exact tk_|(apply qv_nilCheck;rfl)|(refine qv_str_bs rfl hs)|(refine qv_lookup_ok 1 string_kl rfl rfl rfl hg1 hg2)|(refine qv_len_map 1 rfl rfl)|(refine qv_addr rfl rfl wl))|(apply yae;(·rfl);(·(first|exact hv.at hk32 (.inl ⟨rfl, rfl⟩)|exact hv.at hk32 (.inr (.inl ⟨rfl, rfl⟩)))))|exact tq_));(·rfl);(·rfl);(·(exact th_)))|refine ybl rfl rfl ?_|((fail_if_success (refine ybi rfl ?_));refine ybj rfl ?_ ?_<;>(intro ht;rw [ht];first|replace ht := oet_ ht|replace ht := oef_ ht|skip))|(refine tb_ ?_ ?_ ?_;(·(exact to_));(·intro _;(exact to_));intro _)|(first|(refine tqs_ ?_ ?_ ?_;(·(exact to_));(·(exact to_))))|(apply ybn;(·(first|(first|exact tk_|(apply qv_nilCheck;rfl)|(refine qv_str_bs rfl hs)|(refine qv_lookup_ok 1 string_kl rfl rfl rfl hg1 hg2)|(refine qv_len_map 1 rfl rfl)|(refine qv_addr rfl rfl wl))|(apply yae;(·rfl);(·(first|exact hv.at hk32 (.inl ⟨rfl, rfl⟩)|exact hv.at hk32 (.inr (.inl ⟨rfl, rfl⟩)))))|exact tq_));(·rfl);(·rfl);(·rfl);(·(exact to_))))|refine ycg ?_))
    repeat' (first|(refine ycf ?_;apply ybk;(·first|(exact tk_)|(apply yae;(·rfl);(·(first|exact hv.at hk32 (.inl ⟨rfl, rfl⟩)|exact hv.at hk32 (.inr (.inl ⟨rfl, rfl⟩))))));(·rfl);(·rfl))|refine t1_ ?_|(refine ta_ ?_;intro _)|((fail_if_success (refine ybi rfl ?_));refine ybj rfl ?_ ?_<;>(intro ht;rw [ht];first|replace ht := oet_ ht|replace ht := oef_ ht|skip))|(refine ych ?_;first|(refine ybw rfl ?_ ?_<;>intro ht)|(refine ybx rfl ?_ ?_<;>intro ht)))
    (refine yco (ycp Tryz.func55 rfl (by kernel_rfl) rfl) (draw_sp bv true key bn bu bt 0 (N.length + 1) 32 hk hk32 (by omega) (by omega) (by omega) h hv) rfl rfl rfl ?_ ?_ ?_; (· (exact to_)); (· intro _ _ hle; (exact to_)); intro x px hle)
    have hdl := drawF_len key 0 (N.length + 1) 32 (by omega)
    have hol : (bcs (drawF key 0 (N.length + 1) 32)).length = 32 := by rw [bcs_len, hdl]
    unfold blindF
    rw [hix]
    generalize drawF key 0 (N.length + 1) 32 = out at hdl hol ⊢
    refine rx_rowform 0 rfl (fun _ h1 _ => (by omega)) ?_
    rintro g6 cap6 rfl
    repeat' (first|(refine ycf ?_;apply ybk;(·first|(first|(refine qv_arrptr rfl (by omega))|(apply yad;(·rfl);(·exact row_cells 0 rfl);(·exact hol)))|(apply yae;(·rfl);(·(first|exact hv.at hk32 (.inl ⟨rfl, rfl⟩)|exact hv.at hk32 (.inr (.inl ⟨rfl, rfl⟩))))));(·rfl);(·rfl))|(refine ybg 1 rfl rfl rfl (by show (bcs out).toArray.size = 32;simpa using hol) (by show 0 + (bcs out).toArray.size ≤ _;rw [List.size_toArray, hol];exact nble rfl) (List.all_eq_true.2 (bcs_one out)) (ybh (by show (bcs out).length = _;rw [hol];rfl)) rfl rfl ?_ ?_ ?_;(·(exact to_));(·(exact to_)))|refine t1_ ?_|(refine ta_ ?_;intro _)|((fail_if_success (refine ybi rfl ?_));refine ybj rfl ?_ ?_<;>(intro ht;rw [ht];first|replace ht := oet_ ht|replace ht := oef_ ht|skip))|(refine ych ?_;first|(refine ybw rfl ?_ ?_<;>intro ht)|(refine ybx rfl ?_ ?_<;>intro ht)))
    exact nx_ret2 rfl (rv_cells rfl (yaz 1 rfl) (by show (bcs out).toArray.toList.length = 32; simpa using hol)) (rv_tmp rfl) (fun w' s' => ⟨(), rfl, s'.tl.tl, trivial⟩)
end Go.Proofs.YtaofgcahmfailaaGreatDoor
end

section
namespace Go.Proofs.YtaofgcahmfailaaGreatDoor
open Go Go.Ck
set_option maxHeartbeats 4000000
abbrev useV : UseK → Value := fun a => Value.agg (useA a)
abbrev seaV : SeaK → Value := fun a => Value.agg (seaA a)
def usL (U : List UseK) : List (UseK × Value) := U.map fun x => (x, .bool true)
abbrev usR (bu : Nat) (U : List UseK) : Res := Res.mp useV bu (usL U)
abbrev Tab := List (SeaK × Value × List Int)
def tbL (T : Tab) : List (SeaK × Value) := T.map fun x => (x.1, x.2.1)
abbrev tbR (bt : Nat) (T : Tab) : Res := Res.mp seaV bt (tbL T)
theorem usL_get (U : List UseK) (a : UseK) : mget (usL U) a = if a ∈ U then some (.bool true) else none := by
  induction U with
  | nil => rfl
  | cons y U ih =>
    show (if a = y then some (Value.bool true) else mget (usL U) a) = _
    by_cases h : a = y
    · rw [if_pos h, if_pos (by rw [h]; exact List.mem_cons_self ..)]
    · rw [if_neg h, ih]
      have : (a ∈ y :: U) ↔ a ∈ U := by simp [h]
      simp only [this]
theorem usL_put {U : List UseK} {a : UseK} (h : a ∉ U) : mput (usL U) a (.bool true) = usL (U ++ [a]) := by
  rw [mput_new (by rw [usL_get, if_neg h])]
  simp [usL]
theorem usL_len (U : List UseK) : (usL U).length = U.length := by simp [usL]
def Held (U : List UseK) (T : Tab) : Prop := ∀ x ∈ T, (x.1.1, x.1.2.1) ∈ U
def TbOk (h : View) (T : Tab) : Prop := ∀ x ∈ T, Bs8 h x.2.1 x.2.2
theorem TbOk.mono {h h' : View} {T : Tab} (s : TbOk h T) (hl : Le h h') : TbOk h' T := fun x hx => (s x hx).mono hl
theorem tbL_new {U : List UseK} {T : Tab} (hh : Held U T) {k : SeaK} (hk : (k.1, k.2.1) ∉ U) : mget (tbL T) k = none := by
  rw [mget_none]
  intro x hx e
  obtain ⟨y, hy, rfl⟩ := List.mem_map.1 hx
  have e : y.1 = k := e
  exact hk (e ▸ hh y hy)
theorem tbL_put {U : List UseK} {T : Tab} (hh : Held U T) {k : SeaK} (hk : (k.1, k.2.1) ∉ U) (v : Value) (b : List Int) : mput (tbL T) k v = tbL (T ++ [(k, v, b)]) := by
  rw [mput_new (tbL_new hh hk)]
  simp [tbL]
theorem Held.add {U : List UseK} {T : Tab} (hh : Held U T) (k : SeaK) (v : Value) (b : List Int) : Held (U ++ [(k.1, k.2.1)]) (T ++ [(k, v, b)]) := fun x hx => by
  rcases List.mem_append.1 hx with hx | hx
  · exact List.mem_append_left _ (hh x hx)
  · rw [List.mem_singleton.1 hx]
    exact List.mem_append_right _ (List.mem_singleton.2 rfl)
def sealF (key : List Int) (U : List UseK) (b : List Int) : List Int := drawF key 1 (U.length + 1) (b.length + 16)
theorem VSeal_sp (bv : Nat) (key : List Int) (bn bu bt : Nat) (U : List UseK) (T : Tab) (ep c n : Int) (vw vb : Value) (wi b : List Int) (hk : Bytes key) (hk32 : key.length = 32) (hU : U.length < 900000) (hT : Held U T) (hok : sealOk ep c n) (hnew : (c, n) ∉ U) (hbl : b.length ≤ 5000)
    (h : View) (hv : Vb h bv true key bn bu bt) (hw : Bs8 h vw wi) (hb : Bs8 h vb b) (w : World) (s : St ⟨w, h, doms [usR bu U, tbR bt T]⟩ h [usR bu U, tbR bt T] w) :
    Calls Tryz.prog 41 [.pointer (some ⟨bv, 0, none⟩), .int .i64 ep, .int .i64 c, .int .i64 n, vw, vb].toArray w fun e w' => ∃ x : View × Value × Value, e = .returned (.tuple #[x.2.1, .int .i64 0]) ∧
      St ⟨w, h, doms [usR bu U, tbR bt T]⟩ x.1 [rowB x.2.1 (sealF key U b), usR bu (U ++ [(c, n)]), tbR bt (T ++ [((c, n, ep, bstr wi, bstr (sealF key U b)), x.2.2, b)])] w' ∧ Bs8 x.1 x.2.2 b := by
  obtain ⟨_, adw, capw, rfl, hcapw, _⟩ := id hw
  obtain ⟨_, adb, capb, rfl, hcapb, _⟩ := id hb
  have R1 := vright_sp ep c n h
  rw [if_pos hok] at R1
  refine calls_enter Tryz.func41 rfl Tryz.ntmps41 rfl s ?_
  repeat' (first|(refine ycf ?_;apply ybk;(·first|(first|exact tk_|(apply qv_eql_pnil<;>rfl)|(apply qv_nilCheck;rfl))|(apply yae;(·rfl);(·(first|exact hv.at hk32 (.inl ⟨rfl, rfl⟩)|exact hv.at hk32 (.inr (.inr (.inl ⟨rfl, rfl⟩)))|exact hv.at hk32 (.inr (.inr (.inr ⟨rfl, rfl⟩)))))));(·rfl);(·rfl))|refine t1_ ?_|(refine ta_ ?_;intro _)|((fail_if_success (refine ybi rfl ?_));refine ybj rfl ?_ ?_<;>(intro ht;rw [ht];first|replace ht := oet_ ht|replace ht := oef_ ht|skip))|(refine ych ?_;first|(refine ybw rfl ?_ ?_<;>intro ht)|(refine ybx rfl ?_ ?_<;>intro ht)))
  (refine ycn (ycp Tryz.func58 rfl (by kernel_rfl) rfl) (R1) rfl rfl rfl ?_ ?_; (· (exact to_)))
  repeat' (first|(refine ycf ?_;apply ybk;(·first|(first|exact tk_|(apply qv_eql_pnil<;>rfl)|(apply qv_nilCheck;rfl))|(apply yae;(·rfl);(·(first|exact hv.at hk32 (.inl ⟨rfl, rfl⟩)|exact hv.at hk32 (.inr (.inr (.inl ⟨rfl, rfl⟩)))|exact hv.at hk32 (.inr (.inr (.inr ⟨rfl, rfl⟩)))))));(·rfl);(·rfl))|refine t1_ ?_|(refine ta_ ?_;intro _)|((fail_if_success (refine ybi rfl ?_));refine ybj rfl ?_ ?_<;>(intro ht;rw [ht];first|replace ht := oet_ ht|replace ht := oef_ ht|skip))|(refine ych ?_;first|(refine ybw rfl ?_ ?_<;>intro ht)|(refine ybx rfl ?_ ?_<;>intro ht)))
  have hu0 : (mget (usL U) ((c, n) : UseK)).getD (.bool false) = .bool false := by rw [usL_get, if_neg hnew]; rfl
  refine cx_region_draw' rfl (by kernel_rfl) ?_
  repeat' (refine ycf ?_;(first|(first|(apply ybm;(·(first|(first|exact tk_|(apply qv_nilCheck;rfl)|(refine qv_lookup (a := ((c, n) : UseK)) 1 use_kl rfl rfl rfl hu0))|(apply yae;(·rfl);(·(first|exact hv.at hk32 (.inl ⟨rfl, rfl⟩)|exact hv.at hk32 (.inr (.inr (.inl ⟨rfl, rfl⟩)))|exact hv.at hk32 (.inr (.inr (.inr ⟨rfl, rfl⟩))))))|exact tq_));(·rfl);(·rfl);(·(exact th_)))|refine ybl rfl rfl ?_|((fail_if_success (refine ybi rfl ?_));refine ybj rfl ?_ ?_<;>(intro ht;rw [ht];first|replace ht := oet_ ht|replace ht := oef_ ht|skip))|(refine tb_ ?_ ?_ ?_;(·(exact to_));(·intro _;(exact to_));intro _)|(first|(refine tqs_ ?_ ?_ ?_;(·(exact to_));(·(exact to_))))|(apply ybn;(·(first|(first|exact tk_|(apply qv_nilCheck;rfl)|(refine qv_lookup (a := ((c, n) : UseK)) 1 use_kl rfl rfl rfl hu0))|(apply yae;(·rfl);(·(first|exact hv.at hk32 (.inl ⟨rfl, rfl⟩)|exact hv.at hk32 (.inr (.inr (.inl ⟨rfl, rfl⟩)))|exact hv.at hk32 (.inr (.inr (.inr ⟨rfl, rfl⟩))))))|exact tq_));(·rfl);(·rfl);(·rfl);(·(exact to_))))|refine ycg ?_))
  repeat' (first|(refine ycf ?_;apply ybk;(·first|(first|exact tk_|(apply qv_nilCheck;rfl))|(apply yae;(·rfl);(·(first|exact hv.at hk32 (.inl ⟨rfl, rfl⟩)|exact hv.at hk32 (.inr (.inr (.inl ⟨rfl, rfl⟩)))|exact hv.at hk32 (.inr (.inr (.inr ⟨rfl, rfl⟩)))))));(·rfl);(·rfl))|refine t1_ ?_|(refine ta_ ?_;intro _)|((fail_if_success (refine ybi rfl ?_));refine ybj rfl ?_ ?_<;>(intro ht;rw [ht];first|replace ht := oet_ ht|replace ht := oef_ ht|skip))|(refine ych ?_;first|(refine ybw rfl ?_ ?_<;>intro ht)|(refine ybx rfl ?_ ?_<;>intro ht)))
  refine cx_region_draw' rfl (by kernel_rfl) ?_
  repeat' (refine ycf ?_;(first|(first|(apply ybm;(·(first|(first|exact tk_|(apply qv_nilCheck;rfl))|(apply yae;(·rfl);(·(first|exact hv.at hk32 (.inl ⟨rfl, rfl⟩)|exact hv.at hk32 (.inr (.inr (.inl ⟨rfl, rfl⟩)))|exact hv.at hk32 (.inr (.inr (.inr ⟨rfl, rfl⟩))))))|exact tq_));(·rfl);(·rfl);(·(exact th_)))|refine ybl rfl rfl ?_|((fail_if_success (refine ybi rfl ?_));refine ybj rfl ?_ ?_<;>(intro ht;rw [ht];first|replace ht := oet_ ht|replace ht := oef_ ht|skip))|(refine tb_ ?_ ?_ ?_;(·(exact to_));(·intro _;(exact to_));intro _)|(first|(refine tqs_ ?_ ?_ ?_;(·(exact to_));(·(exact to_))))|(apply ybn;(·(first|(first|exact tk_|(apply qv_nilCheck;rfl))|(apply yae;(·rfl);(·(first|exact hv.at hk32 (.inl ⟨rfl, rfl⟩)|exact hv.at hk32 (.inr (.inr (.inl ⟨rfl, rfl⟩)))|exact hv.at hk32 (.inr (.inr (.inr ⟨rfl, rfl⟩))))))|exact tq_));(·rfl);(·rfl);(·rfl);(·(exact to_))))|refine ycg ?_))
  refine rx_mapUpdate (a := ((c, n) : UseK)) 1 use_kl rfl rfl rfl rfl rfl rfl ?_ ?_ ?_
  · (exact to_)
  · exact .inr (by kernel_rfl)
  rw [usL_put hnew]
  have hU2 : (usL (U ++ [((c, n) : UseK)])).length = U.length + 1 := by rw [usL_len, List.length_append]; rfl
  have hkey : sealF key U b = drawF key 1 (usL (U ++ [((c, n) : UseK)])).length (b.length + 16) := by rw [hU2]; rfl
  have hlen1 : (usL (U ++ [((c, n) : UseK)])).length < 1000000 := by omega
  generalize hU3 : U ++ [((c, n) : UseK)] = U2 at hkey hlen1 hU2 ⊢
  repeat' (refine ycf ?_;(first|(first|(apply ybm;(·(first|(first|exact tk_|(apply qv_nilCheck;rfl))|(apply yae;(·rfl);(·(first|exact hv.at hk32 (.inl ⟨rfl, rfl⟩)|exact hv.at hk32 (.inr (.inr (.inl ⟨rfl, rfl⟩)))|exact hv.at hk32 (.inr (.inr (.inr ⟨rfl, rfl⟩))))))|exact tq_));(·rfl);(·rfl);(·(exact th_)))|refine ybl rfl rfl ?_|((fail_if_success (refine ybi rfl ?_));refine ybj rfl ?_ ?_<;>(intro ht;rw [ht];first|replace ht := oet_ ht|replace ht := oef_ ht|skip))|(refine tb_ ?_ ?_ ?_;(·(exact to_));(·intro _;(exact to_));intro _)|(first|(refine tqs_ ?_ ?_ ?_;(·(exact to_));(·(exact to_))))|(apply ybn;(·(first|(first|exact tk_|(apply qv_nilCheck;rfl))|(apply yae;(·rfl);(·(first|exact hv.at hk32 (.inl ⟨rfl, rfl⟩)|exact hv.at hk32 (.inr (.inr (.inl ⟨rfl, rfl⟩)))|exact hv.at hk32 (.inr (.inr (.inr ⟨rfl, rfl⟩))))))|exact tq_));(·rfl);(·rfl);(·rfl);(·(exact to_))))|refine ycg ?_))
  have wl : IntKind.i64.wrap ((b.length : Nat) + 16 : Int) = ((b.length + 16 : Nat) : Int) := by rw [IntKind.wrap_i64]<;>omega
  repeat' (first|(refine ycf ?_;apply ybk;(·first|(first|exact tk_|(apply qv_nilCheck;rfl)|(refine qv_len_map 1 rfl rfl)|(refine qv_addr rfl rfl wl))|(apply yae;(·rfl);(·(first|exact hv.at hk32 (.inl ⟨rfl, rfl⟩)|exact hv.at hk32 (.inr (.inr (.inl ⟨rfl, rfl⟩)))|exact hv.at hk32 (.inr (.inr (.inr ⟨rfl, rfl⟩)))))));(·rfl);(·rfl))|refine t1_ ?_|(refine ta_ ?_;intro _)|((fail_if_success (refine ybi rfl ?_));refine ybj rfl ?_ ?_<;>(intro ht;rw [ht];first|replace ht := oet_ ht|replace ht := oef_ ht|skip))|(refine ych ?_;first|(refine ybw rfl ?_ ?_<;>intro ht)|(refine ybx rfl ?_ ?_<;>intro ht)))
  (refine yco (ycp Tryz.func55 rfl (by kernel_rfl) rfl) (draw_sp bv true key bn bu bt 1 (usL U2).length (b.length + 16) hk hk32 (by omega) hlen1 (by omega) h hv) rfl rfl rfl ?_ ?_ ?_; (· (exact to_)); (· intro _ _ hle; (exact to_)); intro x px hle)
  rw [← hkey]
  have hol : (sealF key U b).length = b.length + 16 := drawF_len _ _ _ _ (by omega)
  generalize sealF key U b = out at hkey hol ⊢
  refine rx_rowform 0 rfl (fun _ h1 _ => (by omega)) ?_
  rintro go capo rfl
  clear px hle
  repeat' (first|(refine ycf ?_;apply ybk;(·first|(first|exact tk_|(apply qv_nilCheck;rfl)|(refine qv_str_bs rfl hw)|(refine qv_str_of (l := out) rfl (row_cells 0 rfl)))|(apply yae;(·rfl);(·(first|exact hv.at hk32 (.inl ⟨rfl, rfl⟩)|exact hv.at hk32 (.inr (.inr (.inl ⟨rfl, rfl⟩)))|exact hv.at hk32 (.inr (.inr (.inr ⟨rfl, rfl⟩)))))));(·rfl);(·rfl))|refine t1_ ?_|(refine ta_ ?_;intro _)|((fail_if_success (refine ybi rfl ?_));refine ybj rfl ?_ ?_<;>(intro ht;rw [ht];first|replace ht := oet_ ht|replace ht := oef_ ht|skip))|(refine ych ?_;first|(refine ybw rfl ?_ ?_<;>intro ht)|(refine ybx rfl ?_ ?_<;>intro ht)))
  refine cx_region_drawY [12, 13] rfl (by kernel_rfl) ?_
  repeat' (refine ycf ?_;(first|(first|(apply ybm;(·(first|(first|exact tk_|(apply qv_nilCheck;rfl)|(refine qv_str_bs rfl hw)|(refine qv_str_of (l := out) rfl (row_cells 0 rfl)))|(apply yae;(·rfl);(·(first|exact hv.at hk32 (.inl ⟨rfl, rfl⟩)|exact hv.at hk32 (.inr (.inr (.inl ⟨rfl, rfl⟩)))|exact hv.at hk32 (.inr (.inr (.inr ⟨rfl, rfl⟩))))))|exact tq_));(·rfl);(·rfl);(·(exact th_)))|refine ybl rfl rfl ?_|((fail_if_success (refine ybi rfl ?_));refine ybj rfl ?_ ?_<;>(intro ht;rw [ht];first|replace ht := oet_ ht|replace ht := oef_ ht|skip))|(refine tb_ ?_ ?_ ?_;(·(exact to_));(·intro _;(exact to_));intro _)|(first|(refine tqs_ ?_ ?_ ?_;(·(exact to_));(·(exact to_))))|(apply ybn;(·(first|(first|exact tk_|(apply qv_nilCheck;rfl)|(refine qv_str_bs rfl hw)|(refine qv_str_of (l := out) rfl (row_cells 0 rfl)))|(apply yae;(·rfl);(·(first|exact hv.at hk32 (.inl ⟨rfl, rfl⟩)|exact hv.at hk32 (.inr (.inr (.inl ⟨rfl, rfl⟩)))|exact hv.at hk32 (.inr (.inr (.inr ⟨rfl, rfl⟩))))))|exact tq_));(·rfl);(·rfl);(·rfl);(·(exact to_))))|refine ycg ?_))
  (refine yco (ycp Tryz.func57 rfl (by kernel_rfl) rfl) (BClone_sp _ b h hb (by omega)) rfl rfl rfl ?_ ?_ ?_; (· (exact to_)); (· intro _ _ hle; (exact to_)); intro x px hle)
  refine rx_persistA (by intro z hz; simp only [doms, List.flatMap_cons, List.flatMap_nil, List.mem_append, Res.mp, List.mem_singleton] at hz ⊢; simp; rcases hz with hz | hz; (· simp_all); (· simp_all)) fun h1 hle1 hv1 => ?_
  refine rx_mapUpdate (a := ((c, n, ep, bstr wi, bstr out) : SeaK)) 3 sea_kl rfl rfl rfl rfl rfl rfl ?_ ?_ ?_
  · exact .inl (fun _ s => Hd.sub s hle1 (fun r hr => hr))
  · exact .inr (by kernel_rfl)
  have hput : mput (tbL T) ((c, n, ep, bstr wi, bstr out) : SeaK) x = tbL (T ++ [((c, n, ep, bstr wi, bstr out), x, b)]) := tbL_put hT hnew x b
  rw [hput]
  repeat' (refine ycf ?_;(first|(first|(apply ybm;(·(first|(exact tk_)|exact tq_));(·rfl);(·rfl);(·(exact th_)))|refine ybl rfl rfl ?_|((fail_if_success (refine ybi rfl ?_));refine ybj rfl ?_ ?_<;>(intro ht;rw [ht];first|replace ht := oet_ ht|replace ht := oef_ ht|skip))|(refine tb_ ?_ ?_ ?_;(·(exact to_));(·intro _;(exact to_));intro _)|(first|(refine tqs_ ?_ ?_ ?_;(·(exact to_));(·(exact to_))))|(apply ybn;(·(first|(exact tk_)|exact tq_));(·rfl);(·rfl);(·rfl);(·(exact to_))))|refine ycg ?_))
  repeat' (first|(refine ycf ?_;apply ybk;(·first|(exact tk_));(·rfl);(·rfl))|refine t1_ ?_|(refine ta_ ?_;intro _)|((fail_if_success (refine ybi rfl ?_));refine ybj rfl ?_ ?_<;>(intro ht;rw [ht];first|replace ht := oet_ ht|replace ht := oef_ ht|skip))|(refine ych ?_;first|(refine ybw rfl ?_ ?_<;>intro ht)|(refine ybx rfl ?_ ?_<;>intro ht)))
  refine nx_ret2 rfl (rv_tmp rfl) (rv_tmp rfl) (fun w' s' => ⟨(h1, _, x), rfl, ?_, hv1⟩)
  exact (s'.perm (perm_at (k := 1) rfl)).tl
end Go.Proofs.YtaofgcahmfailaaGreatDoor
end

section
namespace Go.Proofs.YtaofgcahmfailaaGreatDoor
open Go Go.Ck
set_option maxHeartbeats 4000000
theorem tbL_get (T : Tab) (k : SeaK) : mget (tbL T) k = (mget T k).map (·.1) := by
  induction T with
  | nil => rfl
  | cons y T ih =>
    show (if k = y.1 then some y.2.1 else mget (tbL T) k) = Option.map _ (if k = y.1 then some y.2 else mget T k)
    split
    · rfl
    · exact ih
theorem VOpen_some (bv : Nat) (key : List Int) (bn bu bt : Nat) (T : Tab) (ep c n : Int) (vw vs : Value) (wi se : List Int) (x : Value × List Int) (hk32 : key.length = 32) (hok : sealOk ep c n) (hsl : 16 ≤ se.length)
    (hx : mget T (c, n, ep, bstr wi, bstr se) = some x) (hxl : x.2.length ≤ 1000000) (h : View) (hT : TbOk h T) (hv : Vb h bv true key bn bu bt) (hw : Bs8 h vw wi) (hb : Bs8 h vs se) (w : World) (s : St ⟨w, h, doms [tbR bt T]⟩ h [tbR bt T] w) :
    Calls Tryz.prog 67 [.pointer (some ⟨bv, 0, none⟩), .int .i64 ep, .int .i64 c, .int .i64 n, vw, vs].toArray w fun e w' => ∃ v, e = .returned (.tuple #[v, .int .i64 0]) ∧ St ⟨w, h, doms [tbR bt T]⟩ h [rowB v x.2, tbR bt T] w' ∧ True := by
  obtain ⟨_, adw, capw, rfl, hcapw, _⟩ := id hw
  obtain ⟨_, ads, caps, rfl, hcaps, _⟩ := id hb
  have R1 := vright_sp ep c n h
  rw [if_pos hok] at R1
  have hxb : Bs8 h x.1 x.2 := hT _ (mget_mem hx)
  have hg : mget (tbL T) ((c, n, ep, bstr wi, bstr se) : SeaK) = some x.1 := by rw [tbL_get, hx]; rfl
  have hg1 : (mget (tbL T) ((c, n, ep, bstr wi, bstr se) : SeaK)).getD (.slice none 0 0) = x.1 := by rw [hg]; rfl
  have hg2 : (mget (tbL T) ((c, n, ep, bstr wi, bstr se) : SeaK)).isSome = true := by rw [hg]; rfl
  obtain ⟨xv, xb⟩ := x
  dsimp only at hxb hg1 hxl ⊢
  obtain ⟨_, adx, capx, rfl, hcapx, _⟩ := id hxb
  refine calls_enter Tryz.func67 rfl Tryz.ntmps67 rfl s ?_
  repeat' (first|(refine ycf ?_;apply ybk;(·first|(first|exact tk_|(apply qv_eql_pnil<;>rfl)|(apply qv_nilCheck;rfl))|(apply yae;(·rfl);(·(first|exact hv.at hk32 (.inl ⟨rfl, rfl⟩)|exact hv.at hk32 (.inr (.inr (.inr ⟨rfl, rfl⟩)))))));(·rfl);(·rfl))|refine t1_ ?_|(refine ta_ ?_;intro _)|((fail_if_success (refine ybi rfl ?_));refine ybj rfl ?_ ?_<;>(intro ht;rw [ht];first|replace ht := oet_ ht|replace ht := oef_ ht|skip))|(refine ych ?_;first|(refine ybw rfl ?_ ?_<;>intro ht)|(refine ybx rfl ?_ ?_<;>intro ht)))
  (refine ycn (ycp Tryz.func58 rfl (by kernel_rfl) rfl) (R1) rfl rfl rfl ?_ ?_; (· (exact to_)))
  repeat' (first|(refine ycf ?_;apply ybk;(·first|(first|exact tk_|(apply qv_eql_pnil<;>rfl)|(apply qv_nilCheck;rfl))|(apply yae;(·rfl);(·(first|exact hv.at hk32 (.inl ⟨rfl, rfl⟩)|exact hv.at hk32 (.inr (.inr (.inr ⟨rfl, rfl⟩)))))));(·rfl);(·rfl))|refine t1_ ?_|(refine ta_ ?_;intro _)|((fail_if_success (refine ybi rfl ?_));refine ybj rfl ?_ ?_<;>(intro ht;rw [ht];first|replace ht := oet_ ht|replace ht := oef_ ht|skip))|(refine ych ?_;first|(refine ybw rfl ?_ ?_<;>intro ht)|(refine ybx rfl ?_ ?_<;>intro ht)))
  refine cx_region_drawY [17, 18] rfl (by kernel_rfl) ?_
  repeat' (refine ycf ?_;(first|(first|(apply ybm;(·(first|(first|exact tk_|(apply qv_nilCheck;rfl)|(refine qv_str_bs rfl hw)|(refine qv_str_bs rfl hb)|(refine qv_lookup_ok (a := ((c, n, ep, bstr wi, bstr se) : SeaK)) 0 sea_kl rfl rfl rfl hg1 hg2))|(apply yae;(·rfl);(·(first|exact hv.at hk32 (.inl ⟨rfl, rfl⟩)|exact hv.at hk32 (.inr (.inr (.inr ⟨rfl, rfl⟩))))))|exact tq_));(·rfl);(·rfl);(·(exact th_)))|refine ybl rfl rfl ?_|((fail_if_success (refine ybi rfl ?_));refine ybj rfl ?_ ?_<;>(intro ht;rw [ht];first|replace ht := oet_ ht|replace ht := oef_ ht|skip))|(refine tb_ ?_ ?_ ?_;(·(exact to_));(·intro _;(exact to_));intro _)|(first|(refine tqs_ ?_ ?_ ?_;(·(exact to_));(·(exact to_))))|(apply ybn;(·(first|(first|exact tk_|(apply qv_nilCheck;rfl)|(refine qv_str_bs rfl hw)|(refine qv_str_bs rfl hb)|(refine qv_lookup_ok (a := ((c, n, ep, bstr wi, bstr se) : SeaK)) 0 sea_kl rfl rfl rfl hg1 hg2))|(apply yae;(·rfl);(·(first|exact hv.at hk32 (.inl ⟨rfl, rfl⟩)|exact hv.at hk32 (.inr (.inr (.inr ⟨rfl, rfl⟩))))))|exact tq_));(·rfl);(·rfl);(·rfl);(·(exact to_))))|refine ycg ?_))
  repeat' (first|(refine ycf ?_;apply ybk;(·first|(exact tk_));(·rfl);(·rfl))|refine t1_ ?_|(refine ta_ ?_;intro _)|((fail_if_success (refine ybi rfl ?_));refine ybj rfl ?_ ?_<;>(intro ht;rw [ht];first|replace ht := oet_ ht|replace ht := oef_ ht|skip))|(refine ych ?_;first|(refine ybw rfl ?_ ?_<;>intro ht)|(refine ybx rfl ?_ ?_<;>intro ht)))
  (refine yco (ycp Tryz.func57 rfl (by kernel_rfl) rfl) (BClone_sp _ xb h hxb hxl) rfl rfl rfl ?_ ?_ ?_; (· (exact to_)); (· intro _ _ hle; (exact to_)); intro x px hle)
  repeat' (first|(refine ycf ?_;apply ybk;(·first|(exact tk_));(·rfl);(·rfl))|refine t1_ ?_|(refine ta_ ?_;intro _)|((fail_if_success (refine ybi rfl ?_));refine ybj rfl ?_ ?_<;>(intro ht;rw [ht];first|replace ht := oet_ ht|replace ht := oef_ ht|skip))|(refine ych ?_;first|(refine ybw rfl ?_ ?_<;>intro ht)|(refine ybx rfl ?_ ?_<;>intro ht)))
  exact nx_ret2 rfl (rv_tmp rfl) (rv_tmp rfl) (fun w' s' => ⟨x, rfl, s', trivial⟩)
theorem VOpen_none (bv : Nat) (key : List Int) (bn bu bt : Nat) (T : Tab) (ep c n : Int) (vw vs : Value) (wi se : List Int) (hk32 : key.length = 32) (hok : sealOk ep c n) (hsl : 16 ≤ se.length)
    (hx : mget T (c, n, ep, bstr wi, bstr se) = none) (h : View) (hv : Vb h bv true key bn bu bt) (hw : Bs8 h vw wi) (hb : Bs8 h vs se) (w : World) (s : St ⟨w, h, doms [tbR bt T]⟩ h [tbR bt T] w) :
    Calls Tryz.prog 67 [.pointer (some ⟨bv, 0, none⟩), .int .i64 ep, .int .i64 c, .int .i64 n, vw, vs].toArray w fun e w' => ∃ _ : Unit, e = .returned (.tuple #[.slice none 0 0, .int .i64 6]) ∧ St ⟨w, h, doms [tbR bt T]⟩ h [tbR bt T] w' ∧ True := by
  obtain ⟨_, adw, capw, rfl, hcapw, _⟩ := id hw
  obtain ⟨_, ads, caps, rfl, hcaps, _⟩ := id hb
  have R1 := vright_sp ep c n h
  rw [if_pos hok] at R1
  have hg : mget (tbL T) ((c, n, ep, bstr wi, bstr se) : SeaK) = none := by rw [tbL_get, hx]; rfl
  have hg1 : (mget (tbL T) ((c, n, ep, bstr wi, bstr se) : SeaK)).getD (.slice none 0 0) = .slice none 0 0 := by rw [hg]; rfl
  have hg2 : (mget (tbL T) ((c, n, ep, bstr wi, bstr se) : SeaK)).isSome = false := by rw [hg]; rfl
  refine calls_enter Tryz.func67 rfl Tryz.ntmps67 rfl s ?_
  repeat' (first|(refine ycf ?_;apply ybk;(·first|(first|exact tk_|(apply qv_eql_pnil<;>rfl)|(apply qv_nilCheck;rfl))|(apply yae;(·rfl);(·(first|exact hv.at hk32 (.inl ⟨rfl, rfl⟩)|exact hv.at hk32 (.inr (.inr (.inr ⟨rfl, rfl⟩)))))));(·rfl);(·rfl))|refine t1_ ?_|(refine ta_ ?_;intro _)|((fail_if_success (refine ybi rfl ?_));refine ybj rfl ?_ ?_<;>(intro ht;rw [ht];first|replace ht := oet_ ht|replace ht := oef_ ht|skip))|(refine ych ?_;first|(refine ybw rfl ?_ ?_<;>intro ht)|(refine ybx rfl ?_ ?_<;>intro ht)))
  (refine ycn (ycp Tryz.func58 rfl (by kernel_rfl) rfl) (R1) rfl rfl rfl ?_ ?_; (· (exact to_)))
  repeat' (first|(refine ycf ?_;apply ybk;(·first|(first|exact tk_|(apply qv_eql_pnil<;>rfl)|(apply qv_nilCheck;rfl))|(apply yae;(·rfl);(·(first|exact hv.at hk32 (.inl ⟨rfl, rfl⟩)|exact hv.at hk32 (.inr (.inr (.inr ⟨rfl, rfl⟩)))))));(·rfl);(·rfl))|refine t1_ ?_|(refine ta_ ?_;intro _)|((fail_if_success (refine ybi rfl ?_));refine ybj rfl ?_ ?_<;>(intro ht;rw [ht];first|replace ht := oet_ ht|replace ht := oef_ ht|skip))|(refine ych ?_;first|(refine ybw rfl ?_ ?_<;>intro ht)|(refine ybx rfl ?_ ?_<;>intro ht)))
  refine cx_region_drawY [17, 18] rfl (by kernel_rfl) ?_
  repeat' (refine ycf ?_;(first|(first|(apply ybm;(·(first|(first|exact tk_|(apply qv_nilCheck;rfl)|(refine qv_str_bs rfl hw)|(refine qv_str_bs rfl hb)|(refine qv_lookup_ok (a := ((c, n, ep, bstr wi, bstr se) : SeaK)) 0 sea_kl rfl rfl rfl hg1 hg2))|(apply yae;(·rfl);(·(first|exact hv.at hk32 (.inl ⟨rfl, rfl⟩)|exact hv.at hk32 (.inr (.inr (.inr ⟨rfl, rfl⟩))))))|exact tq_));(·rfl);(·rfl);(·(exact th_)))|refine ybl rfl rfl ?_|((fail_if_success (refine ybi rfl ?_));refine ybj rfl ?_ ?_<;>(intro ht;rw [ht];first|replace ht := oet_ ht|replace ht := oef_ ht|skip))|(refine tb_ ?_ ?_ ?_;(·(exact to_));(·intro _;(exact to_));intro _)|(first|(refine tqs_ ?_ ?_ ?_;(·(exact to_));(·(exact to_))))|(apply ybn;(·(first|(first|exact tk_|(apply qv_nilCheck;rfl)|(refine qv_str_bs rfl hw)|(refine qv_str_bs rfl hb)|(refine qv_lookup_ok (a := ((c, n, ep, bstr wi, bstr se) : SeaK)) 0 sea_kl rfl rfl rfl hg1 hg2))|(apply yae;(·rfl);(·(first|exact hv.at hk32 (.inl ⟨rfl, rfl⟩)|exact hv.at hk32 (.inr (.inr (.inr ⟨rfl, rfl⟩))))))|exact tq_));(·rfl);(·rfl);(·rfl);(·(exact to_))))|refine ycg ?_))
  repeat' (first|(refine ycf ?_;apply ybk;(·first|(exact tk_));(·rfl);(·rfl))|refine t1_ ?_|(refine ta_ ?_;intro _)|((fail_if_success (refine ybi rfl ?_));refine ybj rfl ?_ ?_<;>(intro ht;rw [ht];first|replace ht := oet_ ht|replace ht := oef_ ht|skip))|(refine ych ?_;first|(refine ybw rfl ?_ ?_<;>intro ht)|(refine ybx rfl ?_ ?_<;>intro ht)))
  exact nx_ret2 rfl (rv_tmp rfl) (rv_tmp rfl) (fun w' s' => ⟨(), rfl, s', trivial⟩)
end Go.Proofs.YtaofgcahmfailaaGreatDoor
end

section
namespace Go.Proofs.YtaofgcahmfailaaGreatDoor
open Go Go.Ck
set_option maxHeartbeats 4000000
theorem fill_vault {idl : Bool} {key : List Int} {a b c : Nat} (hol : (bcs key).length = 32) : fillL (fun i : Nat => ([(0, 1), (1, 32), (33, 1), (34, 1), (35, 1)] : List (Nat × Nat))[i]?) (.bool false :: (List.replicate 32 (.int .u8 0) ++ [.map none, .map none, .map none])) [(0, .bool idl), (1, .agg (bcs key).toArray), (2, .map (some a)), (3, .map (some b)), (4, .map (some c))] = some (vcells idl key a b c) := by
  have h1 : (bcs key).toArray.size = 32 := by simpa using hol
  unfold vcells
  generalize bcs key = l at hol h1 ⊢
  have h2 : (Value.agg l.toArray).cells.size = 32 := h1
  have h3 : (Value.agg l.toArray).cells.toList = l := rfl
  have t33 : l.take 33 = l := List.take_of_length_le (by omega)
  have t34 : l.take 34 = l := List.take_of_length_le (by omega)
  have d33 : l.drop 33 = [] := List.drop_eq_nil_of_le (by omega)
  have d34 : l.drop 34 = [] := List.drop_eq_nil_of_le (by omega)
  have d35 : l.drop 35 = [] := List.drop_eq_nil_of_le (by omega)
  simp [fillL, spl, hol, Value.cells, List.take_append, List.drop_append, t33, t34, d33, d34, d35]
theorem vault_sp (idl : Bool) (key : List Int) (hk32 : key.length = 32) (h : View) (w : World) (s : St ⟨w, h, []⟩ h [] w) :
    Calls Tryz.prog 23 [.bool idl, .agg (bcs key).toArray].toArray w fun e w' => ∃ x : View × Nat × Nat × Nat × Nat, e = .returned (.pointer (some ⟨x.2.1, 0, none⟩)) ∧
      St ⟨w, h, []⟩ x.1 [nmR x.2.2.1 [], usR x.2.2.2.1 [], tbR x.2.2.2.2 []] w' ∧ Vb x.1 x.2.1 idl key x.2.2.1 x.2.2.2.1 x.2.2.2.2 := by
  have hol : (bcs key).length = 32 := by rw [bcs_len, hk32]
  refine calls_enter Tryz.func23 rfl Tryz.ntmps23 rfl s ?_
  repeat' (first|(refine ycf ?_;apply ybk;(·first|(apply yad;(·rfl);(·exact yaz 0 rfl);(·exact hol)));(·rfl);(·rfl))|(refine ybg 0 rfl rfl rfl (by show (bcs key).toArray.size = 32;simpa using hol) (by show 0 + (bcs key).toArray.size ≤ _;rw [List.size_toArray, hol];exact nble rfl) (List.all_eq_true.2 (bcs_one key)) (ybh (by show (bcs key).length = _;rw [hol];rfl)) rfl rfl ?_ ?_ ?_;(·(exact to_));(·(exact to_)))|refine t1_ ?_|(refine ta_ ?_;intro _)|((fail_if_success (refine ybi rfl ?_));refine ybj rfl ?_ ?_<;>(intro ht;rw [ht];first|replace ht := oet_ ht|replace ht := oef_ ht|skip))|(refine ych ?_;first|(refine ybw rfl ?_ ?_<;>intro ht)|(refine ybx rfl ?_ ?_<;>intro ht)))
  refine yba ma_makeMap rfl rfl rfl ybf (fun _ => ybf) ?_
  intro bn
  refine yba ma_makeMap rfl rfl rfl ybf (fun _ => ybf) ?_
  intro bu
  refine yba ma_makeMap rfl rfl rfl ybf (fun _ => ybf) ?_
  intro bt
  repeat' (first|(refine ycf ?_;apply ybk;(·first|(apply yax (cs := vcells idl key bn bu bt);(·rfl);(·exact fill_vault hol)));(·rfl);(·rfl))|(refine ybg 0 rfl rfl rfl (by show (bcs key).toArray.size = 32;simpa using hol) (by show 0 + (bcs key).toArray.size ≤ _;rw [List.size_toArray, hol];exact nble rfl) (List.all_eq_true.2 (bcs_one key)) (ybh (by show (bcs key).length = _;rw [hol];rfl)) rfl rfl ?_ ?_ ?_;(·(exact to_));(·(exact to_)))|refine t1_ ?_|(refine ta_ ?_;intro _)|((fail_if_success (refine ybi rfl ?_));refine ybj rfl ?_ ?_<;>(intro ht;rw [ht];first|replace ht := oet_ ht|replace ht := oef_ ht|skip))|(refine ych ?_;first|(refine ybw rfl ?_ ?_<;>intro ht)|(refine ybx rfl ?_ ?_<;>intro ht)))
  refine nx_ret1 rfl (rv_tmp rfl) (fun w' s' => ?_)
  have s1 := s'.persist rfl
  have s2 := s1.mpOf seaV (k := 0) rfl
  have s3 := s2.mpOf useV (k := 1) rfl
  have s4 := s3.mpOf Value.string (k := 2) rfl
  have s5 := (s4.perm (List.reverse_perm _).symm).tl
  refine ⟨(_, _, bn, bu, bt), rfl, s5, ?_⟩
  show addV _ _ _ _ = _
  unfold addV
  rw [if_pos rfl]
  rfl
theorem Ideal_sp (key : List Int) (hk32 : key.length = 32) (h : View) (w : World) (s : St ⟨w, h, []⟩ h [] w) :
    Calls Tryz.prog 6 [.agg (bcs key).toArray].toArray w fun e w' => ∃ x : View × Nat × Nat × Nat × Nat, e = .returned (.pointer (some ⟨x.2.1, 0, none⟩)) ∧
      St ⟨w, h, []⟩ x.1 [nmR x.2.2.1 [], usR x.2.2.2.1 [], tbR x.2.2.2.2 []] w' ∧ Vb x.1 x.2.1 true key x.2.2.1 x.2.2.2.1 x.2.2.2.2 := by
  have hol : (bcs key).length = 32 := by rw [bcs_len, hk32]
  refine calls_enter Tryz.func6 rfl Tryz.ntmps6 rfl s ?_
  repeat' (first|(refine ycf ?_;apply ybk;(·first|(apply yad;(·rfl);(·exact yaz 0 rfl);(·exact hol)));(·rfl);(·rfl))|(refine ybg 0 rfl rfl rfl (by show (bcs key).toArray.size = 32;simpa using hol) (by show 0 + (bcs key).toArray.size ≤ _;rw [List.size_toArray, hol];exact nble rfl) (List.all_eq_true.2 (bcs_one key)) (ybh (by show (bcs key).length = _;rw [hol];rfl)) rfl rfl ?_ ?_ ?_;(·(exact to_));(·(exact to_)))|refine t1_ ?_|(refine ta_ ?_;intro _)|((fail_if_success (refine ybi rfl ?_));refine ybj rfl ?_ ?_<;>(intro ht;rw [ht];first|replace ht := oet_ ht|replace ht := oef_ ht|skip))|(refine ych ?_;first|(refine ybw rfl ?_ ?_<;>intro ht)|(refine ybx rfl ?_ ?_<;>intro ht)))
  (refine yco (ycp Tryz.func23 rfl (by kernel_rfl) rfl) (vault_sp true key hk32 h) rfl rfl rfl ?_ ?_ ?_; (· (exact to_)); (· intro _ _ hle; (exact to_)); intro x px hle)
  repeat' (first|(refine ycf ?_;apply ybk;(·first|(apply yad;(·rfl);(·exact yaz 0 rfl);(·exact hol)));(·rfl);(·rfl))|(refine ybg 0 rfl rfl rfl (by show (bcs key).toArray.size = 32;simpa using hol) (by show 0 + (bcs key).toArray.size ≤ _;rw [List.size_toArray, hol];exact nble rfl) (List.all_eq_true.2 (bcs_one key)) (ybh (by show (bcs key).length = _;rw [hol];rfl)) rfl rfl ?_ ?_ ?_;(·(exact to_));(·(exact to_)))|refine t1_ ?_|(refine ta_ ?_;intro _)|((fail_if_success (refine ybi rfl ?_));refine ybj rfl ?_ ?_<;>(intro ht;rw [ht];first|replace ht := oet_ ht|replace ht := oef_ ht|skip))|(refine ych ?_;first|(refine ybw rfl ?_ ?_<;>intro ht)|(refine ybx rfl ?_ ?_<;>intro ht)))
  refine nx_ret1 rfl (rv_tmp rfl) (fun w' s' => ⟨x, rfl, ?_, px⟩)
  exact (St.drop (L := [_]) (s'.perm (perm_at (k := 3) rfl)))
end Go.Proofs.YtaofgcahmfailaaGreatDoor
end

section
namespace Go.Proofs.YtaofgcahmfailaaGreatDoor
open Go Go.Ck
set_option maxHeartbeats 4000000
structure Hdr where
  ep : Int
  ct : Int
  cl : Int
  nu : Int
  past : List Int
def Hdr.ok (x : Hdr) : Prop := (1 ≤ x.ep ∧ x.ep ≤ 1048576) ∧ (1 ≤ x.ct ∧ x.ct ≤ 4611686018427387904) ∧ (1 ≤ x.cl ∧ x.cl ≤ 16) ∧ (1 ≤ x.nu ∧ x.nu ≤ 1099511627776) ∧ x.past.length ≤ 4096
instance (x : Hdr) : Decidable x.ok := by unfold Hdr.ok; exact inferInstance
def hdc (x : Hdr) (pv : Value) : List Value := [.int .i64 x.ep, .int .i64 x.ct, .int .i64 x.cl, .int .i64 x.nu, pv]
def envc (key : List Int) (x : Hdr) (pv sv : Value) : List Value := bcs key ++ (hdc x pv ++ [sv])
theorem within_sp (n a b : Int) (h : View) (w : World) (s : St ⟨w, h, []⟩ h [] w) :
    Calls Tryz.prog 52 [.int .i64 n, .int .i64 a, .int .i64 b].toArray w fun e w' => e = .returned (.bool (decide (a ≤ n ∧ n ≤ b))) ∧ St ⟨w, h, []⟩ h [] w' := by
  refine calls_enter Tryz.func52 rfl Tryz.ntmps52 rfl s ?_
  by_cases h1 : a ≤ n
  · by_cases h2 : n ≤ b
    · have e : decide (a ≤ n ∧ n ≤ b) = true := by simp [h1, h2]
      rw [e]
      repeat' (first|(refine ycf ?_;apply ybk;(·first|(exact tk_));(·rfl);(·rfl))|refine t1_ ?_|(refine ta_ ?_;intro _)|((fail_if_success (refine ybi rfl ?_));refine ybj rfl ?_ ?_<;>(intro ht;rw [ht];first|replace ht := oet_ ht|replace ht := oef_ ht|skip))|(refine ych ?_;first|(refine ybw rfl ?_ ?_<;>intro ht)|(refine ybx rfl ?_ ?_<;>intro ht)))
      exact nx_ret1 rfl (rv_tmp rfl) (fun w' s' => ⟨rfl, s'⟩)
    · have e : decide (a ≤ n ∧ n ≤ b) = false := by simp [h2]
      rw [e]
      repeat' (first|(refine ycf ?_;apply ybk;(·first|(exact tk_));(·rfl);(·rfl))|refine t1_ ?_|(refine ta_ ?_;intro _)|((fail_if_success (refine ybi rfl ?_));refine ybj rfl ?_ ?_<;>(intro ht;rw [ht];first|replace ht := oet_ ht|replace ht := oef_ ht|skip))|(refine ych ?_;first|(refine ybw rfl ?_ ?_<;>intro ht)|(refine ybx rfl ?_ ?_<;>intro ht)))
      exact nx_ret1 rfl (rv_tmp rfl) (fun w' s' => ⟨rfl, s'⟩)
  · have e : decide (a ≤ n ∧ n ≤ b) = false := by simp [h1]
    rw [e]
    repeat' (first|(refine ycf ?_;apply ybk;(·first|(exact tk_));(·rfl);(·rfl))|refine t1_ ?_|(refine ta_ ?_;intro _)|((fail_if_success (refine ybi rfl ?_));refine ybj rfl ?_ ?_<;>(intro ht;rw [ht];first|replace ht := oet_ ht|replace ht := oef_ ht|skip))|(refine ych ?_;first|(refine ybw rfl ?_ ?_<;>intro ht)|(refine ybx rfl ?_ ?_<;>intro ht)))
    exact nx_ret1 rfl (rv_tmp rfl) (fun w' s' => ⟨rfl, s'⟩)
theorem name_sp (v : Value) (l : List Int) (h : View) (hs : Bs8 h v l) (w : World) (s : St ⟨w, h, []⟩ h [] w) :
    Calls Tryz.prog 34 [v].toArray w fun e w' => e = .returned (.bool (decide (1 ≤ l.length ∧ l.length ≤ 64))) ∧ St ⟨w, h, []⟩ h [] w' := by
  obtain ⟨_, ad, cap, rfl, hcap, _⟩ := id hs
  have e : decide (1 ≤ l.length ∧ l.length ≤ 64) = decide ((1 : Int) ≤ (l.length : Int) ∧ (l.length : Int) ≤ 64) := by
    rw [decide_eq_decide]; omega
  rw [e]
  refine calls_enter Tryz.func34 rfl Tryz.ntmps34 rfl s ?_
  repeat' (first|(refine ycf ?_;apply ybk;(·first|(exact tk_));(·rfl);(·rfl))|refine t1_ ?_|(refine ta_ ?_;intro _)|((fail_if_success (refine ybi rfl ?_));refine ybj rfl ?_ ?_<;>(intro ht;rw [ht];first|replace ht := oet_ ht|replace ht := oef_ ht|skip))|(refine ych ?_;first|(refine ybw rfl ?_ ?_<;>intro ht)|(refine ybx rfl ?_ ?_<;>intro ht)))
  (refine ycn (ycp Tryz.func52 rfl (by kernel_rfl) rfl) (within_sp (l.length : Int) 1 64 h) rfl rfl rfl ?_ ?_; (· (exact to_)))
  repeat' (first|(refine ycf ?_;apply ybk;(·first|(exact tk_));(·rfl);(·rfl))|refine t1_ ?_|(refine ta_ ?_;intro _)|((fail_if_success (refine ybi rfl ?_));refine ybj rfl ?_ ?_<;>(intro ht;rw [ht];first|replace ht := oet_ ht|replace ht := oef_ ht|skip))|(refine ych ?_;first|(refine ybw rfl ?_ ?_<;>intro ht)|(refine ybx rfl ?_ ?_<;>intro ht)))
  exact nx_ret1 rfl (rv_tmp rfl) (fun w' s' => ⟨rfl, s'⟩)
theorem hright_sp (x : Hdr) (pv : Value) (h : View) (hp : Bs8 h pv x.past) (w : World) (s : St ⟨w, h, []⟩ h [] w) :
    Calls Tryz.prog 35 [.agg (hdc x pv).toArray].toArray w fun e w' => e = .returned (.bool (decide x.ok)) ∧ St ⟨w, h, []⟩ h [] w' := by
  obtain ⟨_, ad, cap, rfl, hcap, _⟩ := id hp
  refine calls_enter Tryz.func35 rfl Tryz.ntmps35 rfl s ?_
  repeat' (first|(refine ycf ?_;apply ybk;(·first|(exact tk_));(·rfl);(·rfl))|refine t1_ ?_|(refine ta_ ?_;intro _)|((fail_if_success (refine ybi rfl ?_));refine ybj rfl ?_ ?_<;>(intro ht;rw [ht];first|replace ht := oet_ ht|replace ht := oef_ ht|skip))|(refine ych ?_;first|(refine ybw rfl ?_ ?_<;>intro ht)|(refine ybx rfl ?_ ?_<;>intro ht)))
  have e : decide x.ok = (decide (1 ≤ x.ep ∧ x.ep ≤ 1048576) && (decide (1 ≤ x.ct ∧ x.ct ≤ 4611686018427387904) && (decide (1 ≤ x.cl ∧ x.cl ≤ 16) && (decide (1 ≤ x.nu ∧ x.nu ≤ 1099511627776) && decide ((x.past.length : Int) ≤ 4096))))) := by
    rw [Bool.eq_iff_iff]
    simp only [decide_eq_true_eq, Bool.and_eq_true]
    unfold Hdr.ok
    constructor
    · rintro ⟨a, b, c, d, e⟩; exact ⟨a, b, c, d, by omega⟩
    · rintro ⟨a, b, c, d, e⟩; exact ⟨a, b, c, d, by omega⟩
  rw [e]
  have W1 := within_sp x.ep 1 1048576 h
  have W2 := within_sp x.ct 1 4611686018427387904 h
  have W3 := within_sp x.cl 1 16 h
  have W4 := within_sp x.nu 1 1099511627776 h
  generalize decide (1 ≤ x.ep ∧ x.ep ≤ 1048576) = b1 at W1 ⊢
  generalize decide (1 ≤ x.ct ∧ x.ct ≤ 4611686018427387904) = b2 at W2 ⊢
  generalize decide (1 ≤ x.cl ∧ x.cl ≤ 16) = b3 at W3 ⊢
  generalize decide (1 ≤ x.nu ∧ x.nu ≤ 1099511627776) = b4 at W4 ⊢
  (refine ycn (ycp Tryz.func52 rfl (by kernel_rfl) rfl) (W1) rfl rfl rfl ?_ ?_; (· (exact to_)))
  cases b1
  · repeat' (first|(refine ycf ?_;apply ybk;(·first|(exact tk_));(·rfl);(·rfl))|refine t1_ ?_|(refine ta_ ?_;intro _)|((fail_if_success (refine ybi rfl ?_));refine ybj rfl ?_ ?_<;>(intro ht;rw [ht];first|replace ht := oet_ ht|replace ht := oef_ ht|skip))|(refine ych ?_;first|(refine ybw rfl ?_ ?_<;>intro ht)|(refine ybx rfl ?_ ?_<;>intro ht)))
    exact nx_ret1 rfl (rv_tmp rfl) (fun w' s' => ⟨rfl, s'.nil⟩)
  repeat' (first|(refine ycf ?_;apply ybk;(·first|(exact tk_));(·rfl);(·rfl))|refine t1_ ?_|(refine ta_ ?_;intro _)|((fail_if_success (refine ybi rfl ?_));refine ybj rfl ?_ ?_<;>(intro ht;rw [ht];first|replace ht := oet_ ht|replace ht := oef_ ht|skip))|(refine ych ?_;first|(refine ybw rfl ?_ ?_<;>intro ht)|(refine ybx rfl ?_ ?_<;>intro ht)))
  (refine ycn (ycp Tryz.func52 rfl (by kernel_rfl) rfl) (W2) rfl rfl rfl ?_ ?_; (· (exact to_)))
  cases b2
  · repeat' (first|(refine ycf ?_;apply ybk;(·first|(exact tk_));(·rfl);(·rfl))|refine t1_ ?_|(refine ta_ ?_;intro _)|((fail_if_success (refine ybi rfl ?_));refine ybj rfl ?_ ?_<;>(intro ht;rw [ht];first|replace ht := oet_ ht|replace ht := oef_ ht|skip))|(refine ych ?_;first|(refine ybw rfl ?_ ?_<;>intro ht)|(refine ybx rfl ?_ ?_<;>intro ht)))
    exact nx_ret1 rfl (rv_tmp rfl) (fun w' s' => ⟨rfl, s'.nil⟩)
  repeat' (first|(refine ycf ?_;apply ybk;(·first|(exact tk_));(·rfl);(·rfl))|refine t1_ ?_|(refine ta_ ?_;intro _)|((fail_if_success (refine ybi rfl ?_));refine ybj rfl ?_ ?_<;>(intro ht;rw [ht];first|replace ht := oet_ ht|replace ht := oef_ ht|skip))|(refine ych ?_;first|(refine ybw rfl ?_ ?_<;>intro ht)|(refine ybx rfl ?_ ?_<;>intro ht)))
  (refine ycn (ycp Tryz.func52 rfl (by kernel_rfl) rfl) (W3) rfl rfl rfl ?_ ?_; (· (exact to_)))
  cases b3
  · repeat' (first|(refine ycf ?_;apply ybk;(·first|(exact tk_));(·rfl);(·rfl))|refine t1_ ?_|(refine ta_ ?_;intro _)|((fail_if_success (refine ybi rfl ?_));refine ybj rfl ?_ ?_<;>(intro ht;rw [ht];first|replace ht := oet_ ht|replace ht := oef_ ht|skip))|(refine ych ?_;first|(refine ybw rfl ?_ ?_<;>intro ht)|(refine ybx rfl ?_ ?_<;>intro ht)))
    exact nx_ret1 rfl (rv_tmp rfl) (fun w' s' => ⟨rfl, s'.nil⟩)
  repeat' (first|(refine ycf ?_;apply ybk;(·first|(exact tk_));(·rfl);(·rfl))|refine t1_ ?_|(refine ta_ ?_;intro _)|((fail_if_success (refine ybi rfl ?_));refine ybj rfl ?_ ?_<;>(intro ht;rw [ht];first|replace ht := oet_ ht|replace ht := oef_ ht|skip))|(refine ych ?_;first|(refine ybw rfl ?_ ?_<;>intro ht)|(refine ybx rfl ?_ ?_<;>intro ht)))
  (refine ycn (ycp Tryz.func52 rfl (by kernel_rfl) rfl) (W4) rfl rfl rfl ?_ ?_; (· (exact to_)))
  cases b4
  · repeat' (first|(refine ycf ?_;apply ybk;(·first|(exact tk_));(·rfl);(·rfl))|refine t1_ ?_|(refine ta_ ?_;intro _)|((fail_if_success (refine ybi rfl ?_));refine ybj rfl ?_ ?_<;>(intro ht;rw [ht];first|replace ht := oet_ ht|replace ht := oef_ ht|skip))|(refine ych ?_;first|(refine ybw rfl ?_ ?_<;>intro ht)|(refine ybx rfl ?_ ?_<;>intro ht)))
    exact nx_ret1 rfl (rv_tmp rfl) (fun w' s' => ⟨rfl, s'.nil⟩)
  repeat' (first|(refine ycf ?_;apply ybk;(·first|(exact tk_));(·rfl);(·rfl))|refine t1_ ?_|(refine ta_ ?_;intro _)|((fail_if_success (refine ybi rfl ?_));refine ybj rfl ?_ ?_<;>(intro ht;rw [ht];first|replace ht := oet_ ht|replace ht := oef_ ht|skip))|(refine ych ?_;first|(refine ybw rfl ?_ ?_<;>intro ht)|(refine ybx rfl ?_ ?_<;>intro ht)))
  exact nx_ret1 rfl (rv_tmp rfl) (fun w' s' => ⟨rfl, s'.nil⟩)
def boundF (key : List Int) (x : Hdr) : List Int := key ++ num8 x.ep ++ num8 x.ct ++ num8 x.cl ++ num8 x.nu ++ num4 x.past.length ++ x.past
theorem envc_len {key : List Int} {x : Hdr} {pv sv : Value} (hk : key.length = 32) : (envc key x pv sv).length = 38 := by
  simp [envc, hdc, bcs_len, hk]
theorem envc_one {key : List Int} {x : Hdr} {pv sv : Value} (h1 : pv.oneCell' = true) (h2 : sv.oneCell' = true) : ∀ u ∈ envc key x pv sv, u.oneCell' = true := fun u hu => by
  simp only [envc, hdc, List.mem_append, List.mem_cons, List.not_mem_nil, or_false] at hu
  rcases hu with hu | (rfl | rfl | rfl | rfl | rfl) | rfl
  · exact bcs_one _ u hu
  all_goals first | rfl | assumption
section
variable {h : View} {L : List Res} {b o : Nat} {key : List Int} {x : Hdr} {pv sv : Value}
theorem env_key (c : Cells h L ⟨b, o, none⟩ (envc key x pv sv)) : Cells h L ⟨b, o, none⟩ (bcs key) := by
  have := c.take (bcs key).length
  simpa [envc] using this
theorem env_head (hk : key.length = 32) (c : Cells h L ⟨b, o, none⟩ (envc key x pv sv)) : Cells h L ⟨b, o + 32, none⟩ (hdc x pv) := by
  have h1 := (c.drop 32).take 5
  have hb : (bcs key).length = 32 := by rw [bcs_len, hk]
  rw [envc, List.drop_left' hb] at h1
  exact h1
theorem env_seal (hk : key.length = 32) (c : Cells h L ⟨b, o, none⟩ (envc key x pv sv)) : CellAt h L b (o + 37) sv := by
  have hb : (bcs key).length = 32 := by rw [bcs_len, hk]
  refine c.cell ?_
  rw [envc, List.getElem?_append_right (by omega), hb]
  rfl
end
theorem eright_sp (key : List Int) (x : Hdr) (pv sv : Value) (se : List Int) (hk32 : key.length = 32) (h : View) (hp : Bs8 h pv x.past) (hs : Bs8 h sv se) (w : World) (s : St ⟨w, h, []⟩ h [] w) :
    Calls Tryz.prog 42 [.agg (envc key x pv sv).toArray].toArray w fun e w' => e = .returned (.bool (decide (x.ok ∧ 16 ≤ se.length ∧ se.length ≤ 8192))) ∧ St ⟨w, h, []⟩ h [] w' := by
  obtain ⟨_, ad, cap, rfl, hcap, _⟩ := id hs
  have hone : pv.oneCell' = true := by
    obtain ⟨_, _, _, rfl, _, _⟩ := id hp
    rfl
  refine calls_enter Tryz.func42 rfl Tryz.ntmps42 rfl s ?_
  have W0 := hright_sp x pv h hp
  have W1 := within_sp (se.length : Int) 16 8192 h
  have e : decide (x.ok ∧ 16 ≤ se.length ∧ se.length ≤ 8192) = (decide x.ok && decide ((16 : Int) ≤ (se.length : Int) ∧ (se.length : Int) ≤ 8192)) := by
    rw [Bool.eq_iff_iff]
    simp only [decide_eq_true_eq, Bool.and_eq_true]
    constructor
    · rintro ⟨a, b⟩; exact ⟨a, by omega⟩
    · rintro ⟨a, b⟩; exact ⟨a, by omega⟩
  rw [e]
  generalize decide x.ok = b0 at W0 ⊢
  repeat' (first|(refine ycf ?_;apply ybk;(·first|(apply yad;(·rfl);(·exact env_head hk32 (yaz 0 rfl));(·rfl))|(apply yae;(·rfl);(·(exact env_seal hk32 (yaz 0 rfl)))));(·rfl);(·rfl))|(refine ybg 0 rfl rfl rfl (by show (envc key x pv _).toArray.size = 38;simpa using envc_len hk32) (by show 0 + (envc key x pv _).toArray.size ≤ _;rw [List.size_toArray, envc_len hk32];exact nble rfl) (List.all_eq_true.2 (envc_one hone rfl)) (ybh (by show (envc key x pv _).length = _;rw [envc_len hk32];rfl)) rfl rfl ?_ ?_ ?_;(·(exact to_));(·(exact to_)))|refine t1_ ?_|(refine ta_ ?_;intro _)|((fail_if_success (refine ybi rfl ?_));refine ybj rfl ?_ ?_<;>(intro ht;rw [ht];first|replace ht := oet_ ht|replace ht := oef_ ht|skip))|(refine ych ?_;first|(refine ybw rfl ?_ ?_<;>intro ht)|(refine ybx rfl ?_ ?_<;>intro ht)))
  (refine ycn (ycp Tryz.func35 rfl (by kernel_rfl) rfl) (W0) rfl rfl rfl ?_ ?_; (· (exact to_)))
  cases b0
  · repeat' (first|(refine ycf ?_;apply ybk;(·first|(apply yad;(·rfl);(·exact env_head hk32 (yaz 0 rfl));(·rfl))|(apply yae;(·rfl);(·(exact env_seal hk32 (yaz 0 rfl)))));(·rfl);(·rfl))|(refine ybg 0 rfl rfl rfl (by show (envc key x pv _).toArray.size = 38;simpa using envc_len hk32) (by show 0 + (envc key x pv _).toArray.size ≤ _;rw [List.size_toArray, envc_len hk32];exact nble rfl) (List.all_eq_true.2 (envc_one hone rfl)) (ybh (by show (envc key x pv _).length = _;rw [envc_len hk32];rfl)) rfl rfl ?_ ?_ ?_;(·(exact to_));(·(exact to_)))|refine t1_ ?_|(refine ta_ ?_;intro _)|((fail_if_success (refine ybi rfl ?_));refine ybj rfl ?_ ?_<;>(intro ht;rw [ht];first|replace ht := oet_ ht|replace ht := oef_ ht|skip))|(refine ych ?_;first|(refine ybw rfl ?_ ?_<;>intro ht)|(refine ybx rfl ?_ ?_<;>intro ht)))
    exact nx_ret1 rfl (rv_tmp rfl) (fun w' s' => ⟨rfl, s'.nil⟩)
  repeat' (first|(refine ycf ?_;apply ybk;(·first|(apply yad;(·rfl);(·exact env_head hk32 (yaz 0 rfl));(·rfl))|(apply yae;(·rfl);(·(exact env_seal hk32 (yaz 0 rfl)))));(·rfl);(·rfl))|(refine ybg 0 rfl rfl rfl (by show (envc key x pv _).toArray.size = 38;simpa using envc_len hk32) (by show 0 + (envc key x pv _).toArray.size ≤ _;rw [List.size_toArray, envc_len hk32];exact nble rfl) (List.all_eq_true.2 (envc_one hone rfl)) (ybh (by show (envc key x pv _).length = _;rw [envc_len hk32];rfl)) rfl rfl ?_ ?_ ?_;(·(exact to_));(·(exact to_)))|refine t1_ ?_|(refine ta_ ?_;intro _)|((fail_if_success (refine ybi rfl ?_));refine ybj rfl ?_ ?_<;>(intro ht;rw [ht];first|replace ht := oet_ ht|replace ht := oef_ ht|skip))|(refine ych ?_;first|(refine ybw rfl ?_ ?_<;>intro ht)|(refine ybx rfl ?_ ?_<;>intro ht)))
  (refine ycn (ycp Tryz.func52 rfl (by kernel_rfl) rfl) (W1) rfl rfl rfl ?_ ?_; (· (exact to_)))
  repeat' (first|(refine ycf ?_;apply ybk;(·first|(apply yad;(·rfl);(·exact env_head hk32 (yaz 0 rfl));(·rfl))|(apply yae;(·rfl);(·(exact env_seal hk32 (yaz 0 rfl)))));(·rfl);(·rfl))|(refine ybg 0 rfl rfl rfl (by show (envc key x pv _).toArray.size = 38;simpa using envc_len hk32) (by show 0 + (envc key x pv _).toArray.size ≤ _;rw [List.size_toArray, envc_len hk32];exact nble rfl) (List.all_eq_true.2 (envc_one hone rfl)) (ybh (by show (envc key x pv _).length = _;rw [envc_len hk32];rfl)) rfl rfl ?_ ?_ ?_;(·(exact to_));(·(exact to_)))|refine t1_ ?_|(refine ta_ ?_;intro _)|((fail_if_success (refine ybi rfl ?_));refine ybj rfl ?_ ?_<;>(intro ht;rw [ht];first|replace ht := oet_ ht|replace ht := oef_ ht|skip))|(refine ych ?_;first|(refine ybw rfl ?_ ?_<;>intro ht)|(refine ybx rfl ?_ ?_<;>intro ht)))
  exact nx_ret1 rfl (rv_tmp rfl) (fun w' s' => ⟨rfl, s'.nil⟩)
end Go.Proofs.YtaofgcahmfailaaGreatDoor
end
