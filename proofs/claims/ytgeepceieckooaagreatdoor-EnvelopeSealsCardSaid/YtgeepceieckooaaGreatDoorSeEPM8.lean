/-
  Part 8 of a proof: VaI VaJ VaK VaL VaM VaN HmA HmB HmC.
  Conditions: each theorem states its own.
-/
import Derived.Test.YtgeepceieckooaaGreatDoorSeEPM7
set_option maxRecDepth 100000
set_option linter.unusedVariables false
set_option linter.unusedSimpArgs false
section
namespace Go.Proofs.YtgeepceieckooaaGreatDoor
open Go Go.Ck
set_option maxHeartbeats 4000000
def nmL (N : List (List Int)) : List (ByteArray × Value) := N.zipIdx.map fun x => (bstr x.1, .int .i64 ((x.2 + 1 : Nat) : Int))
def addN (N : List (List Int)) (x : List Int) : List (List Int) := if x ∈ N then N else N ++ [x]
def Names (N : List (List Int)) : Prop := ∀ x ∈ N, Bytes x
theorem bstr_bc {l : List Int} (hb : Bytes l) : ((bstr l).data.map fun b => Value.int .u8 b.toNat).toList = bcs l := by
  unfold bstr bcs
  simp only [Array.toList_map, List.map_map]
  refine List.map_congr_left fun x hx => ?_
  have := hb x hx
  show Value.int .u8 ((UInt8.ofNat x.toNat).toNat : Int) = _
  congr 1
  simp
  omega
theorem bstr_inj {a b : List Int} (ha : Bytes a) (hb : Bytes b) (h : bstr a = bstr b) : a = b := by
  have h1 := bstr_bc ha
  have h2 := bstr_bc hb
  rw [h] at h1
  have h3 : bcs a = bcs b := h1.symm.trans h2
  have h4 := congrArg (List.map fun v => match v with | .int _ i => i | _ => 0) h3
  simpa [bcs, List.map_map, Function.comp_def] using h4
theorem nm_get {N : List (List Int)} (hN : Names N) {x : List Int} (hx : Bytes x) : ∀ k, mget (((N.zipIdx k).map fun x => (bstr x.1, Value.int .i64 ((x.2 + 1 : Nat) : Int)))) (bstr x) = if x ∈ N then some (.int .i64 ((k + N.idxOf x + 1 : Nat) : Int)) else none := by
  induction N with
  | nil => intro k; rfl
  | cons y N ih =>
    intro k
    simp only [List.zipIdx_cons, List.map_cons, mget]
    by_cases hxy : x = y
    · subst hxy
      rw [if_pos rfl, if_pos (List.mem_cons_self ..), List.idxOf_cons_self]
    · have hb : ¬ bstr x = bstr y := fun e => hxy (bstr_inj hx (hN y (List.mem_cons_self ..)) e)
      rw [if_neg hb, ih (fun z hz => hN z (List.mem_cons_of_mem _ hz)) (k + 1)]
      have hm : (x ∈ y :: N) ↔ x ∈ N := by simp [hxy]
      by_cases hxN : x ∈ N
      · have hb2 : (y == x) = false := by simpa using fun e => hxy (Eq.symm e)
        have he : List.idxOf x (y :: N) = List.idxOf x N + 1 := by rw [List.idxOf_cons, hb2]; rfl
        rw [if_pos hxN, if_pos (hm.2 hxN), he]
        congr 3
        omega
      · rw [if_neg hxN, if_neg (fun h => hxN (hm.1 h))]
theorem nmL_get {N : List (List Int)} (hN : Names N) {x : List Int} (hx : Bytes x) : mget (nmL N) (bstr x) = if x ∈ N then some (.int .i64 ((N.idxOf x + 1 : Nat) : Int)) else none := by
  have := nm_get hN hx 0
  rw [Nat.zero_add] at this
  exact this
theorem nmL_len (N : List (List Int)) : (nmL N).length = N.length := by simp [nmL]
theorem nmL_add {N : List (List Int)} (hN : Names N) {x : List Int} (hx : Bytes x) (hn : x ∉ N) : mput (nmL N) (bstr x) (.int .i64 ((N.length + 1 : Nat) : Int)) = nmL (addN N x) := by
  rw [mput_new (by rw [nmL_get hN hx, if_neg hn]), addN, if_neg hn]
  simp [nmL, List.zipIdx_append]
theorem addN_names {N : List (List Int)} (hN : Names N) {x : List Int} (hx : Bytes x) : Names (addN N x) := by
  unfold addN
  split
  · exact hN
  · intro y hy
    rcases List.mem_append.1 hy with hy | hy
    · exact hN y hy
    · rw [List.mem_singleton.1 hy]; exact hx
abbrev nmR (bn : Nat) (N : List (List Int)) : Res := Res.mp Value.string bn (nmL N)
def blindF (key : List Int) (N : List (List Int)) (x : List Int) : List Int := drawF key 0 (N.idxOf x + 1) 32
theorem Blind_sp (bv : Nat) (key : List Int) (bn bu bt : Nat) (N : List (List Int)) (v : Value) (nm : List Int) (hk : Bytes key) (hk32 : key.length = 32) (hN : Names N) (hNl : N.length < 900000) (hx : Bytes nm) (hxl : 1 ≤ nm.length ∧ nm.length ≤ 64) (h : View) (hv : Vb h bv true key bn bu bt) (hs : Bs8 h v nm) (w : World) (s : St ⟨w, h, doms [nmR bn N]⟩ h [nmR bn N] w) :
    Calls Tryz.prog 25 [.pointer (some ⟨bv, 0, none⟩), v].toArray w fun e w' => ∃ _ : Unit, e = .returned (.tuple #[.agg (bcs (blindF key N nm)).toArray, .int .i64 0]) ∧ St ⟨w, h, doms [nmR bn N]⟩ h [nmR bn (addN N nm)] w' ∧ True := by
  obtain ⟨_, ad, cap, rfl, hcap, _⟩ := id hs
  refine calls_enter Tryz.func25 rfl Tryz.ntmps25 rfl s ?_
  repeat' (first|refine zw134 ?_|(refine ta_ ?_;intro _)|(refine zk0 ?_ ?_<;>intro ht)|fail)
  rename_i b4
  have hget := nmL_get hN hx
  by_cases hm : nm ∈ N
  · have hil : N.idxOf nm < N.length := List.idxOf_lt_length_of_mem hm
    rw [if_pos hm] at hget
    have hg1 : (mget (nmL N) (bstr nm)).getD (.int .i64 0) = .int .i64 ((N.idxOf nm + 1 : Nat) : Int) := by rw [hget]; rfl
    have hg2 : (mget (nmL N) (bstr nm)).isSome = true := by rw [hget]; rfl
    refine cx_region_draw' rfl (by kernel_rfl) ?_
    repeat' (first|refine zw135 ?_|(refine ycf ?_;(first|(refine zg0 ?_ ?_<;>intro ht)|(refine tb_ ?_ ?_ ?_;(·(exact to_));(·intro _;(exact to_));intro _)))|fail)
    have ha : addN N nm = N := if_pos hm
    rw [ha]
    repeat' (first|refine zw136 ?_|(refine ta_ ?_;intro _)|(refine zk0 ?_ ?_<;>intro ht)|fail)
    (refine yco (ycp Tryz.func57 rfl (by kernel_rfl) rfl) (draw_sp bv true key bn bu bt 0 (N.idxOf nm + 1) 32 hk hk32 (by omega) (by omega) (by omega) h hv) rfl rfl rfl ?_ ?_ ?_; (· (exact to_)); (·exact zc148); intro x px hle)
    have hdl := drawF_len key 0 (N.idxOf nm + 1) 32 (by omega)
    have hol : (bcs (drawF key 0 (N.idxOf nm + 1) 32)).length = 32 := by rw [bcs_len, hdl]
    unfold blindF
    generalize drawF key 0 (N.idxOf nm + 1) 32 = out at hdl hol ⊢
    refine rx_rowform 0 rfl (fun _ h1 _ => (by omega)) ?_
    rintro g6 cap6 rfl
    repeat' (first|refine zw137 ?_|(refine ta_ ?_;intro _)|(refine zk0 ?_ ?_<;>intro ht)|fail)
    exact nx_ret2 rfl (rv_cells rfl (yaz 1 rfl) (by show (bcs out).toArray.toList.length = 32; simpa using hol)) (rv_tmp rfl) (fun w' s' => ⟨(), rfl, s'.tl.tl, trivial⟩)
  · have hget0 := hget
    rw [if_neg hm] at hget
    have hix : N.idxOf nm = N.length := List.idxOf_eq_length hm
    have hg1 : (mget (nmL N) (bstr nm)).getD (.int .i64 0) = .int .i64 0 := by rw [hget]; rfl
    have hg2 : (mget (nmL N) (bstr nm)).isSome = false := by rw [hget]; rfl
    have wl : IntKind.i64.wrap (((nmL N).length : Nat) + 1 : Int) = ((N.length + 1 : Nat) : Int) := by rw [nmL_len, IntKind.wrap_i64]<;>omega
    refine cx_region_draw' rfl (by kernel_rfl) ?_
    repeat' (first|refine zw138 ?_|(refine ycf ?_;(first|(refine zg0 ?_ ?_<;>intro ht)|(refine tb_ ?_ ?_ ?_;(·(exact to_));(·intro _;(exact to_));intro _)))|fail)
    repeat' (first|refine zw139 ?_|(refine ta_ ?_;intro _)|(refine zk0 ?_ ?_<;>intro ht)|fail)
    refine cx_region_draw' rfl (by kernel_rfl) ?_
    repeat' (first|refine zw138 ?_|(refine ycf ?_;(first|(refine zg0 ?_ ?_<;>intro ht)|(refine tb_ ?_ ?_ ?_;(·(exact to_));(·intro _;(exact to_));intro _)))|fail)
    refine rx_mapUpdate 1 string_kl rfl rfl rfl rfl rfl rfl ?_ ?_ ?_
    · (exact to_)
    · exact .inr (by kernel_rfl)
    have hmp : mput (nmL N) (bstr nm) (.int .i64 ((N.length + 1 : Nat) : Int)) = nmL (addN N nm) := nmL_add hN hx hm
    rw [hmp]
    generalize hN2 : addN N nm = N2
    show RX _ _ _ _ _ _ _ [_, nmR bn N2] _
    repeat' (first|refine zw138 ?_|(refine ycf ?_;(first|(refine zg0 ?_ ?_<;>intro ht)|(refine tb_ ?_ ?_ ?_;(·(exact to_));(·intro _;(exact to_));intro _)))|fail)
    repeat' (first|refine zw136 ?_|(refine ta_ ?_;intro _)|(refine zk0 ?_ ?_<;>intro ht)|fail)
    (refine yco (ycp Tryz.func57 rfl (by kernel_rfl) rfl) (draw_sp bv true key bn bu bt 0 (N.length + 1) 32 hk hk32 (by omega) (by omega) (by omega) h hv) rfl rfl rfl ?_ ?_ ?_; (· (exact to_)); (·exact zc148); intro x px hle)
    have hdl := drawF_len key 0 (N.length + 1) 32 (by omega)
    have hol : (bcs (drawF key 0 (N.length + 1) 32)).length = 32 := by rw [bcs_len, hdl]
    unfold blindF
    rw [hix]
    generalize drawF key 0 (N.length + 1) 32 = out at hdl hol ⊢
    refine rx_rowform 0 rfl (fun _ h1 _ => (by omega)) ?_
    rintro g6 cap6 rfl
    repeat' (first|refine zw137 ?_|(refine ta_ ?_;intro _)|(refine zk0 ?_ ?_<;>intro ht)|fail)
    exact nx_ret2 rfl (rv_cells rfl (yaz 1 rfl) (by show (bcs out).toArray.toList.length = 32; simpa using hol)) (rv_tmp rfl) (fun w' s' => ⟨(), rfl, s'.tl.tl, trivial⟩)
end Go.Proofs.YtgeepceieckooaaGreatDoor
end

section
namespace Go.Proofs.YtgeepceieckooaaGreatDoor
open Go Go.Ck
set_option maxHeartbeats 4000000
abbrev useV : UseK → Value := fun a => Value.agg (useA a)
abbrev seaV : SeaK → Value := fun a => Value.agg (seaA a)
def usL (U : List UseK) : List (UseK × Value) := U.map fun x => (x, .bool true)
abbrev usR (bu : Nat) (U : List UseK) : Res := Res.mp useV bu (usL U)
abbrev Tab := List (SeaK × Value × List Int)
def tbL (T : Tab) : List (SeaK × Value) := T.map fun x => (x.1, x.2.1)
abbrev tbR (bt : Nat) (T : Tab) : Res := Res.mp seaV bt (tbL T)
theorem usL_get (U : List UseK) (a : UseK) : mget (usL U) a = if a ∈ U then some (.bool true) else none := by
  induction U with
  | nil => rfl
  | cons y U ih =>
    show (if a = y then some (Value.bool true) else mget (usL U) a) = _
    by_cases h : a = y
    · rw [if_pos h, if_pos (by rw [h]; exact List.mem_cons_self ..)]
    · rw [if_neg h, ih]
      have : (a ∈ y :: U) ↔ a ∈ U := by simp [h]
      simp only [this]
theorem usL_put {U : List UseK} {a : UseK} (h : a ∉ U) : mput (usL U) a (.bool true) = usL (U ++ [a]) := by
  rw [mput_new (by rw [usL_get, if_neg h])]
  simp [usL]
theorem usL_len (U : List UseK) : (usL U).length = U.length := by simp [usL]
def Held (U : List UseK) (T : Tab) : Prop := ∀ x ∈ T, (x.1.1, x.1.2.1) ∈ U
def TbOk (h : View) (T : Tab) : Prop := ∀ x ∈ T, Bs8 h x.2.1 x.2.2
theorem TbOk.mono {h h' : View} {T : Tab} (s : TbOk h T) (hl : Le h h') : TbOk h' T := fun x hx => (s x hx).mono hl
theorem tbL_new {U : List UseK} {T : Tab} (hh : Held U T) {k : SeaK} (hk : (k.1, k.2.1) ∉ U) : mget (tbL T) k = none := by
  rw [mget_none]
  intro x hx e
  obtain ⟨y, hy, rfl⟩ := List.mem_map.1 hx
  have e : y.1 = k := e
  exact hk (e ▸ hh y hy)
theorem tbL_put {U : List UseK} {T : Tab} (hh : Held U T) {k : SeaK} (hk : (k.1, k.2.1) ∉ U) (v : Value) (b : List Int) : mput (tbL T) k v = tbL (T ++ [(k, v, b)]) := by
  rw [mput_new (tbL_new hh hk)]
  simp [tbL]
def sealF (key : List Int) (U : List UseK) (b : List Int) : List Int := drawF key 1 (U.length + 1) (b.length + 16)
theorem VSealO_sp (bv : Nat) (key : List Int) (bn bu bt : Nat) (U : List UseK) (T : Tab) (ep c n : Int) (vw vb : Value) (wi b : List Int) (hk : Bytes key) (hk32 : key.length = 32) (hU : U.length < 900000) (hT : Held U T) (hok : sealOk ep c n) (hnew : (c, n) ∉ U) (hbl : b.length ≤ 5000)
    (h : View) (hv : Vb h bv true key bn bu bt) (hw : Bs8 h vw wi) (hb : Bs8 h vb b) (w : World) (s : St ⟨w, h, doms [usR bu U, tbR bt T]⟩ h [usR bu U, tbR bt T] w) :
    Calls Tryz.prog 29 [.pointer (some ⟨bv, 0, none⟩), .int .i64 ep, .int .i64 c, .int .i64 n, vw, vb].toArray w fun e w' => ∃ x : Value × Value, e = .returned (.tuple #[x.1, .int .i64 0]) ∧
      St ⟨w, h, doms [usR bu U, tbR bt T]⟩ h [rowB x.1 (sealF key U b), rowB x.2 b, usR bu (U ++ [(c, n)]), tbR bt (T ++ [((c, n, ep, bstr wi, bstr (sealF key U b)), x.2, b)])] w' ∧ True := by
  obtain ⟨_, adw, capw, rfl, hcapw, _⟩ := id hw
  obtain ⟨_, adb, capb, rfl, hcapb, _⟩ := id hb
  have R1 := vright_sp ep c n h
  rw [if_pos hok] at R1
  refine calls_enter Tryz.func29 rfl Tryz.ntmps29 rfl s ?_
  repeat' (first|refine zw140 ?_|(refine ta_ ?_;intro _)|(refine zk0 ?_ ?_<;>intro ht)|fail)
  (refine ycn (ycp Tryz.func61 rfl (by kernel_rfl) rfl) (R1) rfl rfl rfl ?_ ?_; (· (exact to_)))
  repeat' (first|refine zw140 ?_|(refine ta_ ?_;intro _)|(refine zk0 ?_ ?_<;>intro ht)|fail)
  have hu0 : (mget (usL U) ((c, n) : UseK)).getD (.bool false) = .bool false := by rw [usL_get, if_neg hnew]; rfl
  refine cx_region_draw' rfl (by kernel_rfl) ?_
  repeat' (first|refine zw141 ?_|(refine ycf ?_;(first|(refine zg0 ?_ ?_<;>intro ht)|(refine tb_ ?_ ?_ ?_;(·(exact to_));(·intro _;(exact to_));intro _)))|fail)
  repeat' (first|refine zw142 ?_|(refine ta_ ?_;intro _)|(refine zk0 ?_ ?_<;>intro ht)|fail)
  refine cx_region_draw' rfl (by kernel_rfl) ?_
  repeat' (first|refine zw143 ?_|(refine ycf ?_;(first|(refine zg0 ?_ ?_<;>intro ht)|(refine tb_ ?_ ?_ ?_;(·(exact to_));(·intro _;(exact to_));intro _)))|fail)
  refine rx_mapUpdate (a := ((c, n) : UseK)) 1 use_kl rfl rfl rfl rfl rfl rfl ?_ ?_ ?_
  · (exact to_)
  · exact .inr (by kernel_rfl)
  rw [usL_put hnew]
  have hU2 : (usL (U ++ [((c, n) : UseK)])).length = U.length + 1 := by rw [usL_len, List.length_append]; rfl
  have hkey : sealF key U b = drawF key 1 (usL (U ++ [((c, n) : UseK)])).length (b.length + 16) := by rw [hU2]; rfl
  have hlen1 : (usL (U ++ [((c, n) : UseK)])).length < 1000000 := by omega
  generalize hU3 : U ++ [((c, n) : UseK)] = U2 at hkey hlen1 hU2 ⊢
  repeat' (first|refine zw143 ?_|(refine ycf ?_;(first|(refine zg0 ?_ ?_<;>intro ht)|(refine tb_ ?_ ?_ ?_;(·(exact to_));(·intro _;(exact to_));intro _)))|fail)
  have wl : IntKind.i64.wrap ((b.length : Nat) + 16 : Int) = ((b.length + 16 : Nat) : Int) := by rw [IntKind.wrap_i64]<;>omega
  repeat' (first|refine zw144 ?_|(refine ta_ ?_;intro _)|(refine zk0 ?_ ?_<;>intro ht)|fail)
  (refine yco (ycp Tryz.func57 rfl (by kernel_rfl) rfl) (draw_sp bv true key bn bu bt 1 (usL U2).length (b.length + 16) hk hk32 (by omega) hlen1 (by omega) h hv) rfl rfl rfl ?_ ?_ ?_; (· (exact to_)); (·exact zc148); intro x px hle)
  rw [← hkey]
  have hol : (sealF key U b).length = b.length + 16 := drawF_len _ _ _ _ (by omega)
  generalize sealF key U b = out at hkey hol ⊢
  refine rx_rowform 0 rfl (fun _ h1 _ => (by omega)) ?_
  rintro go capo rfl
  clear px hle
  repeat' (first|refine zw145 ?_|(refine ta_ ?_;intro _)|(refine zk0 ?_ ?_<;>intro ht)|fail)
  refine cx_region_drawY [12, 13] rfl (by kernel_rfl) ?_
  repeat' (first|refine zw146 ?_|(refine ycf ?_;(first|(refine zg0 ?_ ?_<;>intro ht)|(refine tb_ ?_ ?_ ?_;(·(exact to_));(·intro _;(exact to_));intro _)))|fail)
  (refine yco (ycp Tryz.func60 rfl (by kernel_rfl) rfl) (BClone_sp _ b h hb (by omega)) rfl rfl rfl ?_ ?_ ?_; (· (exact to_)); (·exact zc148); intro x px hle)
  refine rx_mapUpdate (a := ((c, n, ep, bstr wi, bstr out) : SeaK)) 4 sea_kl rfl rfl rfl rfl rfl rfl ?_ ?_ ?_
  · exact .inl (fun _ s => Hd.sub s (Le.refl _) (fun r hr => List.mem_cons_of_mem _ hr))
  · exact .inr (by kernel_rfl)
  have hput : mput (tbL T) ((c, n, ep, bstr wi, bstr out) : SeaK) x = tbL (T ++ [((c, n, ep, bstr wi, bstr out), x, b)]) := tbL_put hT hnew x b
  rw [hput]
  repeat' (first|refine zw147 ?_|(refine ycf ?_;(first|(refine zg0 ?_ ?_<;>intro ht)|(refine tb_ ?_ ?_ ?_;(·(exact to_));(·intro _;(exact to_));intro _)))|fail)
  repeat' (first|refine zw3 ?_|(refine ta_ ?_;intro _)|(refine zk0 ?_ ?_<;>intro ht)|fail)
  refine nx_ret2 rfl (rv_tmp rfl) (rv_tmp rfl) (fun w' s' => ⟨(_, x), rfl, ?_, trivial⟩)
  exact s'.picks [1, 0, 1, 1]
theorem VSeal_sp (bv : Nat) (key : List Int) (bn bu bt : Nat) (U : List UseK) (T : Tab) (ep c n : Int) (vw vb : Value) (wi b : List Int) (hk : Bytes key) (hk32 : key.length = 32) (hU : U.length < 900000) (hT : Held U T) (hok : sealOk ep c n) (hnew : (c, n) ∉ U) (hbl : b.length ≤ 5000)
    (h : View) (hv : Vb h bv true key bn bu bt) (hw : Bs8 h vw wi) (hb : Bs8 h vb b) (w : World) (s : St ⟨w, h, doms [usR bu U, tbR bt T]⟩ h [usR bu U, tbR bt T] w) :
    Calls Tryz.prog 29 [.pointer (some ⟨bv, 0, none⟩), .int .i64 ep, .int .i64 c, .int .i64 n, vw, vb].toArray w fun e w' => ∃ x : View × Value × Value, e = .returned (.tuple #[x.2.1, .int .i64 0]) ∧
      St ⟨w, h, doms [usR bu U, tbR bt T]⟩ x.1 [rowB x.2.1 (sealF key U b), usR bu (U ++ [(c, n)]), tbR bt (T ++ [((c, n, ep, bstr wi, bstr (sealF key U b)), x.2.2, b)])] w' ∧ Bs8 x.1 x.2.2 b := by
  refine (VSealO_sp bv key bn bu bt U T ep c n vw vb wi b hk hk32 hU hT hok hnew hbl h hv hw hb w s).mono fun e w' he => ?_
  obtain ⟨⟨v1, v2⟩, he, st, _⟩ := he
  obtain ⟨h', _, hb', st'⟩ := (st.perm (perm_at (k := 1) rfl)).rowPersistA (fun z hz => by simp [doms, Res.mp, Res.row] at hz ⊢;rcases hz with hz | hz<;>simp [hz])
  exact ⟨(h', v1, v2), he, st', hb'⟩
end Go.Proofs.YtgeepceieckooaaGreatDoor
end

section
namespace Go.Proofs.YtgeepceieckooaaGreatDoor
open Go Go.Ck
set_option maxHeartbeats 4000000
theorem tbL_get (T : Tab) (k : SeaK) : mget (tbL T) k = (mget T k).map (·.1) := by
  induction T with
  | nil => rfl
  | cons y T ih =>
    show (if k = y.1 then some y.2.1 else mget (tbL T) k) = Option.map _ (if k = y.1 then some y.2 else mget T k)
    split
    · rfl
    · exact ih
theorem VOpen_some (bv : Nat) (key : List Int) (bn bu bt : Nat) (T : Tab) (ep c n : Int) (vw vs : Value) (wi se : List Int) (x : Value × List Int) (hk32 : key.length = 32) (hok : sealOk ep c n) (hsl : 16 ≤ se.length)
    (hx : mget T (c, n, ep, bstr wi, bstr se) = some x) (hxl : x.2.length ≤ 1000000) (h : View) (hT : TbOk h T) (hv : Vb h bv true key bn bu bt) (hw : Bs8 h vw wi) (hb : Bs8 h vs se) (w : World) (s : St ⟨w, h, doms [tbR bt T]⟩ h [tbR bt T] w) :
    Calls Tryz.prog 37 [.pointer (some ⟨bv, 0, none⟩), .int .i64 ep, .int .i64 c, .int .i64 n, vw, vs].toArray w fun e w' => ∃ v, e = .returned (.tuple #[v, .int .i64 0]) ∧ St ⟨w, h, doms [tbR bt T]⟩ h [rowB v x.2, tbR bt T] w' ∧ True := by
  obtain ⟨_, adw, capw, rfl, hcapw, _⟩ := id hw
  obtain ⟨_, ads, caps, rfl, hcaps, _⟩ := id hb
  have R1 := vright_sp ep c n h
  rw [if_pos hok] at R1
  have hxb : Bs8 h x.1 x.2 := hT _ (mget_mem hx)
  have hg : mget (tbL T) ((c, n, ep, bstr wi, bstr se) : SeaK) = some x.1 := by rw [tbL_get, hx]; rfl
  have hg1 : (mget (tbL T) ((c, n, ep, bstr wi, bstr se) : SeaK)).getD (.slice none 0 0) = x.1 := by rw [hg]; rfl
  have hg2 : (mget (tbL T) ((c, n, ep, bstr wi, bstr se) : SeaK)).isSome = true := by rw [hg]; rfl
  obtain ⟨xv, xb⟩ := x
  dsimp only at hxb hg1 hxl ⊢
  obtain ⟨_, adx, capx, rfl, hcapx, _⟩ := id hxb
  refine calls_enter Tryz.func37 rfl Tryz.ntmps37 rfl s ?_
  repeat' (first|refine zw148 ?_|(refine ta_ ?_;intro _)|(refine zk0 ?_ ?_<;>intro ht)|fail)
  (refine ycn (ycp Tryz.func61 rfl (by kernel_rfl) rfl) (R1) rfl rfl rfl ?_ ?_; (· (exact to_)))
  repeat' (first|refine zw148 ?_|(refine ta_ ?_;intro _)|(refine zk0 ?_ ?_<;>intro ht)|fail)
  refine cx_region_drawY [17, 18] rfl (by kernel_rfl) ?_
  repeat' (first|refine zw149 ?_|(refine ycf ?_;(first|(refine zg0 ?_ ?_<;>intro ht)|(refine tb_ ?_ ?_ ?_;(·(exact to_));(·intro _;(exact to_));intro _)))|fail)
  repeat' (first|refine zw3 ?_|(refine ta_ ?_;intro _)|(refine zk0 ?_ ?_<;>intro ht)|fail)
  (refine yco (ycp Tryz.func60 rfl (by kernel_rfl) rfl) (BClone_sp _ xb h hxb (by omega)) rfl rfl rfl ?_ ?_ ?_; (· (exact to_)); (·exact zc148); intro x px hle)
  repeat' (first|refine zw3 ?_|(refine ta_ ?_;intro _)|(refine zk0 ?_ ?_<;>intro ht)|fail)
  exact nx_ret2 rfl (rv_tmp rfl) (rv_tmp rfl) (fun w' s' => ⟨x, rfl, s', trivial⟩)
theorem VOpen_none (bv : Nat) (key : List Int) (bn bu bt : Nat) (T : Tab) (ep c n : Int) (vw vs : Value) (wi se : List Int) (hk32 : key.length = 32) (hok : sealOk ep c n) (hsl : 16 ≤ se.length)
    (hx : mget T (c, n, ep, bstr wi, bstr se) = none) (h : View) (hv : Vb h bv true key bn bu bt) (hw : Bs8 h vw wi) (hb : Bs8 h vs se) (w : World) (s : St ⟨w, h, doms [tbR bt T]⟩ h [tbR bt T] w) :
    Calls Tryz.prog 37 [.pointer (some ⟨bv, 0, none⟩), .int .i64 ep, .int .i64 c, .int .i64 n, vw, vs].toArray w fun e w' => ∃ _ : Unit, e = .returned (.tuple #[.slice none 0 0, .int .i64 6]) ∧ St ⟨w, h, doms [tbR bt T]⟩ h [tbR bt T] w' ∧ True := by
  obtain ⟨_, adw, capw, rfl, hcapw, _⟩ := id hw
  obtain ⟨_, ads, caps, rfl, hcaps, _⟩ := id hb
  have R1 := vright_sp ep c n h
  rw [if_pos hok] at R1
  have hg : mget (tbL T) ((c, n, ep, bstr wi, bstr se) : SeaK) = none := by rw [tbL_get, hx]; rfl
  have hg1 : (mget (tbL T) ((c, n, ep, bstr wi, bstr se) : SeaK)).getD (.slice none 0 0) = .slice none 0 0 := by rw [hg]; rfl
  have hg2 : (mget (tbL T) ((c, n, ep, bstr wi, bstr se) : SeaK)).isSome = false := by rw [hg]; rfl
  refine calls_enter Tryz.func37 rfl Tryz.ntmps37 rfl s ?_
  repeat' (first|refine zw148 ?_|(refine ta_ ?_;intro _)|(refine zk0 ?_ ?_<;>intro ht)|fail)
  (refine ycn (ycp Tryz.func61 rfl (by kernel_rfl) rfl) (R1) rfl rfl rfl ?_ ?_; (· (exact to_)))
  repeat' (first|refine zw148 ?_|(refine ta_ ?_;intro _)|(refine zk0 ?_ ?_<;>intro ht)|fail)
  refine cx_region_drawY [17, 18] rfl (by kernel_rfl) ?_
  repeat' (first|refine zw149 ?_|(refine ycf ?_;(first|(refine zg0 ?_ ?_<;>intro ht)|(refine tb_ ?_ ?_ ?_;(·(exact to_));(·intro _;(exact to_));intro _)))|fail)
  repeat' (first|refine zw3 ?_|(refine ta_ ?_;intro _)|(refine zk0 ?_ ?_<;>intro ht)|fail)
  exact nx_ret2 rfl (rv_tmp rfl) (rv_tmp rfl) (fun w' s' => ⟨(), rfl, s', trivial⟩)
end Go.Proofs.YtgeepceieckooaaGreatDoor
end

section
namespace Go.Proofs.YtgeepceieckooaaGreatDoor
open Go Go.Ck
set_option maxHeartbeats 4000000
theorem fill_vault {idl : Bool} {key : List Int} {a b c : Nat} (hol : (bcs key).length = 32) : fillL (fun i : Nat => ([(0, 1), (1, 32), (33, 1), (34, 1), (35, 1)] : List (Nat × Nat))[i]?) (.bool false :: (List.replicate 32 (.int .u8 0) ++ [.map none, .map none, .map none])) [(0, .bool idl), (1, .agg (bcs key).toArray), (2, .map (some a)), (3, .map (some b)), (4, .map (some c))] = some (vcells idl key a b c) := by
  have h1 : (bcs key).toArray.size = 32 := by simpa using hol
  unfold vcells
  generalize bcs key = l at hol h1 ⊢
  have h2 : (Value.agg l.toArray).cells.size = 32 := h1
  have h3 : (Value.agg l.toArray).cells.toList = l := rfl
  have t33 : l.take 33 = l := List.take_of_length_le (by omega)
  have t34 : l.take 34 = l := List.take_of_length_le (by omega)
  have d33 : l.drop 33 = [] := List.drop_eq_nil_of_le (by omega)
  have d34 : l.drop 34 = [] := List.drop_eq_nil_of_le (by omega)
  have d35 : l.drop 35 = [] := List.drop_eq_nil_of_le (by omega)
  simp [fillL, spl, hol, Value.cells, List.take_append, List.drop_append, t33, t34, d33, d34, d35]
theorem vault_sp (idl : Bool) (key : List Int) (hk32 : key.length = 32) (h : View) (w : World) (s : St ⟨w, h, []⟩ h [] w) :
    Calls Tryz.prog 53 [.bool idl, .agg (bcs key).toArray].toArray w fun e w' => ∃ x : View × Nat × Nat × Nat × Nat, e = .returned (.pointer (some ⟨x.2.1, 0, none⟩)) ∧
      St ⟨w, h, []⟩ x.1 [nmR x.2.2.1 [], usR x.2.2.2.1 [], tbR x.2.2.2.2 []] w' ∧ Vb x.1 x.2.1 idl key x.2.2.1 x.2.2.2.1 x.2.2.2.2 := by
  have hol : (bcs key).length = 32 := by rw [bcs_len, hk32]
  refine calls_enter Tryz.func53 rfl Tryz.ntmps53 rfl s ?_
  repeat' (first|refine zw150 ?_|(refine ta_ ?_;intro _)|(refine zk0 ?_ ?_<;>intro ht)|fail)
  refine yba ma_makeMap rfl rfl rfl ybf (fun _ => ybf) ?_
  intro bn
  refine yba ma_makeMap rfl rfl rfl ybf (fun _ => ybf) ?_
  intro bu
  refine yba ma_makeMap rfl rfl rfl ybf (fun _ => ybf) ?_
  intro bt
  repeat' (first|refine zw151 ?_|(refine ta_ ?_;intro _)|(refine zk0 ?_ ?_<;>intro ht)|fail)
  refine nx_ret1 rfl (rv_tmp rfl) (fun w' s' => ?_)
  have s1 := s'.persist rfl
  have s2 := s1.mpOf seaV (k := 0) rfl
  have s3 := s2.mpOf useV (k := 1) rfl
  have s4 := s3.mpOf Value.string (k := 2) rfl
  have s5 := (s4.perm (List.reverse_perm _).symm).tl
  refine ⟨(_, _, bn, bu, bt), rfl, s5, ?_⟩
  show addV _ _ _ _ = _
  unfold addV
  rw [if_pos rfl]
  rfl
theorem Ideal_sp (key : List Int) (hk32 : key.length = 32) (h : View) (w : World) (s : St ⟨w, h, []⟩ h [] w) :
    Calls Tryz.prog 20 [.agg (bcs key).toArray].toArray w fun e w' => ∃ x : View × Nat × Nat × Nat × Nat, e = .returned (.pointer (some ⟨x.2.1, 0, none⟩)) ∧
      St ⟨w, h, []⟩ x.1 [nmR x.2.2.1 [], usR x.2.2.2.1 [], tbR x.2.2.2.2 []] w' ∧ Vb x.1 x.2.1 true key x.2.2.1 x.2.2.2.1 x.2.2.2.2 := by
  have hol : (bcs key).length = 32 := by rw [bcs_len, hk32]
  refine calls_enter Tryz.func20 rfl Tryz.ntmps20 rfl s ?_
  repeat' (first|refine zw150 ?_|(refine ta_ ?_;intro _)|(refine zk0 ?_ ?_<;>intro ht)|fail)
  (refine yco (ycp Tryz.func53 rfl (by kernel_rfl) rfl) (vault_sp true key hk32 h) rfl rfl rfl ?_ ?_ ?_; (· (exact to_)); (·exact zc148); intro x px hle)
  repeat' (first|refine zw150 ?_|(refine ta_ ?_;intro _)|(refine zk0 ?_ ?_<;>intro ht)|fail)
  refine nx_ret1 rfl (rv_tmp rfl) (fun w' s' => ⟨x, rfl, ?_, px⟩)
  exact (St.drop (L := [_]) (s'.perm (perm_at (k := 3) rfl)))
end Go.Proofs.YtgeepceieckooaaGreatDoor
end

section
namespace Go.Proofs.YtgeepceieckooaaGreatDoor
open Go Go.Ck
set_option maxHeartbeats 4000000
structure Hdr where
  ep : Int
  ct : Int
  cl : Int
  nu : Int
  past : List Int
def Hdr.ok (x : Hdr) : Prop := (1 ≤ x.ep ∧ x.ep ≤ 1048576) ∧ (1 ≤ x.ct ∧ x.ct ≤ 4611686018427387904) ∧ (1 ≤ x.cl ∧ x.cl ≤ 16) ∧ (1 ≤ x.nu ∧ x.nu ≤ 1099511627776) ∧ x.past.length ≤ 4096
instance (x : Hdr) : Decidable x.ok := by unfold Hdr.ok; exact inferInstance
def hdc (x : Hdr) (pv : Value) : List Value := [.int .i64 x.ep, .int .i64 x.ct, .int .i64 x.cl, .int .i64 x.nu, pv]
def envc (key : List Int) (x : Hdr) (pv sv : Value) : List Value := bcs key ++ (hdc x pv ++ [sv])
theorem within_sp (n a b : Int) (h : View) (w : World) (s : St ⟨w, h, []⟩ h [] w) :
    Calls Tryz.prog 54 [.int .i64 n, .int .i64 a, .int .i64 b].toArray w fun e w' => e = .returned (.bool (decide (a ≤ n ∧ n ≤ b))) ∧ St ⟨w, h, []⟩ h [] w' := by
  refine calls_enter Tryz.func54 rfl Tryz.ntmps54 rfl s ?_
  by_cases h1 : a ≤ n
  · by_cases h2 : n ≤ b
    · have e : decide (a ≤ n ∧ n ≤ b) = true := by simp [h1, h2]
      rw [e]
      repeat' (first|refine zw3 ?_|(refine ta_ ?_;intro _)|(refine zk0 ?_ ?_<;>intro ht)|fail)
      exact nx_ret1 rfl (rv_tmp rfl) (fun w' s' => ⟨rfl, s'⟩)
    · have e : decide (a ≤ n ∧ n ≤ b) = false := by simp [h2]
      rw [e]
      repeat' (first|refine zw3 ?_|(refine ta_ ?_;intro _)|(refine zk0 ?_ ?_<;>intro ht)|fail)
      exact nx_ret1 rfl (rv_tmp rfl) (fun w' s' => ⟨rfl, s'⟩)
  · have e : decide (a ≤ n ∧ n ≤ b) = false := by simp [h1]
    rw [e]
    repeat' (first|refine zw3 ?_|(refine ta_ ?_;intro _)|(refine zk0 ?_ ?_<;>intro ht)|fail)
    exact nx_ret1 rfl (rv_tmp rfl) (fun w' s' => ⟨rfl, s'⟩)
theorem name_sp (v : Value) (l : List Int) (h : View) (hs : Bs8 h v l) (w : World) (s : St ⟨w, h, []⟩ h [] w) :
    Calls Tryz.prog 22 [v].toArray w fun e w' => e = .returned (.bool (decide (1 ≤ l.length ∧ l.length ≤ 64))) ∧ St ⟨w, h, []⟩ h [] w' := by
  obtain ⟨_, ad, cap, rfl, hcap, _⟩ := id hs
  have e : decide (1 ≤ l.length ∧ l.length ≤ 64) = decide ((1 : Int) ≤ (l.length : Int) ∧ (l.length : Int) ≤ 64) := by
    rw [decide_eq_decide]; omega
  rw [e]
  refine calls_enter Tryz.func22 rfl Tryz.ntmps22 rfl s ?_
  repeat' (first|refine zw3 ?_|(refine ta_ ?_;intro _)|(refine zk0 ?_ ?_<;>intro ht)|fail)
  (refine ycn (ycp Tryz.func54 rfl (by kernel_rfl) rfl) (within_sp (l.length : Int) 1 64 h) rfl rfl rfl ?_ ?_; (· (exact to_)))
  repeat' (first|refine zw3 ?_|(refine ta_ ?_;intro _)|(refine zk0 ?_ ?_<;>intro ht)|fail)
  exact nx_ret1 rfl (rv_tmp rfl) (fun w' s' => ⟨rfl, s'⟩)
theorem hright_sp (x : Hdr) (pv : Value) (h : View) (hp : Bs8 h pv x.past) (w : World) (s : St ⟨w, h, []⟩ h [] w) :
    Calls Tryz.prog 23 [.agg (hdc x pv).toArray].toArray w fun e w' => e = .returned (.bool (decide x.ok)) ∧ St ⟨w, h, []⟩ h [] w' := by
  obtain ⟨_, ad, cap, rfl, hcap, _⟩ := id hp
  refine calls_enter Tryz.func23 rfl Tryz.ntmps23 rfl s ?_
  repeat' (first|refine zw3 ?_|(refine ta_ ?_;intro _)|(refine zk0 ?_ ?_<;>intro ht)|fail)
  have e : decide x.ok = (decide (1 ≤ x.ep ∧ x.ep ≤ 1048576) && (decide (1 ≤ x.ct ∧ x.ct ≤ 4611686018427387904) && (decide (1 ≤ x.cl ∧ x.cl ≤ 16) && (decide (1 ≤ x.nu ∧ x.nu ≤ 1099511627776) && decide ((x.past.length : Int) ≤ 4096))))) := by
    rw [Bool.eq_iff_iff]
    simp only [decide_eq_true_eq, Bool.and_eq_true]
    unfold Hdr.ok
    constructor
    · rintro ⟨a, b, c, d, e⟩; exact ⟨a, b, c, d, by omega⟩
    · rintro ⟨a, b, c, d, e⟩; exact ⟨a, b, c, d, by omega⟩
  rw [e]
  have W1 := within_sp x.ep 1 1048576 h
  have W2 := within_sp x.ct 1 4611686018427387904 h
  have W3 := within_sp x.cl 1 16 h
  have W4 := within_sp x.nu 1 1099511627776 h
  generalize decide (1 ≤ x.ep ∧ x.ep ≤ 1048576) = b1 at W1 ⊢
  generalize decide (1 ≤ x.ct ∧ x.ct ≤ 4611686018427387904) = b2 at W2 ⊢
  generalize decide (1 ≤ x.cl ∧ x.cl ≤ 16) = b3 at W3 ⊢
  generalize decide (1 ≤ x.nu ∧ x.nu ≤ 1099511627776) = b4 at W4 ⊢
  (refine ycn (ycp Tryz.func54 rfl (by kernel_rfl) rfl) (W1) rfl rfl rfl ?_ ?_; (· (exact to_)))
  cases b1
  · repeat' (first|refine zw3 ?_|(refine ta_ ?_;intro _)|(refine zk0 ?_ ?_<;>intro ht)|fail)
    exact nx_ret1 rfl (rv_tmp rfl) (fun w' s' => ⟨rfl, s'.nil⟩)
  repeat' (first|refine zw3 ?_|(refine ta_ ?_;intro _)|(refine zk0 ?_ ?_<;>intro ht)|fail)
  (refine ycn (ycp Tryz.func54 rfl (by kernel_rfl) rfl) (W2) rfl rfl rfl ?_ ?_; (· (exact to_)))
  cases b2
  · repeat' (first|refine zw3 ?_|(refine ta_ ?_;intro _)|(refine zk0 ?_ ?_<;>intro ht)|fail)
    exact nx_ret1 rfl (rv_tmp rfl) (fun w' s' => ⟨rfl, s'.nil⟩)
  repeat' (first|refine zw3 ?_|(refine ta_ ?_;intro _)|(refine zk0 ?_ ?_<;>intro ht)|fail)
  (refine ycn (ycp Tryz.func54 rfl (by kernel_rfl) rfl) (W3) rfl rfl rfl ?_ ?_; (· (exact to_)))
  cases b3
  · repeat' (first|refine zw3 ?_|(refine ta_ ?_;intro _)|(refine zk0 ?_ ?_<;>intro ht)|fail)
    exact nx_ret1 rfl (rv_tmp rfl) (fun w' s' => ⟨rfl, s'.nil⟩)
  repeat' (first|refine zw3 ?_|(refine ta_ ?_;intro _)|(refine zk0 ?_ ?_<;>intro ht)|fail)
  (refine ycn (ycp Tryz.func54 rfl (by kernel_rfl) rfl) (W4) rfl rfl rfl ?_ ?_; (· (exact to_)))
  cases b4
  · repeat' (first|refine zw3 ?_|(refine ta_ ?_;intro _)|(refine zk0 ?_ ?_<;>intro ht)|fail)
    exact nx_ret1 rfl (rv_tmp rfl) (fun w' s' => ⟨rfl, s'.nil⟩)
  repeat' (first|refine zw3 ?_|(refine ta_ ?_;intro _)|(refine zk0 ?_ ?_<;>intro ht)|fail)
  exact nx_ret1 rfl (rv_tmp rfl) (fun w' s' => ⟨rfl, s'.nil⟩)
def boundF (key : List Int) (x : Hdr) : List Int := key ++ num8 x.ep ++ num8 x.ct ++ num8 x.cl ++ num8 x.nu ++ num4 x.past.length ++ x.past
theorem envc_len {key : List Int} {x : Hdr} {pv sv : Value} (hk : key.length = 32) : (envc key x pv sv).length = 38 := by
  simp [envc, hdc, bcs_len, hk]
theorem envc_one {key : List Int} {x : Hdr} {pv sv : Value} (h1 : pv.oneCell' = true) (h2 : sv.oneCell' = true) : ∀ u ∈ envc key x pv sv, u.oneCell' = true := fun u hu => by
  simp only [envc, hdc, List.mem_append, List.mem_cons, List.not_mem_nil, or_false] at hu
  rcases hu with hu | (rfl | rfl | rfl | rfl | rfl) | rfl
  · exact bcs_one _ u hu
  all_goals first | rfl | assumption
section
variable {h : View} {L : List Res} {b o : Nat} {key : List Int} {x : Hdr} {pv sv : Value}
theorem env_key (c : Cells h L ⟨b, o, none⟩ (envc key x pv sv)) : Cells h L ⟨b, o, none⟩ (bcs key) := by
  have := c.take (bcs key).length
  simpa [envc] using this
theorem env_head (hk : key.length = 32) (c : Cells h L ⟨b, o, none⟩ (envc key x pv sv)) : Cells h L ⟨b, o + 32, none⟩ (hdc x pv) := by
  have h1 := (c.drop 32).take 5
  have hb : (bcs key).length = 32 := by rw [bcs_len, hk]
  rw [envc, List.drop_left' hb] at h1
  exact h1
theorem env_seal (hk : key.length = 32) (c : Cells h L ⟨b, o, none⟩ (envc key x pv sv)) : CellAt h L b (o + 37) sv := by
  have hb : (bcs key).length = 32 := by rw [bcs_len, hk]
  refine c.cell ?_
  rw [envc, List.getElem?_append_right (by omega), hb]
  rfl
end
theorem eright_sp (key : List Int) (x : Hdr) (pv sv : Value) (se : List Int) (hk32 : key.length = 32) (h : View) (hp : Bs8 h pv x.past) (hs : Bs8 h sv se) (w : World) (s : St ⟨w, h, []⟩ h [] w) :
    Calls Tryz.prog 36 [.agg (envc key x pv sv).toArray].toArray w fun e w' => e = .returned (.bool (decide (x.ok ∧ 16 ≤ se.length ∧ se.length ≤ 8192))) ∧ St ⟨w, h, []⟩ h [] w' := by
  obtain ⟨_, ad, cap, rfl, hcap, _⟩ := id hs
  have hone : pv.oneCell' = true := by
    obtain ⟨_, _, _, rfl, _, _⟩ := id hp
    rfl
  refine calls_enter Tryz.func36 rfl Tryz.ntmps36 rfl s ?_
  have W0 := hright_sp x pv h hp
  have W1 := within_sp (se.length : Int) 16 8192 h
  have e : decide (x.ok ∧ 16 ≤ se.length ∧ se.length ≤ 8192) = (decide x.ok && decide ((16 : Int) ≤ (se.length : Int) ∧ (se.length : Int) ≤ 8192)) := by
    rw [Bool.eq_iff_iff]
    simp only [decide_eq_true_eq, Bool.and_eq_true]
    constructor
    · rintro ⟨a, b⟩; exact ⟨a, by omega⟩
    · rintro ⟨a, b⟩; exact ⟨a, by omega⟩
  rw [e]
  generalize decide x.ok = b0 at W0 ⊢
  repeat' (first|refine zw152 ?_|(refine ta_ ?_;intro _)|(refine zk0 ?_ ?_<;>intro ht)|fail)
  (refine ycn (ycp Tryz.func23 rfl (by kernel_rfl) rfl) (W0) rfl rfl rfl ?_ ?_; (· (exact to_)))
  cases b0
  · repeat' (first|refine zw152 ?_|(refine ta_ ?_;intro _)|(refine zk0 ?_ ?_<;>intro ht)|fail)
    exact nx_ret1 rfl (rv_tmp rfl) (fun w' s' => ⟨rfl, s'.nil⟩)
  repeat' (first|refine zw152 ?_|(refine ta_ ?_;intro _)|(refine zk0 ?_ ?_<;>intro ht)|fail)
  (refine ycn (ycp Tryz.func54 rfl (by kernel_rfl) rfl) (W1) rfl rfl rfl ?_ ?_; (· (exact to_)))
  repeat' (first|refine zw152 ?_|(refine ta_ ?_;intro _)|(refine zk0 ?_ ?_<;>intro ht)|fail)
  exact nx_ret1 rfl (rv_tmp rfl) (fun w' s' => ⟨rfl, s'.nil⟩)
end Go.Proofs.YtgeepceieckooaaGreatDoor
end

section
namespace Go.Proofs.YtgeepceieckooaaGreatDoor
open Go Go.Ck
set_option maxHeartbeats 4000000
theorem bclone_sp (sv : Value) (l : List Int) (h : View) (hs : Bs8 h sv l) (hl : l.length ≤ 1000000) (w : World) (s : St ⟨w, h, []⟩ h [] w) :
    Calls Tryz.prog 26 [sv].toArray w fun e w' => ∃ v, e = .returned v ∧ St ⟨w, h, []⟩ h [rowB v l] w' ∧ True := by
  obtain ⟨_, ad, cap, rfl, hcap, _⟩ := id hs
  refine calls_enter Tryz.func26 rfl Tryz.ntmps26 rfl s ?_
  repeat' (first|refine zw15 ?_|(refine ta_ ?_;intro _)|(refine zk0 ?_ ?_<;>intro ht)|fail)
  · cases ad with
    | some ad => cases ht
    | none =>
      have h0 : l = [] := by
        obtain ⟨h1, ad', cap', h2, h3, h4⟩ := hs
        cases h2
        rcases h4 with h4 | ⟨b, o, cs, e, fz, q1, _⟩
        · have := congrArg List.length h4
          rw [bcs_len] at this
          exact List.eq_nil_of_length_eq_zero this
        · cases q1
      subst h0
      refine nx_ret1 rfl (rv_tmp rfl) (fun w' s' => ⟨_, rfl, ?_, trivial⟩)
      exact s'.rowNil _ _
  · refine yba ma_buildSlice0 rfl rfl rfl ybf (fun _ => ybf) ?_
    intro b
    refine rx_rowOf 1 0 0 (by omega) (by unfold maxLen; omega) rfl ?_
    repeat' (first|refine zw15 ?_|(refine ta_ ?_;intro _)|(refine zk0 ?_ ?_<;>intro ht)|fail)
    refine rx_append_sc (sz := 1) 0 rfl rfl rfl hs (bcs_one l) rfl (by omega) (by unfold maxLen; omega) (by omega) rfl rfl rfl ybf (fun _ => ybf) ?_
    intro v' _
    repeat' (first|refine zw15 ?_|(refine ta_ ?_;intro _)|(refine zk0 ?_ ?_<;>intro ht)|fail)
    refine nx_ret1 rfl (rv_tmp rfl) (fun w' s' => ⟨_, rfl, ?_, trivial⟩)
    simpa using s'
theorem bound_sp (key : List Int) (q : Hdr) (pv sv : Value) (hk32 : key.length = 32) (hok : q.ok) (hsv : sv.oneCell' = true) (h : View) (hp : Bs8 h pv q.past) (w : World) (s : St ⟨w, h, []⟩ h [] w) :
    Calls Tryz.prog 27 [.agg (envc key q pv sv).toArray].toArray w fun e w' => ∃ y : Nat × Value, e = .returned (.pointer (some ⟨y.1, 0, none⟩)) ∧ St ⟨w, h, []⟩ h [outR y.1 y.2 false, rowB y.2 (boundF key q)] w' ∧ True := by
  obtain ⟨_, ad, cap, rfl, hcap, _⟩ := id hp
  obtain ⟨⟨e1, e2⟩, ⟨c1, c2⟩, ⟨d1, d2⟩, ⟨n1, n2⟩, pl⟩ := id hok
  refine calls_enter Tryz.func27 rfl Tryz.ntmps27 rfl s ?_
  repeat' (first|refine zw153 ?_|(refine ta_ ?_;intro _)|(refine zk0 ?_ ?_<;>intro ht)|fail)
  rename_i be bh bo
  refine cx_perm (perm_at (k := 2) rfl) ?_
  refine cx_bpersist rfl fun hn => ?_
  have hcells : (addV h be (Obj.cells (Value.agg (envc key q (Value.slice ad q.past.length cap) sv).toArray).cells 41)) be = some (.cells (envc key q (Value.slice ad q.past.length cap) sv).toArray 41 (0, 0)) := by
    unfold addV
    rw [if_pos rfl]
    rfl
  have hle1 : Le h (addV h be (Obj.cells (Value.agg (envc key q (Value.slice ad q.past.length cap) sv).toArray).cells 41)) := fun z o hz => by
    unfold addV
    by_cases hzb : z = be
    · subst hzb; rw [hn] at hz; cases hz
    · rw [if_neg hzb]; exact hz
  have hp1 := hp.mono hle1
  generalize hv1 : addV h be _ = h1 at *
  have hkey : Bs8 h1 (.slice (some ⟨be, 0, none⟩) 32 32) key := by
    have hb := bcs_len key
    refine ⟨by rw [hb, Nat.mul_one], _, _, by rw [hk32], by rw [hk32]; exact Nat.le_refl _, .inr ⟨be, 0, _, _, _, rfl, hcells, fun j u hj => ?_⟩⟩
    have hjl : j < (bcs key).length := (List.getElem?_eq_some_iff.1 hj).1
    show (envc key q _ _).toArray[0 + j]? = _
    rw [Nat.zero_add, List.getElem?_toArray, envc, List.getElem?_append_left hjl]
    exact hj
  refine cx_row 5 1 ?_
  refine cx_perm (List.Perm.swap _ _ _) ?_
  refine cx_region_draw [Res.blk bh (.cells (hdc q (.slice ad q.past.length cap)).toArray 36 (0, 0))] rfl (by kernel_rfl) ?_
  repeat' (first|refine zw154 ?_|(refine ycf ?_;(first|(refine zg0 ?_ ?_<;>intro ht)|(refine tb_ ?_ ?_ ?_;(·exact zc63);(·exact zc153);intro _)))|fail)
  (refine rx_call_2 (ycp Tryz.func58 rfl (by kernel_rfl) rfl) (OutFixed_sp bo (.slice none 0 0) [] false _ key (by simp;omega) h1 hkey) rfl rfl rfl ?_ ?_ ?_;(·exact zc63);(·exact zc154);intro x px hle)
  repeat' (first|refine zw155 ?_|(refine ycf ?_;(first|(refine zg0 ?_ ?_<;>intro ht)|(refine tb_ ?_ ?_ ?_;(·exact zc63);(·exact zc153);intro _)))|fail)
  (refine rx_call_2 (ycp Tryz.func59 rfl (by kernel_rfl) rfl) (OutNum_sp bo x _ false q.ep (by omega) (by omega) (by simp;omega) h1) rfl rfl rfl ?_ ?_ ?_;(·exact zc63);(·exact zc154);intro x px hle)
  repeat' (first|refine zw155 ?_|(refine ycf ?_;(first|(refine zg0 ?_ ?_<;>intro ht)|(refine tb_ ?_ ?_ ?_;(·exact zc63);(·exact zc153);intro _)))|fail)
  (refine rx_call_2 (ycp Tryz.func59 rfl (by kernel_rfl) rfl) (OutNum_sp bo x _ false q.ct (by omega) (by omega) (by simp [putLow_len];omega) h1) rfl rfl rfl ?_ ?_ ?_;(·exact zc63);(·exact zc154);intro x px hle)
  repeat' (first|refine zw155 ?_|(refine ycf ?_;(first|(refine zg0 ?_ ?_<;>intro ht)|(refine tb_ ?_ ?_ ?_;(·exact zc63);(·exact zc153);intro _)))|fail)
  (refine rx_call_2 (ycp Tryz.func59 rfl (by kernel_rfl) rfl) (OutNum_sp bo x _ false q.cl (by omega) (by omega) (by simp [putLow_len];omega) h1) rfl rfl rfl ?_ ?_ ?_;(·exact zc63);(·exact zc154);intro x px hle)
  repeat' (first|refine zw155 ?_|(refine ycf ?_;(first|(refine zg0 ?_ ?_<;>intro ht)|(refine tb_ ?_ ?_ ?_;(·exact zc63);(·exact zc153);intro _)))|fail)
  (refine rx_call_2 (ycp Tryz.func59 rfl (by kernel_rfl) rfl) (OutNum_sp bo x _ false q.nu (by omega) (by omega) (by simp [putLow_len];omega) h1) rfl rfl rfl ?_ ?_ ?_;(·exact zc63);(·exact zc154);intro x px hle)
  repeat' (first|refine zw155 ?_|(refine ycf ?_;(first|(refine zg0 ?_ ?_<;>intro ht)|(refine tb_ ?_ ?_ ?_;(·exact zc63);(·exact zc153);intro _)))|fail)
  (refine rx_call_2 (ycp Tryz.func51 rfl (by kernel_rfl) rfl) (OutBytes_sp bo x _ false _ q.past (by simp [putLow_len];omega) h1 hp1) rfl rfl rfl ?_ ?_ ?_;(·exact zc63);(·exact zc154);intro x px hle)
  repeat' (first|refine zw155 ?_|(refine ycf ?_;(first|(refine zg0 ?_ ?_<;>intro ht)|(refine tb_ ?_ ?_ ?_;(·exact zc63);(·exact zc153);intro _)))|fail)
  repeat' (first|refine tw_ ?_|(refine ta_ ?_;intro _)|(refine zk0 ?_ ?_<;>intro ht)|fail)
  refine nx_ret1 rfl (rv_tmp rfl) (fun w' s' => ⟨(bo, x), rfl, ?_, trivial⟩)
  have s2 := St.drop (L := [_]) (s'.perm (List.perm_append_comm (l₁ := [_, _]) (l₂ := [_])))
  rw [List.nil_append] at s2
  exact s2.baseL
end Go.Proofs.YtgeepceieckooaaGreatDoor
end

section
namespace Go.Proofs.YtgeepceieckooaaGreatDoor
open Go Go.Ck
set_option maxHeartbeats 4000000
def hpadF (key : List Int) (c : Int) : List Int := mixB (key ++ List.replicate (64 - key.length) 0) (List.replicate 64 c)
theorem hpadF_len {key : List Int} {c : Int} (h : key.length ≤ 64) : (hpadF key c).length = 64 := by
  rw [hpadF, mixB_len]; simp; omega
theorem zc_bytes (m : Nat) : (Builtin.zeroCells (Value.int .u8 0).cells m).toList = bcs (List.replicate m 0) := by
  rw [← zeros_bcs]
  apply List.ext_getElem
  · simp [size_zeroCells, Value.cells]
  · intro i h1 h2
    simp [Builtin.zeroCells, Value.cells, Nat.mod_one]
theorem hpadded_sp (v : Value) (key : List Int) (c : Int) (hc : 0 ≤ c ∧ c < 256) (hk : Bytes key) (hl : 1 ≤ key.length ∧ key.length ≤ 64) (h : View) (hb : Bs8 h v key) (w : World) (s : St ⟨w, h, []⟩ h [] w) :
    Calls Tryz.prog 101 [v, .int .u8 c].toArray w fun e w' => ∃ v, e = .returned v ∧ St ⟨w, h, []⟩ h [rowB v (hpadF key c)] w' ∧ True := by
  obtain ⟨_, ad, cap, rfl, hcap, _⟩ := id hb
  refine calls_enter Tryz.func101 rfl Tryz.ntmps101 rfl s ?_
  repeat' (first|refine zw3 ?_|(refine ta_ ?_;intro _)|(refine zk0 ?_ ?_<;>intro ht)|fail)
  (refine yco (ycp Tryz.func26 rfl (by kernel_rfl) rfl) (bclone_sp _ key h hb (by omega)) rfl rfl rfl ?_ ?_ ?_; (· (exact to_)); (·exact zc148); intro x px hle)
  refine rx_rowform 0 rfl (fun _ h1 _ => (by omega)) ?_
  rintro g1 cap1 rfl
  clear px hle
  have wl : IntKind.i64.wrap (64 - (key.length : Nat) : Int) = ((64 - key.length : Nat) : Int) := by rw [IntKind.wrap_i64]<;>omega
  repeat' (first|refine zw156 ?_|(refine ta_ ?_;intro _)|(refine zk0 ?_ ?_<;>intro ht)|fail)
  refine rx_append_zeros (z := .int .u8 0) (sz := 1) 0 rfl rfl rfl rfl rfl (by omega) (by unfold maxLen; omega) (by omega) rfl rfl rfl ybf (fun _ => ybf) ?_
  intro v1
  rw [zc_bytes, ← bcs_app]
  have hwl : (key ++ List.replicate (64 - key.length) 0).length = 64 := by simp; omega
  have hwb : Bytes (key ++ List.replicate (64 - key.length) 0) := cbytes_app hk (zeros_by _)
  have e64 : key.length + (64 - key.length) = (key ++ List.replicate (64 - key.length) (0 : Int)).length := by simp
  rw [e64]
  refine rx_persist rfl fun h1 hle1 hv1 => ?_
  have hv1 : Bs8 h1 v1 (key ++ List.replicate (64 - key.length) 0) := hv1
  unfold hpadF
  generalize key ++ List.replicate (64 - key.length) 0 = wide at hwl hwb hv1 ⊢
  obtain ⟨_, adw, capw, rfl, hcapw, _⟩ := id hv1
  repeat' (first|refine zw3 ?_|(refine ta_ ?_;intro _)|(refine zk0 ?_ ?_<;>intro ht)|fail)
  refine rx_rowOf 1 1 1 (Nat.le_refl _) (by unfold maxLen; omega) rfl ?_
  refine rx_persist rfl fun h2 hle2 hv2 => ?_
  have hv2 : Bs8 h2 (.slice (some ⟨_, 0, none⟩) 1 1) [c] := hv2
  repeat' (first|refine zw3 ?_|(refine ta_ ?_;intro _)|(refine zk0 ?_ ?_<;>intro ht)|fail)
  (refine yco (ycp Tryz.func116 rfl (by kernel_rfl) rfl) (Repeat_sp _ c hc h2 hv2) rfl rfl rfl ?_ ?_ ?_; (· (exact to_)); (·exact zc148); intro x px hle)
  obtain ⟨h3, v3⟩ := x
  dsimp only at px hle ⊢
  have hle3 : Le h2 h3 := hle
  clear hle
  repeat' (first|refine zw3 ?_|(refine ta_ ?_;intro _)|(refine zk0 ?_ ?_<;>intro ht)|fail)
  (refine yco (ycp Tryz.func105 rfl (by kernel_rfl) rfl) (Mix_sp _ v3 wide (List.replicate 64 c) h3 ((hv1.mono hle2).mono hle3) px hwb (fun x hx => by rw [(List.mem_replicate.1 hx).2]; exact hc) (by omega)) rfl rfl rfl ?_ ?_ ?_; (· (exact to_)); (·exact zc148); intro x px hle)
  repeat' (first|refine zw3 ?_|(refine ta_ ?_;intro _)|(refine zk0 ?_ ?_<;>intro ht)|fail)
  exact nx_ret1 rfl (rv_tmp rfl) (fun w' s' => ⟨x, rfl, s'.baseL, trivial⟩)
end Go.Proofs.YtgeepceieckooaaGreatDoor
end

section
namespace Go.Proofs.YtgeepceieckooaaGreatDoor
open Go Go.Ck
set_option maxHeartbeats 4000000
theorem cx_arr_view {P : Program} {n : Nat} {K : Bs} {F : List (Nat × Value)} {h : View} {L : List Res} {Q : Exit → Act → World → Prop} {c : Code} {b m : Nat} {e : TypeId} {l : List Int} (hA : K.A = []) (hl : l.length = m) (hx : ∀ h', Le h h' → Bs8 h' (.slice (some ⟨b, 0, none⟩) m m) l → CX P n K c F h' L Q) :
    CX P n K c F h (Res.blk b (.cells (bcs l).toArray e (0, 0)) :: L) Q := by
  subst hl
  refine cx_bpersist hA fun hn => hx _ (fun z o hz => ?_) ?_
  · unfold addV
    by_cases hzb : z = b
    · subst hzb; rw [hn] at hz; cases hz
    · rw [if_neg hzb]; exact hz
  · refine ⟨by rw [bcs_len, Nat.mul_one], _, _, rfl, Nat.le_refl _, .inr ⟨b, 0, (bcs l).toArray, e, (0, 0), rfl, (by unfold addV; rw [if_pos rfl]), fun j u hj => ?_⟩⟩
    rw [Nat.zero_add, List.getElem?_toArray]
    exact hj
def hmacF (key m : List Int) : List Int := shaF (hpadF key 92 ++ shaF (hpadF key 54 ++ m))
theorem shaF_len (b : List Int) : (shaF b).length = 32 := by
  unfold shaF
  have h := blocksF_len (padF b) ((padF b).length / 64)
  generalize blocksF (padF b) ((padF b).length / 64) = l at h
  have : ∀ l : List W32, (l.flatMap fun x => num4 x.toNat).length = l.length * 4 := by
    intro l
    induction l with
    | nil => rfl
    | cons x l ih => rw [List.flatMap_cons, List.length_append, num4_len, ih, List.length_cons]; omega
  rw [this, h]
theorem shaF_by (b : List Int) : Bytes (shaF b) := fun x hx => by
  unfold shaF at hx
  obtain ⟨y, _, hx⟩ := List.mem_flatMap.1 hx
  exact putLow_bytes' 4 _ x hx
theorem hmacF_len (key m : List Int) : (hmacF key m).length = 32 := shaF_len _
theorem hmacF_by (key m : List Int) : Bytes (hmacF key m) := shaF_by _
theorem hpadF_by (key : List Int) (c : Int) : Bytes (hpadF key c) := mixB_by _ _
theorem hmac_sp (v pv : Value) (key : List Int) (parts : List (Value × List Int)) (hk : Bytes key) (hl : 1 ≤ key.length ∧ key.length ≤ 64) (h : View) (hb : Bs8 h v key) (hs : Sc h 1 pv parts.length (parts.map (·.1))) (hp : ∀ p ∈ parts, Bs8 h p.1 p.2) (hby : ∀ p ∈ parts, Bytes p.2)
    (hlen : (flatB parts parts.length).length ≤ 800000) (hpl : parts.length ≤ 1000) (hg : ShG h) (w : World) (s : St ⟨w, h, []⟩ h [] w) :
    Calls Tryz.prog 87 [v, pv].toArray w fun e w' => e = .returned (.agg (bcs (hmacF key (flatB parts parts.length))).toArray) ∧ St ⟨w, h, []⟩ h [] w' := by
  obtain ⟨_, ad, cap, rfl, hcap, _⟩ := id hb
  obtain ⟨_, adp, capp, rfl, hcapp, _⟩ := id hs
  refine calls_enter Tryz.func87 rfl Tryz.ntmps87 rfl s ?_
  repeat' (first|refine tw_ ?_|(refine ta_ ?_;intro _)|(refine zk0 ?_ ?_<;>intro ht)|fail)
  (refine yco (ycp Tryz.func101 rfl (by kernel_rfl) rfl) (hpadded_sp _ key 54 (by omega) hk hl h hb) rfl rfl rfl ?_ ?_ ?_; (· (exact to_)); (·exact zc148); intro x px hle)
  have hl1 := hpadF_len (key := key) (c := 54) hl.2
  refine rx_persist rfl fun h1 hle1 hv1 => ?_
  have hv1 : Bs8 h1 x (hpadF key 54) := hv1
  obtain ⟨_, adx, capx, rfl, hcapx, _⟩ := id hv1
  clear px hle
  have hone : ∀ u ∈ parts.map (·.1), u.oneCell' = true := fun u hu => by
    obtain ⟨p, hp1, rfl⟩ := List.mem_map.1 hu
    obtain ⟨_, _, _, e, _, _⟩ := hp p hp1
    rw [e]; rfl
  repeat' (first|refine tw_ ?_|(refine ta_ ?_;intro _)|(refine zk0 ?_ ?_<;>intro ht)|fail)
  refine rx_rowOf 1 1 1 (Nat.le_refl _) (by unfold maxLen; omega) rfl ?_
  refine rx_append_sc (sz := 1) 0 rfl rfl rfl (hs.mono hle1) hone rfl (by omega) (by unfold maxLen; omega) (by omega) rfl rfl rfl ybf (fun _ => ybf) ?_
  intro v2 _
  refine rx_persist rfl fun h2 hle2 hv2 => ?_
  have hle12 := hle1.trans hle2
  have hsum := shaSum_sp v2 ((.slice adx (hpadF key 54).length capx, hpadF key 54) :: parts) h2 (by rw [List.length_cons, Nat.add_comm]; exact hv2) (fun p hp1 => by
    rcases List.mem_cons.1 hp1 with rfl | hp1
    · exact hv1.mono hle2
    · exact (hp p hp1).mono hle12) (fun p hp1 => by
    rcases List.mem_cons.1 hp1 with rfl | hp1
    · exact hpadF_by _ _
    · exact hby p hp1) (by
    have e : (flatB ((.slice adx (hpadF key 54).length capx, hpadF key 54) :: parts) (parts.length + 1)) = hpadF key 54 ++ flatB parts parts.length := by simp [flatB]
    rw [List.length_cons, e, List.length_append, hl1]; omega) (by rw [List.length_cons]; omega) (hg.mono hle12)
  have efl : flatB ((.slice adx (hpadF key 54).length capx, hpadF key 54) :: parts) ((.slice adx (hpadF key 54).length capx, hpadF key 54) :: parts).length = hpadF key 54 ++ flatB parts parts.length := by simp [flatB]
  rw [efl] at hsum
  (refine ycn (ycp Tryz.func100 rfl (by kernel_rfl) rfl) (hsum) rfl rfl rfl ?_ ?_; (· (exact to_)))
  unfold hmacF
  have hil := shaF_len (hpadF key 54 ++ flatB parts parts.length)
  have hib := shaF_by (hpadF key 54 ++ flatB parts parts.length)
  generalize shaF (hpadF key 54 ++ flatB parts parts.length) = inn at hil hib ⊢
  have hol : (bcs inn).length = 32 := by rw [bcs_len, hil]
  repeat' (first|refine zw157 ?_|(refine ta_ ?_;intro _)|(refine zk0 ?_ ?_<;>intro ht)|fail)
  rename_i bd
  refine cx_arr_view rfl hil fun h3 hle3 hd3 => ?_
  have hle13 := hle12.trans hle3
  refine cx_region_draw [] rfl (by kernel_rfl) ?_
  repeat' (first|refine zw158 ?_|(refine ycf ?_;(first|(refine zg0 ?_ ?_<;>intro ht)|(refine tb_ ?_ ?_ ?_;(·exact zc48);(·exact zc152);intro _)))|fail)
  (refine yco (ycp Tryz.func101 rfl (by kernel_rfl) rfl) (hpadded_sp _ key 92 (by omega) hk hl h3 (hb.mono hle13)) rfl rfl rfl ?_ ?_ ?_;(·(first|exact ybf | (refine .inl ?_;(exact fun _ s => Hd.sub s (Le.refl _) (fun r hr => nomatch hr))) | exact to_));(·intro _ _ hle;(first|exact ybf | (refine .inl ?_;(exact fun _ s => Hd.sub s (Le.refl _) (fun r hr => nomatch hr))) | exact to_));intro x px hle)
  refine rx_persist rfl fun h4 hle4 hv4 => ?_
  have hv4 : Bs8 h4 x (hpadF key 92) := hv4
  obtain ⟨_, ady, capy, rfl, hcapy, _⟩ := id hv4
  clear px hle
  repeat' (first|refine zw159 ?_|(refine ycf ?_;(first|(refine zg0 ?_ ?_<;>intro ht)|(refine tb_ ?_ ?_ ?_;(·exact zc64);(·intro _;(first|exact ybf|(refine .inl ?_;(exact fun _ s => Hd.sub s hle4 (fun r hr => nomatch hr)))|exact to_));intro _)))|fail)
  refine rx_rowOf 1 2 2 (Nat.le_refl _) (by unfold maxLen; omega) rfl ?_
  refine rx_persist rfl fun h5 hle5 hv5 => ?_
  have hle15 := (hle13.trans hle4).trans hle5
  have hle35 := hle4.trans hle5
  have hl2 := hpadF_len (key := key) (c := 92) hl.2
  have hsum2 := shaSum_sp _ [(.slice ady (hpadF key 92).length capy, hpadF key 92), (.slice (some ⟨bd, 0, none⟩) 32 32, inn)] h5 hv5 (fun p hp1 => by
    simp only [List.mem_cons, List.not_mem_nil, or_false] at hp1
    rcases hp1 with rfl | rfl
    · exact hv4.mono hle5
    · exact hd3.mono hle35) (fun p hp1 => by
    simp only [List.mem_cons, List.not_mem_nil, or_false] at hp1
    rcases hp1 with rfl | rfl
    · exact hpadF_by _ _
    · exact hib) (by
    have e : flatB [(.slice ady (hpadF key 92).length capy, hpadF key 92), (.slice (some ⟨bd, 0, none⟩) 32 32, inn)] 2 = hpadF key 92 ++ inn := by simp [flatB]
    show (flatB _ 2).length ≤ _
    rw [e, List.length_append, hl2, hil]; omega) (by simp) (hg.mono hle15)
  have efl2 : flatB [(.slice ady (hpadF key 92).length capy, hpadF key 92), (.slice (some ⟨bd, 0, none⟩) 32 32, inn)] 2 = hpadF key 92 ++ inn := by simp [flatB]
  change ∀ w, _ → Calls _ _ _ w (fun e w' => e = .returned (.agg (bcs (shaF (flatB [(.slice ady (hpadF key 92).length capy, hpadF key 92), (.slice (some ⟨bd, 0, none⟩) 32 32, inn)] 2))).toArray) ∧ _) at hsum2
  rw [efl2] at hsum2
  (refine ycn (ycp Tryz.func100 rfl (by kernel_rfl) rfl) (hsum2) rfl rfl rfl ?_ ?_;(·(first|exact ybf | (refine .inl ?_;(exact fun _ s => Hd.sub s hle35 (fun r hr => nomatch hr))) | exact to_)))
  have hol2 := shaF_len (hpadF key 92 ++ inn)
  generalize shaF (hpadF key 92 ++ inn) = out at hol2 ⊢
  have hol2 : (bcs out).length = 32 := by rw [bcs_len, hol2]
  repeat' (first|refine zw160 ?_|(refine ycf ?_;(first|(refine zg0 ?_ ?_<;>intro ht)|(refine tb_ ?_ ?_ ?_;(·exact zc65);(·intro _;(first|exact ybf|(refine .inl ?_;(exact fun _ s => Hd.sub s hle35 (fun r hr => nomatch hr)))|exact to_));intro _)))|fail)
  repeat' (first|refine zw161 ?_|(refine ta_ ?_;intro _)|(refine zk0 ?_ ?_<;>intro ht)|fail)
  exact nx_ret1 rfl (rv_cells rfl (yaz 0 rfl) (by show (bcs out).toArray.toList.length = 32; simpa using hol2)) (fun w' s' => ⟨rfl, s'.nil.base⟩)
end Go.Proofs.YtgeepceieckooaaGreatDoor
end

section
namespace Go.Proofs.YtgeepceieckooaaGreatDoor
open Go Go.Ck
set_option maxHeartbeats 4000000
def expandF (key use : List Int) : List Int := hmacF key (use ++ [1])
theorem expandF_len (key use : List Int) : (expandF key use).length = 32 := hmacF_len _ _
theorem expandF_by (key use : List Int) : Bytes (expandF key use) := hmacF_by _ _
theorem sc_capm {h : View} {m cap : Nat} {ad : Option Addr} {xs : List Value} (s : Sc h 1 (.slice ad m cap) m xs) : Sc h 1 (.slice ad m m) m xs := by
  obtain ⟨h1, ad', cap', h2, h3, h4⟩ := s
  cases h2
  exact ⟨h1, ad, m, rfl, Nat.le_refl _, h4⟩
theorem expand_sp (v uv : Value) (key use : List Int) (hk : Bytes key) (hl : 1 ≤ key.length ∧ key.length ≤ 64) (hu : Bytes use) (hul : use.length ≤ 1000) (h : View) (hb : Bs8 h v key) (hs : Bs8 h uv use) (hg : ShG h) (w : World) (s : St ⟨w, h, []⟩ h [] w) :
    Calls Tryz.prog 86 [v, uv, .int .i64 32].toArray w fun e w' => ∃ y : View × Value, e = .returned (.tuple #[y.2, .int .i64 0]) ∧ St ⟨w, h, []⟩ y.1 [] w' ∧ Bs8 y.1 y.2 (expandF key use) := by
  obtain ⟨_, ad, cap, rfl, hcap, _⟩ := id hb
  obtain ⟨_, adu, capu, rfl, hcapu, _⟩ := id hs
  refine calls_enter Tryz.func86 rfl Tryz.ntmps86 rfl s ?_
  repeat' (first|refine zw3 ?_|(refine ta_ ?_;intro _)|(refine zk0 ?_ ?_<;>intro ht)|fail)
  refine cx_row 5 1 ?_
  refine cx_loop (X := Nat × View × Value × Value) (fun y => [(0, .slice ad key.length cap), (1, .slice adu use.length capu), (2, .int .i64 32), (8, y.2.2.1), (9, y.2.2.2), (10, .int .i64 ((y.1 : Nat) + 1))]) (fun y => y.2.1) (fun y => [rowB y.2.2.1 (if y.1 = 0 then [] else expandF key use)])
    (fun y => y.1 ≤ 1 ∧ Le h y.2.1 ∧ (y.1 = 0 → y.2.2.1 = .slice none 0 0 ∧ y.2.2.2 = .slice none 0 0)) (fun y => 1 - y.1) (0, h, .slice none 0 0, .slice none 0 0) ⟨by omega, Le.refl h, fun _ => ⟨rfl, rfl⟩⟩ ts_ (fun _ s => s) ?_
  rintro ⟨k, h1, vo, vl⟩ ⟨hk1, hle1, hk0⟩
  dsimp only at hk1 hle1 hk0 ⊢
  by_cases hkz : k = 0
  · subst hkz
    obtain ⟨rfl, rfl⟩ := hk0 rfl
    have hb1 := hb.mono hle1
    have hs1 := hs.mono hle1
    repeat' (first|refine zw162 ?_|(refine ta_ ?_;intro _)|(refine zk0 ?_ ?_<;>intro ht)|fail)
    rename_i b1 b3
    refine rx_rowOf 1 3 3 (Nat.le_refl _) (by unfold maxLen; omega) rfl ?_
    refine rx_persist rfl fun h2 hle2 hv3 => ?_
    refine rx_rowOf 1 1 1 (Nat.le_refl _) (by unfold maxLen; omega) rfl ?_
    refine rx_persist rfl fun h3 hle3 hv1 => ?_
    have hv1 : Bs8 h3 (.slice (some ⟨b1, 0, none⟩) 1 1) [1] := hv1
    have hle13 := hle2.trans hle3
    have efl : flatB [(.slice none 0 0, []), (.slice adu use.length capu, use), (.slice (some ⟨b1, 0, none⟩) 1 1, [1])] 3 = use ++ [1] := by simp [flatB]
    have hsum : ∀ w, St ⟨w, h3, []⟩ h3 [] w → Calls Tryz.prog 87 [.slice ad key.length cap, .slice (some ⟨b3, 0, none⟩) 3 3].toArray w fun e w' => e = .returned (.agg (bcs (hmacF key (flatB [(.slice none 0 0, []), (.slice adu use.length capu, use), (.slice (some ⟨b1, 0, none⟩) 1 1, [1])] 3))).toArray) ∧ St ⟨w, h3, []⟩ h3 [] w' :=
      hmac_sp _ _ key [(.slice none 0 0, []), (.slice adu use.length capu, use), (.slice (some ⟨b1, 0, none⟩) 1 1, [1])] hk hl h3 (hb1.mono hle13) (hv3.mono hle3) (fun p hp1 => by
        simp only [List.mem_cons, List.not_mem_nil, or_false] at hp1
        rcases hp1 with rfl | rfl | rfl
        · exact Sc.nil _ _ _ _
        · exact hs1.mono hle13
        · exact hv1) (fun p hp1 => by
        simp only [List.mem_cons, List.not_mem_nil, or_false] at hp1
        rcases hp1 with rfl | rfl | rfl
        · intro x hx; cases hx
        · exact hu
        · intro x hx; rw [List.mem_singleton.1 hx]; omega) (by show (flatB _ 3).length ≤ _; rw [efl, List.length_append]; show use.length + 1 ≤ _; omega) (by simp) ((hg.mono hle1).mono hle13)
    rw [efl] at hsum
    (refine ycn (ycp Tryz.func87 rfl (by kernel_rfl) rfl) (hsum) rfl rfl rfl ?_ ?_; (· (exact to_)))
    have hol : (bcs (expandF key use)).length = 32 := by rw [bcs_len, expandF_len]
    have hoe : hmacF key (use ++ [1]) = expandF key use := rfl
    rw [hoe]
    generalize hou : expandF key use = out at hol ⊢
    repeat' (first|refine zw163 ?_|(refine ta_ ?_;intro _)|(refine zk0 ?_ ?_<;>intro ht)|fail)
    rw [if_pos rfl]
    have hol2 : out.length = 32 := by rw [← bcs_len]; exact hol
    refine rx_append (sz := 1) 1 rfl rfl rfl (yaz 0 rfl) (by show (bcs out).length = 32 * 1; exact hol) (bcs_one out) rfl (by omega) (by unfold maxLen; simp) (by simp) rfl rfl rfl ybf (fun _ => ybf) ?_
    intro v' _
    repeat' (first|refine zw3 ?_|(refine ta_ ?_;intro _)|(refine zk0 ?_ ?_<;>intro ht)|fail)
    refine nx_round (1, h3, v', _) ⟨Nat.le_refl 1, hle1.trans hle13, fun q => absurd q (Nat.succ_ne_zero 0)⟩ (by show 1 - 1 < 1 - 0; omega) ts_ (fun _ s => ?_)
    dsimp only
    rw [if_neg (by decide)]
    unfold rowB
    rw [hol2]
    exact s.picks [1]
  · have ek : k = 1 := by omega
    subst ek
    have hol2 := expandF_len key use
    rw [if_neg hkz]
    generalize expandF key use = out at hol2 ⊢
    refine cx_rowform 0 rfl (fun _ h1 _ => by omega) ?_
    rintro g cap2 rfl
    have hge : (out.length : Int) = 32 := by omega
    repeat' (first|refine zw164 ?_|(refine ta_ ?_;intro _)|(refine zk0 ?_ ?_<;>intro ht)|fail)
    refine rx_persist rfl fun h2 hle2 hv => ?_
    obtain ⟨_, _, _, e, hc2, _⟩ := id hv
    cases e
    have hv2 := sc_capm hv
    repeat' (first|refine zw165 ?_|(refine ta_ ?_;intro _)|(refine zk0 ?_ ?_<;>intro ht)|fail)
    refine nx_ret2 rfl (rv_tmp rfl) (rv_tmp rfl) (fun w' s' => ⟨(h2, .slice (some ⟨g, 0, none⟩) 32 32), rfl, s', ?_⟩)
    unfold Bs8
    rw [hol2] at hv2 ⊢
    exact hv2
end Go.Proofs.YtgeepceieckooaaGreatDoor
end
