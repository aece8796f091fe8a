/-
  Part 20 of a proof: HsC HsD.
  Conditions: each theorem states its own.
-/
import Derived.Test.YtkkjppeaaicgaaaHsEPM19
section
namespace Go.Proofs.Ytkkjppeaaicgaaa
open Go Go.Ck
set_option maxRecDepth 100000
set_option maxHeartbeats 4000000
set_option linter.unusedVariables false

/-- a turn -/
structure Tn where
  tk : Bool
  at_ : Int
  of_ : Int
  cl : Int
  bl : Bool
def tnc (t : Tn) : List Value := [.bool t.tk, .int .i64 t.at_, .int .i64 t.of_, .int .i64 t.cl, .bool t.bl]
theorem tnc_len (t : Tn) : (tnc t).length = 5 := rfl
/-- the places -/
abbrev Zs := List (Value × List Sb)
def zc (z : Zs) : List Value := z.map (·.1)
def za (z : Zs) : List (List Ab) := z.map fun q => q.2.map Sb.a
def ZOk (h : View) (z : Zs) : Prop := ∀ q ∈ z, Rs h q.1 q.2
theorem ZOk.mono {h h' : View} {z : Zs} (s : ZOk h z) (hl : Le h h') : ZOk h' z := fun q hq => (s q hq).mono hl
theorem ZOk.set {h : View} {z : Zs} {k : Nat} {q : Value × List Sb} (s : ZOk h z) (hq : Rs h q.1 q.2) : ZOk h (z.set k q) := fun p hp => by
  rcases List.mem_or_eq_of_mem_set hp with hp | rfl
  · exact s p hp
  · exact hq
theorem zc_cell {h : View} {L : List Res} {b o k : Nat} {z : Zs} {q : Value × List Sb} (c : Cells h L ⟨b, 0, none⟩ (zc z)) (hq : z[k]? = some q) (ho : o = 0 + k) : CellAt h L b o q.1 := by
  subst ho
  exact c.cell (by simp [zc, hq])
theorem zc_fit {z : Zs} {k o : Nat} {ad : Option Addr} {m c : Nat} (ho : o = k) (hk : k < z.length) : o + (Value.slice ad m c).cells.size ≤ (zc z).toArray.size := by
  show o + 1 ≤ _
  simp [zc]; omega
theorem zc_spl {z : Zs} {k o : Nat} {ad : Option Addr} {m c : Nat} {X : List Sb} (ho : o = k) (hk : k < z.length) : spl (zc z).toArray.toList o (Value.slice ad m c).cells.toList = zc (z.set k (.slice ad m c, X)) := by
  subst ho
  show (zc z).take o ++ [Value.slice ad m c] ++ (zc z).drop (o + 1) = zc (z.set o (.slice ad m c, X))
  unfold zc
  rw [List.map_set, List.set_eq_take_append_cons_drop, if_pos (by simpa using hk)]
  simp
theorem zc_sz {z : Zs} (h : z.length = 4) : (Value.agg (zc z).toArray).cells.size = 4 := by
  show (zc z).toArray.size = 4
  simp [zc, h]
theorem zc_fit4 {z : Zs} (h : z.length = 4) : 0 + (Value.agg (zc z).toArray).cells.size ≤ 4 := by rw [zc_sz h]; omega
theorem zc_all {z : Zs} (h : z.length = 4) : (Value.agg (zc z).toArray).cells.toList.length = 4 := by
  show (zc z).toArray.toList.length = 4
  simp [zc, h]
theorem zc_one {h : View} {z : Zs} (hz : ZOk h z) : (Value.agg (zc z).toArray).cells.toList.all Value.oneCell' = true := by
  show (zc z).toArray.toList.all Value.oneCell' = true
  rw [List.toList_toArray, List.all_eq_true]
  intro v hv
  obtain ⟨q, hq, rfl⟩ := List.mem_map.1 hv
  obtain ⟨_, ad, cap, e, _⟩ := (hz q hq).1
  rw [e]
  rfl
theorem za_at {z : Zs} {k : Nat} {q : Value × List Sb} (hq : z[k]? = some q) : (za z)[k]? = some (q.2.map Sb.a) := by simp [za, hq]
theorem za_set {z : Zs} {k : Nat} {v : Value} {X : List Sb} : za (z.set k (v, X)) = (za z).set k (X.map Sb.a) := by simp [za, List.map_set]
theorem fits_ck {l : List Sb} (h : checkA (l.map Sb.a) = 0) : Fits l := by
  obtain ⟨c1, c2, _, _⟩ := checkA_ok h
  refine ⟨by rw [List.length_map] at c1; omega, fun x hx => ?_⟩
  obtain ⟨_, h2, _, h4⟩ := rightA_ok (c2 x.a (List.mem_map_of_mem hx))
  have h5 : x.l.length ≤ 32 := (check_right h2).2.1
  exact ⟨by omega, by have : x.b.length ≤ 16384 := h4; omega⟩
theorem spl_past {x : Sb} {u : List Int} {mv : Value} {l : List Dt} (hu : u.length = 16) : spl (sbc x) (0 + 2) (cxc u mv) = sbc ⟨x.d, u, hu, l, mv, x.b, x.bv⟩ := by
  obtain ⟨d, xu, hxu, xl, xmv, b, bv⟩ := x
  obtain ⟨a0, a1, a2, a3, a4, a5, a6, a7, a8, a9, a10, a11, a12, a13, a14, a15, rfl⟩ := list16 u hu
  obtain ⟨c0, c1, c2, c3, c4, c5, c6, c7, c8, c9, c10, c11, c12, c13, c14, c15, rfl⟩ := list16 xu hxu
  rfl
theorem past_ok {x : Sb} {u : List Int} {mv : Value} (hu : u.length = 16) : 0 + 2 + (Value.agg (cxc u mv).toArray).cells.size ≤ (sbc x).toArray.size := by
  have := sbc_len x
  rw [cxc_sz hu]
  simp
  omega
theorem fill2s {d : Dt} {b : List Int} : fillL (fun i : Nat => ([(0, 2), (2, 17), (19, 1)] : List (Nat × Nat))[i]?) ([.int .i64 0, .int .i64 0] ++ (up zeroU ++ [.slice none 0 0, .string ⟨#[]⟩])) [(0, .agg (dcs d).toArray), (2, .string (bstr b))] = some (dcs d ++ (cxc zeroU (.slice none 0 0) ++ [.string (bstr b)])) := by
  unfold fillL fillL fillL
  rfl
theorem wrap_small {i : Nat} (h : i < 24) : IntKind.u8.wrap (i : Int) = (i : Int) := by
  simp only [IntKind.wrap, IntKind.bits, IntKind.signed]
  simp
  omega

theorem tm5_ {p : Prop} (h : p := by (first | exact List.mem_of_getElem? (i := 0) rfl | exact List.mem_of_getElem? (i := 1) rfl | exact List.mem_of_getElem? (i := 2) rfl | exact List.mem_of_getElem? (i := 3) rfl | exact List.mem_of_getElem? (i := 4) rfl | exact List.mem_of_getElem? (i := 5) rfl)) : p := h
theorem history_sp (v : Value) (l : List Tn) (h : View) (hs : Sc h 5 v l.length (l.flatMap tnc)) (hl : l.length ≤ 9223372036854775807) (w : World) (s : St ⟨w, h, []⟩ h [] w) :
    Calls Try.prog 29 [v].toArray w fun e w' => ∃ z : View × (Value × List Sb) × Zs, e = .returned (.tuple #[z.2.1.1, .agg (zc z.2.2).toArray]) ∧ St ⟨w, h, []⟩ z.1 [] w' ∧ Rs z.1 z.2.1.1 z.2.1.2 ∧ ZOk z.1 z.2.2 ∧ z.2.1.2.length ≤ 24 ∧ Hist (z.2.1.2.map Sb.a) ∧ Places (z.2.1.2.map Sb.a) (za z.2.2) := by
  obtain ⟨_, ad, cap, rfl, hcap, _⟩ := id hs
  refine calls_enter Try.func29 rfl Try.ntmps29 rfl s ?_
  repeat' (first | refine tw_ ?_ | (refine ta_ ?_; intro _) | ((fail_if_success (refine ybi rfl ?_)); refine ybj rfl ?_ ?_ <;> (intro ht; rw [ht]; first | replace ht := of_decide_eq_true ht | replace ht := of_decide_eq_false ht | skip)) | (refine ych ?_; first | (refine ybw rfl ?_ ?_ <;> intro ht) | (refine ybx rfl ?_ ?_ <;> intro ht)))
  rename_i b3 b5 b6
  refine cx_row 71 20 ?_
  refine cx_loop (X := Nat × View × (Value × List Sb) × Zs × List Int) (fun y => [(0, .slice ad l.length cap), (3, .pointer (some ⟨b3, 0, none⟩)), (4, y.2.2.1.1), (5, .pointer (some ⟨b5, 0, none⟩)), (6, .pointer (some ⟨b6, 0, none⟩)), (7, .int .i64 (y.1 : Nat))]) (fun y => y.2.1)
    (fun y => [rowR y.2.2.1.1 y.2.2.1.2, Res.blk b6 (.cells (up y.2.2.2.2).toArray 97 (0, 0)), Res.blk b5 (.cells (zc y.2.2.2.1).toArray 65 (0, 0)), Res.blk b3 (.cells (zc [(.slice none 0 0, []), (.slice none 0 0, []), (.slice none 0 0, []), (.slice none 0 0, [])]).toArray 65 (0, 0))])
    (fun y => y.1 ≤ l.length ∧ y.1 ≤ 24 ∧ Le h y.2.1 ∧ y.2.2.1.2.length ≤ y.1 ∧ (∀ x ∈ y.2.2.1.2, Rv y.2.1 x) ∧ ZOk y.2.1 y.2.2.2.1 ∧ Hist (y.2.2.1.2.map Sb.a) ∧ Places (y.2.2.1.2.map Sb.a) (za y.2.2.2.1) ∧ Nums (y.2.2.1.2.map Sb.a) y.2.2.2.2 y.1) (fun y => 24 - y.1)
    (0, h, (.slice none 0 0, []), [(.slice none 0 0, []), (.slice none 0 0, []), (.slice none 0 0, []), (.slice none 0 0, [])], [0, 0, 0, 0, 0])
    ⟨Nat.zero_le _, Nat.zero_le _, Le.refl _, Nat.le_refl _, fun x hx => (by cases hx), fun q hq => (by
      have : q = (.slice none 0 0, []) := by simpa using hq
      rw [this]
      exact ⟨Sc.nil h 20 none 0, fun x hx => by cases hx⟩), Hist.nil, Places.nil, Nums.nil⟩ ts_ (fun _ s => s) ?_
  rintro ⟨i, hk, ⟨vo, A⟩, zs, nx⟩ ⟨p1, p2, p3, p4, p5, p6, p7, p8, p9⟩
  dsimp only at p1 p2 p3 p4 p5 p6 p7 p8 p9 ⊢
  have hz4 : zs.length = 4 := by have := p8.len; simpa [za] using this
  have hn5 := p9.len
  by_cases hil : i < l.length ∧ i < 24
  · obtain ⟨hil, hi24⟩ := hil
    obtain ⟨bs, o, rfl⟩ := hs.ad (by omega) (by omega)
    have hs3 := hs.mono p3
    have hel : ∀ L, Cells hk L ⟨bs, o + i * 5, none⟩ (tnc l[i]) := fun L => hs3.elem tnc_len i hil
    generalize l[i] = t at hel
    obtain ⟨tk, tat, tof, tcl, tbl⟩ := t
    obtain ⟨K, hK1, hK2⟩ := wrap_mod tat 4 (by omega) (by omega)
    have hK : IntKind.i64.wrap ((IntKind.u64.wrap tat).tmod 4) = (K : Int) := hK1
    obtain ⟨O, hO1, hO2⟩ := wrap_mod tof 4 (by omega) (by omega)
    have hO : IntKind.i64.wrap ((IntKind.u64.wrap tof).tmod 4) = (O : Int) := hO1
    obtain ⟨C, hC1, hC2⟩ := wrap_mod tcl 4 (by omega) (by omega)
    have hC : IntKind.i64.wrap ((IntKind.u64.wrap tcl).tmod 4) = (C : Int) := hC1
    repeat' (first|(refine ycf ?_;apply ybk;(·first|(first|exact tk_|(apply yad;(·rfl);(·exact hel _);(·rfl))|(refine qv_convert_int' rfl hK)|(refine qv_convert_int' rfl hO)|(refine qv_convert_int' rfl hC)|(apply qv_convert_int;rfl)|(apply qv_rem;(·rfl);(·rfl);(·omega)))|(apply yae;(·rfl);(·(first|exact (yaz 0 rfl).cell (j := 0) rfl|exact (yaz 0 rfl).cell (j := 1) rfl|exact (yaz 0 rfl).cell (j := 2) rfl|exact (yaz 0 rfl).cell (j := 3) rfl|exact (yaz 0 rfl).cell (j := 4) rfl))));(·rfl);(·rfl))|refine t1_ ?_|(refine ta_ ?_;intro _)|((fail_if_success (refine ybi rfl ?_));refine ybj rfl ?_ ?_<;>(intro ht;rw [ht];first|replace ht := of_decide_eq_true ht|replace ht := of_decide_eq_false ht|skip))|(refine ych ?_;first|(refine ybw rfl ?_ ?_<;>intro ht)|(refine ybx rfl ?_ ?_<;>intro ht)))
    rename_i b8
    refine cx_region_draw' rfl (by kernel_rfl) ?_
    repeat' (refine ycf ?_;(first|(first|(apply ybm;(·(first|(first|exact tk_|(apply yad;(·rfl);(·exact hel _);(·rfl))|(refine qv_convert_int' rfl hK)|(refine qv_convert_int' rfl hO)|(refine qv_convert_int' rfl hC)|(apply qv_convert_int;rfl)|(apply qv_rem;(·rfl);(·rfl);(·omega)))|(apply yae;(·rfl);(·(first|exact (yaz 0 rfl).cell (j := 0) rfl|exact (yaz 0 rfl).cell (j := 1) rfl|exact (yaz 0 rfl).cell (j := 2) rfl|exact (yaz 0 rfl).cell (j := 3) rfl|exact (yaz 0 rfl).cell (j := 4) rfl)))|exact tq_));(·rfl);(·rfl);(·(exact th_)))|refine ybl rfl rfl ?_|((fail_if_success (refine ybi rfl ?_));refine ybj rfl ?_ ?_<;>(intro ht;rw [ht];first|replace ht := of_decide_eq_true ht|replace ht := of_decide_eq_false ht|skip))|(refine tb_ ?_ ?_ ?_;(·(exact to_));(·intro _;(exact to_));intro _)|(first|(refine tqs_ ?_ ?_ ?_;(·(exact to_));(·(exact to_))))|(apply ybn;(·(first|(first|exact tk_|(apply yad;(·rfl);(·exact hel _);(·rfl))|(refine qv_convert_int' rfl hK)|(refine qv_convert_int' rfl hO)|(refine qv_convert_int' rfl hC)|(apply qv_convert_int;rfl)|(apply qv_rem;(·rfl);(·rfl);(·omega)))|(apply yae;(·rfl);(·(first|exact (yaz 0 rfl).cell (j := 0) rfl|exact (yaz 0 rfl).cell (j := 1) rfl|exact (yaz 0 rfl).cell (j := 2) rfl|exact (yaz 0 rfl).cell (j := 3) rfl|exact (yaz 0 rfl).cell (j := 4) rfl)))|exact tq_));(·rfl);(·rfl);(·rfl);(·(exact to_))))|refine ycg ?_))
    cases tk with
    | true =>
      obtain ⟨q, hq⟩ : ∃ q, zs[K]? = some q := ⟨_, List.getElem?_eq_getElem (by omega)⟩
      obtain ⟨r, hr⟩ : ∃ r, zs[O]? = some r := ⟨_, List.getElem?_eq_getElem (by omega)⟩
      have fq := fits_ck (p8.set p7 (za_at hq))
      have fr := fits_ck (p8.set p7 (za_at hr))
      have TK := p8.take p7 (za_at hq) (za_at hr)
      have MR := rmerge_sp q.1 r.1 q.2 r.2 hk (p6 q (List.mem_of_getElem? hq)) (p6 r (List.mem_of_getElem? hr)) fq fr
      obtain ⟨er, her⟩ : ∃ er, er = (mergeF (q.2.map Sb.a) (r.2.map Sb.a)).2 := ⟨_, rfl⟩
      rw [← her] at MR TK
      obtain ⟨he0, TK⟩ := TK
      subst he0
      repeat' (first|(refine ycf ?_;apply ybk;(·first|(first|exact tk_|(apply yad;(·rfl);(·exact hel _);(·rfl))|(refine qv_convert_int' rfl hK)|(refine qv_convert_int' rfl hO)|(refine qv_convert_int' rfl hC)|(apply qv_convert_int;rfl)|(apply qv_rem;(·rfl);(·rfl);(·omega)))|(apply yae;(·rfl);(·(first|exact (yaz 0 rfl).cell (j := 0) rfl|exact (yaz 0 rfl).cell (j := 1) rfl|exact (yaz 0 rfl).cell (j := 2) rfl|exact (yaz 0 rfl).cell (j := 3) rfl|exact (yaz 0 rfl).cell (j := 4) rfl))));(·rfl);(·rfl))|refine t1_ ?_|(refine ta_ ?_;intro _)|((fail_if_success (refine ybi rfl ?_));refine ybj rfl ?_ ?_<;>(intro ht;rw [ht];first|replace ht := of_decide_eq_true ht|replace ht := of_decide_eq_false ht|skip))|(refine ych ?_;first|(refine ybw rfl ?_ ?_<;>intro ht)|(refine ybx rfl ?_ ?_<;>intro ht)))
      refine cx_region_draw' rfl (by kernel_rfl) ?_
      repeat' (refine ycf ?_;(first|(first|(apply ybm;(·(first|(exact tk_)|(apply yae;(·rfl);(·(first|exact zc_cell (yaz 3 rfl) hq (by omega)|exact zc_cell (yaz 3 rfl) hr (by omega))))|exact tq_));(·rfl);(·rfl);(·(exact th_)))|refine ybl rfl rfl ?_|((fail_if_success (refine ybi rfl ?_));refine ybj rfl ?_ ?_<;>(intro ht;rw [ht];first|replace ht := of_decide_eq_true ht|replace ht := of_decide_eq_false ht|skip))|(refine tb_ ?_ ?_ ?_;(·(exact to_));(·intro _;(exact to_));intro _)|(first|(refine tqs_ ?_ ?_ ?_;(·(exact to_));(·(exact to_))))|(apply ybn;(·(first|(exact tk_)|(apply yae;(·rfl);(·(first|exact zc_cell (yaz 3 rfl) hq (by omega)|exact zc_cell (yaz 3 rfl) hr (by omega))))|exact tq_));(·rfl);(·rfl);(·rfl);(·(exact to_))))|refine ycg ?_))
      (refine yco (ycp Try.func27 rfl (by kernel_rfl) rfl) (MR) rfl rfl rfl ?_ ?_ ?_; (· (exact to_)); (· intro _ _ hle; (exact to_)); intro x px hle)
      obtain ⟨h3, v3, M⟩ := x
      obtain ⟨S3, E3⟩ := px
      dsimp only at S3 E3
      have hle3 : Le hk h3 := hle
      clear hle
      obtain ⟨_, adM, capM, hvM, _, _⟩ := id S3.1
      subst hvM
      repeat' (refine ycf ?_;(first|(first|(apply ybm;(·(first|(exact tk_)|(apply yae;(·rfl);(·(first|exact zc_cell (yaz 3 rfl) hq (by omega)|exact zc_cell (yaz 3 rfl) hr (by omega))))|exact tq_));(·rfl);(·rfl);(·(exact fun _ s => Hd.sub s hle3 (fun r hr => hr))))|refine ybl rfl rfl ?_|((fail_if_success (refine ybi rfl ?_));refine ybj rfl ?_ ?_<;>(intro ht;rw [ht];first|replace ht := of_decide_eq_true ht|replace ht := of_decide_eq_false ht|skip))|(refine tb_ ?_ ?_ ?_;(·(first|exact ybf|(refine .inl ?_;(exact fun _ s => Hd.sub s hle3 (fun r hr => hr)))|exact to_));(·intro _;(first|exact ybf|(refine .inl ?_;(exact fun _ s => Hd.sub s hle3 (fun r hr => hr)))|exact to_));intro _)|(first|(refine tqs_ ?_ ?_ ?_;(·(first|exact ybf|(refine .inl ?_;(exact fun _ s => Hd.sub s hle3 (fun r hr => hr)))|exact to_));(·(first|exact ybf|(refine .inl ?_;(exact fun _ s => Hd.sub s hle3 (fun r hr => hr)))|exact to_))))|(apply ybn;(·(first|(exact tk_)|(apply yae;(·rfl);(·(first|exact zc_cell (yaz 3 rfl) hq (by omega)|exact zc_cell (yaz 3 rfl) hr (by omega))))|exact tq_));(·rfl);(·rfl);(·rfl);(·(first|exact ybf|(refine .inl ?_;(exact fun _ s => Hd.sub s hle3 (fun r hr => hr)))|exact to_))))|refine ycg ?_))
      repeat' (first | (refine ycf ?_; apply ybk; (· first | (exact tk_)); (· rfl); (· rfl)) | (refine ybg 3 rfl rfl rfl rfl (zc_fit (k := K) (by omega) (by omega)) rfl (zc_spl (X := M) (k := K) (by omega) (by omega)) rfl rfl ?_ ?_ ?_; (· (exact to_)); (· (exact to_))) | refine t1_ ?_ | (refine ta_ ?_; intro _) | ((fail_if_success (refine ybi rfl ?_)); refine ybj rfl ?_ ?_ <;> (intro ht; rw [ht]; first | replace ht := of_decide_eq_true ht | replace ht := of_decide_eq_false ht | skip)) | (refine ych ?_; first | (refine ybw rfl ?_ ?_ <;> intro ht) | (refine ybx rfl ?_ ?_ <;> intro ht)))
      refine nx_round (i + 1, h3, (vo, A), zs.set K (.slice adM M.length capM, M), nx) ⟨by show i + 1 ≤ _; omega, by show i + 1 ≤ 24; omega, p3.trans hle3, by show A.length ≤ i + 1; omega, fun x hx => (p5 x hx).mono hle3, (p6.mono hle3).set S3, p7, ?_, p9.up⟩ (by show 24 - (i + 1) < 24 - i; omega) ts_ (fun _ s => s.tl)
      dsimp only
      rw [za_set, E3]
      exact TK
    | false =>
      obtain ⟨N, hN⟩ : ∃ N, N = nx.getD (1 + C) 0 := ⟨_, rfl⟩
      have hNb := p9.bd (1 + C) (by omega)
      rw [← hN] at hNb
      have BP := p9.bump (c := 1 + C) (by omega) (by omega)
      rw [← hN] at BP
      repeat' (first|(refine ycf ?_;apply ybk;(·first|(first|exact tk_|(refine qv_convert_int' rfl hC)|(apply qv_convert_int;rfl)|(apply qv_rem;(·rfl);(·rfl);(·omega)))|(apply yae;(·rfl);(·(first|exact (yaz 0 rfl).cell (j := 0) rfl|exact (yaz 0 rfl).cell (j := 3) rfl|exact cell_upx (yaz 2 rfl) (1 + C) (by omega) (by omega)))));(·rfl);(·rfl))|(refine ybg 2 rfl rfl rfl rfl (fit_up (i := 1 + C) (by omega) (by omega)) rfl (spl_up (i := 1 + C) (by omega) (by omega)) rfl rfl ?_ ?_ ?_;(·(exact to_));(·(exact to_)))|refine t1_ ?_|(refine ta_ ?_;intro _)|((fail_if_success (refine ybi rfl ?_));refine ybj rfl ?_ ?_<;>(intro ht;rw [ht];first|replace ht := of_decide_eq_true ht|replace ht := of_decide_eq_false ht|skip))|(refine ych ?_;first|(refine ybw rfl ?_ ?_<;>intro ht)|(refine ybx rfl ?_ ?_<;>intro ht)))
      rw [← hN]
      obtain ⟨nx', hnx⟩ : ∃ q, q = nx.set (1 + C) (N + 1) := ⟨_, rfl⟩
      rw [← hnx] at BP ⊢
      have hN' : nx'.getD (1 + C) 0 = N + 1 := by rw [hnx, nx_set (by omega), if_pos rfl]
      have hn5' : nx'.length = 5 := by rw [hnx, List.length_set]; exact hn5
      have hby : Bytes [(i : Int)] := fun b hb => by rw [List.mem_singleton.1 hb]; omega
      obtain ⟨y, hy⟩ : ∃ y : Sb, y = ⟨(1 + (C : Int), N + 1), zeroU, rfl, [], .slice none 0 0, [(i : Int)], .string (bstr [(i : Int)])⟩ := ⟨_, rfl⟩
      have hfy : fillL (fun i : Nat => ([(0, 2), (2, 17), (19, 1)] : List (Nat × Nat))[i]?) ([.int .i64 0, .int .i64 0] ++ (up zeroU ++ [.slice none 0 0, .string ⟨#[]⟩])) [(0, .agg (dcs (1 + (C : Int), N + 1)).toArray), (2, .string (bstr [(i : Int)]))] = some (sbc y) := by rw [hy]; exact fill2s
      have hyv : Rv hk y := by rw [hy]; exact ⟨Sc.nil hk 2 none 0, rfl, hby⟩
      have ey : y.a = ((((1 + C : Nat) : Int), N + 1), zeroU, [], [(i : Int)]) := by rw [hy]; show ((1 + (C : Int), N + 1), _) = _; rw [show (1 : Int) + (C : Int) = ((1 + C : Nat) : Int) by omega]
      have hyl := sbc_len y
      have hyo := hyv.one
      have hws := wrap_small hi24
      refine cx_cut (X := Nat) (fun b14 => [(0, .slice (some ⟨bs, o, none⟩) l.length cap), (3, .pointer (some ⟨b3, 0, none⟩)), (4, vo), (5, .pointer (some ⟨b5, 0, none⟩)), (6, .pointer (some ⟨b6, 0, none⟩)), (7, .int .i64 (i : Nat)), (8, .pointer (some ⟨b8, 0, none⟩)), (9, .int .i64 K), (14, .pointer (some ⟨b14, 0, none⟩))]) (fun _ => hk)
        (fun b14 => [Res.blk b14 (.cells (sbc y).toArray 71 (0, 0)), Res.blk b8 (.cells (tnc ⟨false, tat, tof, tcl, tbl⟩).toArray 99 (0, 0)), rowR vo A, Res.blk b6 (.cells (up nx').toArray 97 (0, 0)), Res.blk b5 (.cells (zc zs).toArray 65 (0, 0)), Res.blk b3 (.cells (zc [(.slice none 0 0, []), (.slice none 0 0, []), (.slice none 0 0, []), (.slice none 0 0, [])]).toArray 65 (0, 0))]) (fun _ => True) ?_ ?_
      · --
        refine cx_region_floX [Res.blk b6 (.cells (up nx').toArray 97 (0, 0))] [7, 8, 10, 11] [0, 1, 2, 3, 4, 5, 6] [7, 8, 9] 10 [11] rfl (by kernel_rfl) ?_
        repeat' (refine ycf ?_;(first|(first|(apply ybm;(·(first|(first|exact tk_|(refine qv_convert_int' rfl hws)|(refine qv_str_of (l := [(i : Int)]) rfl (yaz 0 rfl))|(refine qv_str_of (l := [(i : Int)]) rfl (yaz 1 rfl))|(apply yax (cs := sbc y);(·rfl);(·exact hfy)))|(apply yae;(·rfl);(·(exact cell_upy hN' (yaz 0 rfl) (by omega) (by omega))))|exact tq_));(·rfl);(·rfl);(·(exact fun _ s => Hd.sub s (Le.refl _) (fun r hr => by rw [List.mem_singleton.1 hr];exact tm5_))))|refine ybl rfl rfl ?_|((fail_if_success (refine ybi rfl ?_));refine ybj rfl ?_ ?_<;>(intro ht;rw [ht];first|replace ht := of_decide_eq_true ht|replace ht := of_decide_eq_false ht|skip))|(refine tb_ ?_ ?_ ?_;(·(first|exact ybf|(refine .inl ?_;(exact fun _ s => Hd.sub s (Le.refl _) (fun r hr => by rw [List.mem_singleton.1 hr];exact tm5_)))|exact to_));(·intro _;(first|exact ybf|(refine .inl ?_;(exact fun _ s => Hd.sub s (Le.refl _) (fun r hr => by rw [List.mem_singleton.1 hr];exact tm5_)))|exact to_));intro _)|(first|(first|(refine ybg 0 rfl rfl rfl (sbc_sz y) (sbc_fit rfl) (sbc_one hyo.1 hyo.2) (ybh (sbc_all rfl)) rfl rfl ?_ ?_ ?_;(·(first|exact ybf|(refine .inl ?_;(exact fun _ s => Hd.sub s (Le.refl _) (fun r hr => by rw [List.mem_singleton.1 hr];exact tm5_)))|exact to_));(·(first|exact ybf|(refine .inl ?_;(exact fun _ s => Hd.sub s (Le.refl _) (fun r hr => by rw [List.mem_singleton.1 hr];exact tm5_)))|exact to_)))|(refine ybg 1 rfl rfl rfl (sbc_sz y) (sbc_fit rfl) (sbc_one hyo.1 hyo.2) (ybh (sbc_all rfl)) rfl rfl ?_ ?_ ?_;(·(first|exact ybf|(refine .inl ?_;(exact fun _ s => Hd.sub s (Le.refl _) (fun r hr => by rw [List.mem_singleton.1 hr];exact tm5_)))|exact to_));(·(first|exact ybf|(refine .inl ?_;(exact fun _ s => Hd.sub s (Le.refl _) (fun r hr => by rw [List.mem_singleton.1 hr];exact tm5_)))|exact to_))))|(refine tqs_ ?_ ?_ ?_;(·(first|exact ybf|(refine .inl ?_;(exact fun _ s => Hd.sub s (Le.refl _) (fun r hr => by rw [List.mem_singleton.1 hr];exact tm5_)))|exact to_));(·(first|exact ybf|(refine .inl ?_;(exact fun _ s => Hd.sub s (Le.refl _) (fun r hr => by rw [List.mem_singleton.1 hr];exact tm5_)))|exact to_))))|(apply ybn;(·(first|(first|exact tk_|(refine qv_convert_int' rfl hws)|(refine qv_str_of (l := [(i : Int)]) rfl (yaz 0 rfl))|(refine qv_str_of (l := [(i : Int)]) rfl (yaz 1 rfl))|(apply yax (cs := sbc y);(·rfl);(·exact hfy)))|(apply yae;(·rfl);(·(exact cell_upy hN' (yaz 0 rfl) (by omega) (by omega))))|exact tq_));(·rfl);(·rfl);(·rfl);(·(first|exact ybf|(refine .inl ?_;(exact fun _ s => Hd.sub s (Le.refl _) (fun r hr => by rw [List.mem_singleton.1 hr];exact tm5_)))|exact to_))))|refine ycg ?_))
        refine nx_flo 7 [] [8, 9] (by kernel_rfl) ?_ ?_
        · repeat' (refine ycf ?_;(first|(first|(apply ybm;(·(first|(first|exact tk_|(refine qv_convert_int' rfl hws)|(refine qv_str_of (l := [(i : Int)]) rfl (yaz 0 rfl))|(refine qv_str_of (l := [(i : Int)]) rfl (yaz 1 rfl))|(apply yax (cs := sbc y);(·rfl);(·exact hfy)))|(apply yae;(·rfl);(·(exact cell_upy hN' (yaz 0 rfl) (by omega) (by omega))))|exact tq_));(·rfl);(·rfl);(·(exact fun _ s => Hd.sub s (Le.refl _) (fun r hr => by rw [List.mem_singleton.1 hr];exact tm5_))))|refine ybl rfl rfl ?_|((fail_if_success (refine ybi rfl ?_));refine ybj rfl ?_ ?_<;>(intro ht;rw [ht];first|replace ht := of_decide_eq_true ht|replace ht := of_decide_eq_false ht|skip))|(refine tb_ ?_ ?_ ?_;(·(first|exact ybf|(refine .inl ?_;(exact fun _ s => Hd.sub s (Le.refl _) (fun r hr => by rw [List.mem_singleton.1 hr];exact tm5_)))|exact to_));(·intro _;(first|exact ybf|(refine .inl ?_;(exact fun _ s => Hd.sub s (Le.refl _) (fun r hr => by rw [List.mem_singleton.1 hr];exact tm5_)))|exact to_));intro _)|(first|(first|(refine ybg 0 rfl rfl rfl (sbc_sz y) (sbc_fit rfl) (sbc_one hyo.1 hyo.2) (ybh (sbc_all rfl)) rfl rfl ?_ ?_ ?_;(·(first|exact ybf|(refine .inl ?_;(exact fun _ s => Hd.sub s (Le.refl _) (fun r hr => by rw [List.mem_singleton.1 hr];exact tm5_)))|exact to_));(·(first|exact ybf|(refine .inl ?_;(exact fun _ s => Hd.sub s (Le.refl _) (fun r hr => by rw [List.mem_singleton.1 hr];exact tm5_)))|exact to_)))|(refine ybg 1 rfl rfl rfl (sbc_sz y) (sbc_fit rfl) (sbc_one hyo.1 hyo.2) (ybh (sbc_all rfl)) rfl rfl ?_ ?_ ?_;(·(first|exact ybf|(refine .inl ?_;(exact fun _ s => Hd.sub s (Le.refl _) (fun r hr => by rw [List.mem_singleton.1 hr];exact tm5_)))|exact to_));(·(first|exact ybf|(refine .inl ?_;(exact fun _ s => Hd.sub s (Le.refl _) (fun r hr => by rw [List.mem_singleton.1 hr];exact tm5_)))|exact to_))))|(refine tqs_ ?_ ?_ ?_;(·(first|exact ybf|(refine .inl ?_;(exact fun _ s => Hd.sub s (Le.refl _) (fun r hr => by rw [List.mem_singleton.1 hr];exact tm5_)))|exact to_));(·(first|exact ybf|(refine .inl ?_;(exact fun _ s => Hd.sub s (Le.refl _) (fun r hr => by rw [List.mem_singleton.1 hr];exact tm5_)))|exact to_))))|(apply ybn;(·(first|(first|exact tk_|(refine qv_convert_int' rfl hws)|(refine qv_str_of (l := [(i : Int)]) rfl (yaz 0 rfl))|(refine qv_str_of (l := [(i : Int)]) rfl (yaz 1 rfl))|(apply yax (cs := sbc y);(·rfl);(·exact hfy)))|(apply yae;(·rfl);(·(exact cell_upy hN' (yaz 0 rfl) (by omega) (by omega))))|exact tq_));(·rfl);(·rfl);(·rfl);(·(first|exact ybf|(refine .inl ?_;(exact fun _ s => Hd.sub s (Le.refl _) (fun r hr => by rw [List.mem_singleton.1 hr];exact tm5_)))|exact to_))))|refine ycg ?_))
          refine nx_flo 8 [9] [] (by kernel_rfl) ?_ ?_
          · repeat' (refine ycf ?_;(first|(first|(apply ybm;(·(first|(first|exact tk_|(refine qv_convert_int' rfl hws)|(refine qv_str_of (l := [(i : Int)]) rfl (yaz 0 rfl))|(refine qv_str_of (l := [(i : Int)]) rfl (yaz 1 rfl))|(apply yax (cs := sbc y);(·rfl);(·exact hfy)))|(apply yae;(·rfl);(·(exact cell_upy hN' (yaz 0 rfl) (by omega) (by omega))))|exact tq_));(·rfl);(·rfl);(·(exact fun _ s => Hd.sub s (Le.refl _) (fun r hr => by rw [List.mem_singleton.1 hr];exact tm5_))))|refine ybl rfl rfl ?_|((fail_if_success (refine ybi rfl ?_));refine ybj rfl ?_ ?_<;>(intro ht;rw [ht];first|replace ht := of_decide_eq_true ht|replace ht := of_decide_eq_false ht|skip))|(refine tb_ ?_ ?_ ?_;(·(first|exact ybf|(refine .inl ?_;(exact fun _ s => Hd.sub s (Le.refl _) (fun r hr => by rw [List.mem_singleton.1 hr];exact tm5_)))|exact to_));(·intro _;(first|exact ybf|(refine .inl ?_;(exact fun _ s => Hd.sub s (Le.refl _) (fun r hr => by rw [List.mem_singleton.1 hr];exact tm5_)))|exact to_));intro _)|(first|(first|(refine ybg 0 rfl rfl rfl (sbc_sz y) (sbc_fit rfl) (sbc_one hyo.1 hyo.2) (ybh (sbc_all rfl)) rfl rfl ?_ ?_ ?_;(·(first|exact ybf|(refine .inl ?_;(exact fun _ s => Hd.sub s (Le.refl _) (fun r hr => by rw [List.mem_singleton.1 hr];exact tm5_)))|exact to_));(·(first|exact ybf|(refine .inl ?_;(exact fun _ s => Hd.sub s (Le.refl _) (fun r hr => by rw [List.mem_singleton.1 hr];exact tm5_)))|exact to_)))|(refine ybg 1 rfl rfl rfl (sbc_sz y) (sbc_fit rfl) (sbc_one hyo.1 hyo.2) (ybh (sbc_all rfl)) rfl rfl ?_ ?_ ?_;(·(first|exact ybf|(refine .inl ?_;(exact fun _ s => Hd.sub s (Le.refl _) (fun r hr => by rw [List.mem_singleton.1 hr];exact tm5_)))|exact to_));(·(first|exact ybf|(refine .inl ?_;(exact fun _ s => Hd.sub s (Le.refl _) (fun r hr => by rw [List.mem_singleton.1 hr];exact tm5_)))|exact to_))))|(refine tqs_ ?_ ?_ ?_;(·(first|exact ybf|(refine .inl ?_;(exact fun _ s => Hd.sub s (Le.refl _) (fun r hr => by rw [List.mem_singleton.1 hr];exact tm5_)))|exact to_));(·(first|exact ybf|(refine .inl ?_;(exact fun _ s => Hd.sub s (Le.refl _) (fun r hr => by rw [List.mem_singleton.1 hr];exact tm5_)))|exact to_))))|(apply ybn;(·(first|(first|exact tk_|(refine qv_convert_int' rfl hws)|(refine qv_str_of (l := [(i : Int)]) rfl (yaz 0 rfl))|(refine qv_str_of (l := [(i : Int)]) rfl (yaz 1 rfl))|(apply yax (cs := sbc y);(·rfl);(·exact hfy)))|(apply yae;(·rfl);(·(exact cell_upy hN' (yaz 0 rfl) (by omega) (by omega))))|exact tq_));(·rfl);(·rfl);(·rfl);(·(first|exact ybf|(refine .inl ?_;(exact fun _ s => Hd.sub s (Le.refl _) (fun r hr => by rw [List.mem_singleton.1 hr];exact tm5_)))|exact to_))))|refine ycg ?_))
            refine nx_flo_end ?_
            repeat' (refine ycf ?_;(first|(first|(apply ybm;(·(first|(first|exact tk_|(refine qv_convert_int' rfl hws)|(refine qv_str_of (l := [(i : Int)]) rfl (yaz 0 rfl))|(refine qv_str_of (l := [(i : Int)]) rfl (yaz 1 rfl))|(apply yax (cs := sbc y);(·rfl);(·exact hfy)))|(apply yae;(·rfl);(·(exact cell_upy hN' (yaz 0 rfl) (by omega) (by omega))))|exact tq_));(·rfl);(·rfl);(·(exact fun _ s => Hd.sub s (Le.refl _) (fun r hr => by rw [List.mem_singleton.1 hr];exact tm5_))))|refine ybl rfl rfl ?_|((fail_if_success (refine ybi rfl ?_));refine ybj rfl ?_ ?_<;>(intro ht;rw [ht];first|replace ht := of_decide_eq_true ht|replace ht := of_decide_eq_false ht|skip))|(refine tb_ ?_ ?_ ?_;(·(first|exact ybf|(refine .inl ?_;(exact fun _ s => Hd.sub s (Le.refl _) (fun r hr => by rw [List.mem_singleton.1 hr];exact tm5_)))|exact to_));(·intro _;(first|exact ybf|(refine .inl ?_;(exact fun _ s => Hd.sub s (Le.refl _) (fun r hr => by rw [List.mem_singleton.1 hr];exact tm5_)))|exact to_));intro _)|(first|(first|(refine ybg 0 rfl rfl rfl (sbc_sz y) (sbc_fit rfl) (sbc_one hyo.1 hyo.2) (ybh (sbc_all rfl)) rfl rfl ?_ ?_ ?_;(·(first|exact ybf|(refine .inl ?_;(exact fun _ s => Hd.sub s (Le.refl _) (fun r hr => by rw [List.mem_singleton.1 hr];exact tm5_)))|exact to_));(·(first|exact ybf|(refine .inl ?_;(exact fun _ s => Hd.sub s (Le.refl _) (fun r hr => by rw [List.mem_singleton.1 hr];exact tm5_)))|exact to_)))|(refine ybg 1 rfl rfl rfl (sbc_sz y) (sbc_fit rfl) (sbc_one hyo.1 hyo.2) (ybh (sbc_all rfl)) rfl rfl ?_ ?_ ?_;(·(first|exact ybf|(refine .inl ?_;(exact fun _ s => Hd.sub s (Le.refl _) (fun r hr => by rw [List.mem_singleton.1 hr];exact tm5_)))|exact to_));(·(first|exact ybf|(refine .inl ?_;(exact fun _ s => Hd.sub s (Le.refl _) (fun r hr => by rw [List.mem_singleton.1 hr];exact tm5_)))|exact to_))))|(refine tqs_ ?_ ?_ ?_;(·(first|exact ybf|(refine .inl ?_;(exact fun _ s => Hd.sub s (Le.refl _) (fun r hr => by rw [List.mem_singleton.1 hr];exact tm5_)))|exact to_));(·(first|exact ybf|(refine .inl ?_;(exact fun _ s => Hd.sub s (Le.refl _) (fun r hr => by rw [List.mem_singleton.1 hr];exact tm5_)))|exact to_))))|(apply ybn;(·(first|(first|exact tk_|(refine qv_convert_int' rfl hws)|(refine qv_str_of (l := [(i : Int)]) rfl (yaz 0 rfl))|(refine qv_str_of (l := [(i : Int)]) rfl (yaz 1 rfl))|(apply yax (cs := sbc y);(·rfl);(·exact hfy)))|(apply yae;(·rfl);(·(exact cell_upy hN' (yaz 0 rfl) (by omega) (by omega))))|exact tq_));(·rfl);(·rfl);(·rfl);(·(first|exact ybf|(refine .inl ?_;(exact fun _ s => Hd.sub s (Le.refl _) (fun r hr => by rw [List.mem_singleton.1 hr];exact tm5_)))|exact to_))))|refine ycg ?_))
            rename_i b78 b14
            exact nx_cut b14 trivial ts_ (fun _ s => (s.perm (List.Perm.swap ..)).tl)
          · repeat' (refine ycf ?_;(first|(first|(apply ybm;(·(first|(first|exact tk_|(refine qv_convert_int' rfl hws)|(refine qv_str_of (l := [(i : Int)]) rfl (yaz 0 rfl))|(refine qv_str_of (l := [(i : Int)]) rfl (yaz 1 rfl))|(apply yax (cs := sbc y);(·rfl);(·exact hfy)))|(apply yae;(·rfl);(·(exact cell_upy hN' (yaz 0 rfl) (by omega) (by omega))))|exact tq_));(·rfl);(·rfl);(·(exact fun _ s => Hd.sub s (Le.refl _) (fun r hr => by rw [List.mem_singleton.1 hr];exact tm5_))))|refine ybl rfl rfl ?_|((fail_if_success (refine ybi rfl ?_));refine ybj rfl ?_ ?_<;>(intro ht;rw [ht];first|replace ht := of_decide_eq_true ht|replace ht := of_decide_eq_false ht|skip))|(refine tb_ ?_ ?_ ?_;(·(first|exact ybf|(refine .inl ?_;(exact fun _ s => Hd.sub s (Le.refl _) (fun r hr => by rw [List.mem_singleton.1 hr];exact tm5_)))|exact to_));(·intro _;(first|exact ybf|(refine .inl ?_;(exact fun _ s => Hd.sub s (Le.refl _) (fun r hr => by rw [List.mem_singleton.1 hr];exact tm5_)))|exact to_));intro _)|(first|(first|(refine ybg 0 rfl rfl rfl (sbc_sz y) (sbc_fit rfl) (sbc_one hyo.1 hyo.2) (ybh (sbc_all rfl)) rfl rfl ?_ ?_ ?_;(·(first|exact ybf|(refine .inl ?_;(exact fun _ s => Hd.sub s (Le.refl _) (fun r hr => by rw [List.mem_singleton.1 hr];exact tm5_)))|exact to_));(·(first|exact ybf|(refine .inl ?_;(exact fun _ s => Hd.sub s (Le.refl _) (fun r hr => by rw [List.mem_singleton.1 hr];exact tm5_)))|exact to_)))|(refine ybg 1 rfl rfl rfl (sbc_sz y) (sbc_fit rfl) (sbc_one hyo.1 hyo.2) (ybh (sbc_all rfl)) rfl rfl ?_ ?_ ?_;(·(first|exact ybf|(refine .inl ?_;(exact fun _ s => Hd.sub s (Le.refl _) (fun r hr => by rw [List.mem_singleton.1 hr];exact tm5_)))|exact to_));(·(first|exact ybf|(refine .inl ?_;(exact fun _ s => Hd.sub s (Le.refl _) (fun r hr => by rw [List.mem_singleton.1 hr];exact tm5_)))|exact to_))))|(refine tqs_ ?_ ?_ ?_;(·(first|exact ybf|(refine .inl ?_;(exact fun _ s => Hd.sub s (Le.refl _) (fun r hr => by rw [List.mem_singleton.1 hr];exact tm5_)))|exact to_));(·(first|exact ybf|(refine .inl ?_;(exact fun _ s => Hd.sub s (Le.refl _) (fun r hr => by rw [List.mem_singleton.1 hr];exact tm5_)))|exact to_))))|(apply ybn;(·(first|(first|exact tk_|(refine qv_convert_int' rfl hws)|(refine qv_str_of (l := [(i : Int)]) rfl (yaz 0 rfl))|(refine qv_str_of (l := [(i : Int)]) rfl (yaz 1 rfl))|(apply yax (cs := sbc y);(·rfl);(·exact hfy)))|(apply yae;(·rfl);(·(exact cell_upy hN' (yaz 0 rfl) (by omega) (by omega))))|exact tq_));(·rfl);(·rfl);(·rfl);(·(first|exact ybf|(refine .inl ?_;(exact fun _ s => Hd.sub s (Le.refl _) (fun r hr => by rw [List.mem_singleton.1 hr];exact tm5_)))|exact to_))))|refine ycg ?_))
            rename_i b78 b14
            exact nx_cut b14 trivial ts_ (fun _ s => (s.perm (List.Perm.swap ..)).tl)
        · repeat' (refine ycf ?_;(first|(first|(apply ybm;(·(first|(first|exact tk_|(refine qv_convert_int' rfl hws)|(refine qv_str_of (l := [(i : Int)]) rfl (yaz 0 rfl))|(refine qv_str_of (l := [(i : Int)]) rfl (yaz 1 rfl))|(apply yax (cs := sbc y);(·rfl);(·exact hfy)))|(apply yae;(·rfl);(·(exact cell_upy hN' (yaz 0 rfl) (by omega) (by omega))))|exact tq_));(·rfl);(·rfl);(·(exact fun _ s => Hd.sub s (Le.refl _) (fun r hr => by rw [List.mem_singleton.1 hr];exact tm5_))))|refine ybl rfl rfl ?_|((fail_if_success (refine ybi rfl ?_));refine ybj rfl ?_ ?_<;>(intro ht;rw [ht];first|replace ht := of_decide_eq_true ht|replace ht := of_decide_eq_false ht|skip))|(refine tb_ ?_ ?_ ?_;(·(first|exact ybf|(refine .inl ?_;(exact fun _ s => Hd.sub s (Le.refl _) (fun r hr => by rw [List.mem_singleton.1 hr];exact tm5_)))|exact to_));(·intro _;(first|exact ybf|(refine .inl ?_;(exact fun _ s => Hd.sub s (Le.refl _) (fun r hr => by rw [List.mem_singleton.1 hr];exact tm5_)))|exact to_));intro _)|(first|(first|(refine ybg 0 rfl rfl rfl (sbc_sz y) (sbc_fit rfl) (sbc_one hyo.1 hyo.2) (ybh (sbc_all rfl)) rfl rfl ?_ ?_ ?_;(·(first|exact ybf|(refine .inl ?_;(exact fun _ s => Hd.sub s (Le.refl _) (fun r hr => by rw [List.mem_singleton.1 hr];exact tm5_)))|exact to_));(·(first|exact ybf|(refine .inl ?_;(exact fun _ s => Hd.sub s (Le.refl _) (fun r hr => by rw [List.mem_singleton.1 hr];exact tm5_)))|exact to_)))|(refine ybg 1 rfl rfl rfl (sbc_sz y) (sbc_fit rfl) (sbc_one hyo.1 hyo.2) (ybh (sbc_all rfl)) rfl rfl ?_ ?_ ?_;(·(first|exact ybf|(refine .inl ?_;(exact fun _ s => Hd.sub s (Le.refl _) (fun r hr => by rw [List.mem_singleton.1 hr];exact tm5_)))|exact to_));(·(first|exact ybf|(refine .inl ?_;(exact fun _ s => Hd.sub s (Le.refl _) (fun r hr => by rw [List.mem_singleton.1 hr];exact tm5_)))|exact to_))))|(refine tqs_ ?_ ?_ ?_;(·(first|exact ybf|(refine .inl ?_;(exact fun _ s => Hd.sub s (Le.refl _) (fun r hr => by rw [List.mem_singleton.1 hr];exact tm5_)))|exact to_));(·(first|exact ybf|(refine .inl ?_;(exact fun _ s => Hd.sub s (Le.refl _) (fun r hr => by rw [List.mem_singleton.1 hr];exact tm5_)))|exact to_))))|(apply ybn;(·(first|(first|exact tk_|(refine qv_convert_int' rfl hws)|(refine qv_str_of (l := [(i : Int)]) rfl (yaz 0 rfl))|(refine qv_str_of (l := [(i : Int)]) rfl (yaz 1 rfl))|(apply yax (cs := sbc y);(·rfl);(·exact hfy)))|(apply yae;(·rfl);(·(exact cell_upy hN' (yaz 0 rfl) (by omega) (by omega))))|exact tq_));(·rfl);(·rfl);(·rfl);(·(first|exact ybf|(refine .inl ?_;(exact fun _ s => Hd.sub s (Le.refl _) (fun r hr => by rw [List.mem_singleton.1 hr];exact tm5_)))|exact to_))))|refine ycg ?_))
          rename_i b14 b78
          exact nx_cut b14 trivial ts_ (fun _ s => s.tl)
      rintro b14 _
      refine yby ?_
      obtain ⟨q, hq⟩ : ∃ q, zs[K]? = some q := ⟨_, List.getElem?_eq_getElem (by omega)⟩
      have Rq := p6 q (List.mem_of_getElem? hq)
      have cq := p8.set p7 (za_at hq)
      have fq := fits_ck cq
      have hrd : rightB (((1 + C : Nat) : Int), N + 1) = true := by
        unfold rightB
        simp only [Bool.and_eq_true, decide_eq_true_eq]
        omega
      have hlA : (A.map Sb.a).length < 64 := by rw [List.length_map]; omega
      refine ybo ?_
      refine cx_cut (X := View × Sb) (fun r => [(0, .slice (some ⟨bs, o, none⟩) l.length cap), (3, .pointer (some ⟨b3, 0, none⟩)), (4, vo), (5, .pointer (some ⟨b5, 0, none⟩)), (6, .pointer (some ⟨b6, 0, none⟩)), (7, .int .i64 (i : Nat)), (9, .int .i64 K), (14, .pointer (some ⟨b14, 0, none⟩))]) (fun r => r.1)
        (fun r => [Res.blk b14 (.cells (sbc r.2).toArray 71 (0, 0)), rowR vo A, Res.blk b6 (.cells (up nx').toArray 97 (0, 0)), Res.blk b5 (.cells (zc zs).toArray 65 (0, 0)), Res.blk b3 (.cells (zc [(.slice none 0 0, []), (.slice none 0 0, []), (.slice none 0 0, []), (.slice none 0 0, [])]).toArray 65 (0, 0))])
        (fun r => Le hk r.1 ∧ Rv r.1 r.2 ∧ (r.2.l.length ≤ 32 ∧ r.2.b.length ≤ 100) ∧ r.2.a.1 = (((1 + C : Nat) : Int), N + 1) ∧ Hist (A.map Sb.a ++ [r.2.a])) ?_ ?_
      · --
        cases tbl with
        | true =>
          repeat' (first | (refine ycf ?_; apply ybk; (· first | (exact tk_) | (apply yae; (· rfl); (· (exact (yaz 1 rfl).cell (j := 4) rfl)))); (· rfl); (· rfl)) | refine t1_ ?_ | (refine ta_ ?_; intro _) | ((fail_if_success (refine ybi rfl ?_)); refine ybj rfl ?_ ?_ <;> (intro ht; rw [ht]; first | replace ht := of_decide_eq_true ht | replace ht := of_decide_eq_false ht | skip)) | (refine ych ?_; first | (refine ybw rfl ?_ ?_ <;> intro ht) | (refine ybx rfl ?_ ?_ <;> intro ht)))
          refine nx_cut (hk, y) ⟨Le.refl _, hyv, by rw [hy]; exact ⟨by show 0 ≤ 32; omega, by show 1 ≤ 100; omega⟩, by rw [ey], ?_⟩ ts_ (fun _ s => (s.perm (List.Perm.swap ..)).tl)
          dsimp only
          rw [ey]
          exact p7.write (M := []) hlA hrd BP.2 (fun x hx => by cases hx) inv_zero (by simp) (by simp) (fun x hx => by rw [zero_none hx]; rfl)
        | false =>
          have SN := rseen_sp q.1 q.2 hk Rq fq
          repeat' (first | (refine ycf ?_; apply ybk; (· first | (exact tk_) | (apply yae; (· rfl); (· (first | exact (yaz 1 rfl).cell (j := 4) rfl | exact zc_cell (yaz 4 rfl) hq (by omega))))); (· rfl); (· rfl)) | refine t1_ ?_ | (refine ta_ ?_; intro _) | ((fail_if_success (refine ybi rfl ?_)); refine ybj rfl ?_ ?_ <;> (intro ht; rw [ht]; first | replace ht := of_decide_eq_true ht | replace ht := of_decide_eq_false ht | skip)) | (refine ych ?_; first | (refine ybw rfl ?_ ?_ <;> intro ht) | (refine ybx rfl ?_ ?_ <;> intro ht)))
          (refine yco (ycp Try.func54 rfl (by kernel_rfl) rfl) (SN) rfl rfl rfl ?_ ?_ ?_; (· (exact to_)); (· intro _ _ hle; (exact to_)); intro x px hle)
          obtain ⟨h3, v3, cu, cl, er⟩ := x
          obtain ⟨C3, Q3⟩ := px
          dsimp only at C3 Q3
          have hle3 : Le hk h3 := hle
          clear hle
          unfold SeenQ at Q3
          rw [if_neg (by rw [cq]; decide)] at Q3
          obtain ⟨U, T, q1, q2, q3⟩ := Q3
          obtain ⟨hu', mv', hv3, hs'⟩ := id C3
          subst hv3
          obtain ⟨_, ad', cap', hmv', _, _⟩ := id hs'
          subst hmv'
          have es : spl (sbc y).toArray.toList (0 + 2) (Value.agg (cxc cu (.slice ad' cl.length cap')).toArray).cells.toList = sbc ⟨y.d, cu, hu', cl, .slice ad' cl.length cap', y.b, y.bv⟩ := spl_past hu'
          by_cases h32 : 32 < T.length
          · rw [if_pos h32] at q3
            obtain ⟨q3, _, _⟩ := q3
            subst q3
            repeat' (first|(refine ycf ?_;apply ybk;(·first|(first|exact tk_|(apply yad;(·rfl);(·exact yaz 0 rfl);(·exact ycj hu')))|(apply yae;(·rfl);(·(first|exact (yaz 1 rfl).cell (j := 4) rfl|exact zc_cell (yaz 4 rfl) hq (by omega)))));(·rfl);(·rfl))|(first|(refine ybg 0 rfl rfl rfl (cxc_sz hu') (cxc_fit hu') (cxc_one rfl) (ybh (cxc_all hu')) rfl rfl ?_ ?_ ?_;(·(exact to_));(·(exact to_)))|(refine ybg 1 rfl rfl rfl (cxc_sz hu') (past_ok hu') (cxc_one rfl) es rfl rfl ?_ ?_ ?_;(·(exact to_));(·(exact to_))))|refine t1_ ?_|(refine ta_ ?_;intro _)|((fail_if_success (refine ybi rfl ?_));refine ybj rfl ?_ ?_<;>(intro ht;rw [ht];first|replace ht := of_decide_eq_true ht|replace ht := of_decide_eq_false ht|skip))|(refine ych ?_;first|(refine ybw rfl ?_ ?_<;>intro ht)|(refine ybx rfl ?_ ?_<;>intro ht)))
            refine nx_cut_exit ?_
            repeat' (first|(refine ycf ?_;apply ybk;(·first|(first|exact tk_|(apply yad;(·rfl);(·exact yaz 0 rfl);(·exact ycj hu')))|(apply yae;(·rfl);(·(first|exact (yaz 1 rfl).cell (j := 4) rfl|exact zc_cell (yaz 4 rfl) hq (by omega)))));(·rfl);(·rfl))|(first|(refine ybg 0 rfl rfl rfl (cxc_sz hu') (cxc_fit hu') (cxc_one rfl) (ybh (cxc_all hu')) rfl rfl ?_ ?_ ?_;(·(exact to_));(·(exact to_)))|(refine ybg 1 rfl rfl rfl (cxc_sz hu') (past_ok hu') (cxc_one rfl) es rfl rfl ?_ ?_ ?_;(·(exact to_));(·(exact to_))))|refine t1_ ?_|(refine ta_ ?_;intro _)|((fail_if_success (refine ybi rfl ?_));refine ybj rfl ?_ ?_<;>(intro ht;rw [ht];first|replace ht := of_decide_eq_true ht|replace ht := of_decide_eq_false ht|skip))|(refine ych ?_;first|(refine ybw rfl ?_ ?_<;>intro ht)|(refine ybx rfl ?_ ?_<;>intro ht)))
            exact nx_round (i + 1, h3, (vo, A), zs, nx') ⟨by show i + 1 ≤ _; omega, by show i + 1 ≤ 24; omega, p3.trans hle3, by show A.length ≤ i + 1; omega, fun x hx => (p5 x hx).mono hle3, p6.mono hle3, p7, p8, BP.1⟩ (by show 24 - (i + 1) < 24 - i; omega) ts_ (fun _ s => s.tl.tl.tl)
          · rw [if_neg h32] at q3
            obtain ⟨q3, q4, q5⟩ := q3
            subst q3
            subst q4
            subst q5
            repeat' (first|(refine ycf ?_;apply ybk;(·first|(first|exact tk_|(apply yad;(·rfl);(·exact yaz 0 rfl);(·exact ycj hu')))|(apply yae;(·rfl);(·(first|exact (yaz 1 rfl).cell (j := 4) rfl|exact zc_cell (yaz 4 rfl) hq (by omega)))));(·rfl);(·rfl))|(first|(refine ybg 0 rfl rfl rfl (cxc_sz hu') (cxc_fit hu') (cxc_one rfl) (ybh (cxc_all hu')) rfl rfl ?_ ?_ ?_;(·(exact to_));(·(exact to_)))|(refine ybg 1 rfl rfl rfl (cxc_sz hu') (past_ok hu') (cxc_one rfl) es rfl rfl ?_ ?_ ?_;(·(exact to_));(·(exact to_))))|refine t1_ ?_|(refine ta_ ?_;intro _)|((fail_if_success (refine ybi rfl ?_));refine ybj rfl ?_ ?_<;>(intro ht;rw [ht];first|replace ht := of_decide_eq_true ht|replace ht := of_decide_eq_false ht|skip))|(refine ych ?_;first|(refine ybw rfl ?_ ?_<;>intro ht)|(refine ybx rfl ?_ ?_<;>intro ht)))
            refine nx_cut (h3, ⟨y.d, cu, hu', cl, .slice ad' cl.length cap', y.b, y.bv⟩) ⟨hle3, ⟨hs', by rw [hy], by rw [hy]; exact hby⟩, by rw [hy]; exact ⟨by show cl.length ≤ 32; omega, by show 1 ≤ 100; omega⟩, by have := congrArg (·.1) ey; exact this, ?_⟩ ts_ (fun _ s => (s.tl.perm (List.Perm.swap ..)).tl)
            have ey2 : (⟨y.d, cu, hu', cl, .slice ad' cl.length cap', y.b, y.bv⟩ : Sb).a = ((((1 + C : Nat) : Int), N + 1), cu, cl, [(i : Int)]) := by
              show (y.a.1, cu, cl, y.b) = _
              rw [ey, hy]
            dsimp only
            rw [ey2]
            exact p7.write (M := q.2.map Sb.a) hlA hrd BP.2 (p8.sub (za_at hq)) q1 (by omega) (by simp) q2
      rintro ⟨h5, z⟩ ⟨c1, c2, c3, c4, c5⟩
      dsimp only at c1 c2 c3 c4 c5 ⊢
      refine yby ?_
      have PW := p8.write c5 (za_at hq) hK2
      have MR := fun v => rmerge_sp q.1 v q.2 [z]
      obtain ⟨er, her⟩ : ∃ er, er = (mergeF (q.2.map Sb.a) [z.a]).2 := ⟨_, rfl⟩
      rw [← her] at PW
      obtain ⟨he0, PW⟩ := PW
      subst he0
      have hzl := sbc_len z
      have hzo := c2.one
      repeat' (first | (refine ycf ?_; apply ybk; (· first | (exact tk_)); (· rfl); (· rfl)) | refine t1_ ?_ | (refine ta_ ?_; intro _) | ((fail_if_success (refine ybi rfl ?_)); refine ybj rfl ?_ ?_ <;> (intro ht; rw [ht]; first | replace ht := of_decide_eq_true ht | replace ht := of_decide_eq_false ht | skip)) | (refine ych ?_; first | (refine ybw rfl ?_ ?_ <;> intro ht) | (refine ybx rfl ?_ ?_ <;> intro ht)))
      refine cx_region_drawL [Res.blk b14 (.cells (sbc z).toArray 71 (0, 0)), Res.blk b5 (.cells (zc zs).toArray 65 (0, 0))] [] rfl (by kernel_rfl) ?_
      have hLS : ∀ r ∈ [Res.blk b14 (.cells (sbc z).toArray 71 (0, 0)), Res.blk b5 (.cells (zc zs).toArray 65 (0, 0))], r ∈ [Res.blk b14 (.cells (sbc z).toArray 71 (0, 0)), rowR vo A, Res.blk b6 (.cells (up nx').toArray 97 (0, 0)), Res.blk b5 (.cells (zc zs).toArray 65 (0, 0)), Res.blk b3 (.cells (zc [(.slice none 0 0, []), (.slice none 0 0, []), (.slice none 0 0, []), (.slice none 0 0, [])]).toArray 65 (0, 0))] := fun r hr => by
        rcases List.mem_cons.1 hr with rfl | hr
        · exact tm5_
        · rw [List.mem_singleton.1 hr]; exact tm5_
      repeat' (refine ycf ?_;(first|(first|(apply ybm;(·(first|(first|exact tk_|(apply yad;(·rfl);(·exact yaz 0 rfl);(·exact hzl)))|(apply yae;(·rfl);(·(exact zc_cell (yaz 1 rfl) hq (by omega))))|exact tq_));(·rfl);(·rfl);(·(first|exact fun _ s => Hd.sub s (Le.refl _) hLS|exact fun _ s => Hd.sub s hle hLS)))|refine ybl rfl rfl ?_|((fail_if_success (refine ybi rfl ?_));refine ybj rfl ?_ ?_<;>(intro ht;rw [ht];first|replace ht := of_decide_eq_true ht|replace ht := of_decide_eq_false ht|skip))|(refine tb_ ?_ ?_ ?_;(·(first|exact ybf|(refine .inl ?_;(first|exact fun _ s => Hd.sub s (Le.refl _) hLS|exact fun _ s => Hd.sub s hle hLS))|exact to_));(·intro _;(first|exact ybf|(refine .inl ?_;(first|exact fun _ s => Hd.sub s (Le.refl _) hLS|exact fun _ s => Hd.sub s hle hLS))|exact to_));intro _)|(first|(refine tqs_ ?_ ?_ ?_;(·(first|exact ybf|(refine .inl ?_;(first|exact fun _ s => Hd.sub s (Le.refl _) hLS|exact fun _ s => Hd.sub s hle hLS))|exact to_));(·(first|exact ybf|(refine .inl ?_;(first|exact fun _ s => Hd.sub s (Le.refl _) hLS|exact fun _ s => Hd.sub s hle hLS))|exact to_))))|(apply ybn;(·(first|(first|exact tk_|(apply yad;(·rfl);(·exact yaz 0 rfl);(·exact hzl)))|(apply yae;(·rfl);(·(exact zc_cell (yaz 1 rfl) hq (by omega))))|exact tq_));(·rfl);(·rfl);(·rfl);(·(first|exact ybf|(refine .inl ?_;(first|exact fun _ s => Hd.sub s (Le.refl _) hLS|exact fun _ s => Hd.sub s hle hLS))|exact to_))))|refine ycg ?_))
      refine yba (ybd rfl rfl rfl (ybe rfl (sbc_sz z))) rfl rfl rfl ?_ ?_ ?_
      · exact .inl fun _ s => Hd.sub s (Le.refl _) hLS
      · intro _; exact .inl fun _ s => Hd.sub s (Le.refl _) fun r hr => List.mem_cons_of_mem _ (hLS r hr)
      intro b9
      refine rx_rowOf 20 1 1 (by omega) (by unfold maxLen; omega) (by show (sbc z).length = 20; exact hzl) ?_
      refine rx_persist rfl fun h6 hle6 hs6 => ?_
      have S6 : Rs h6 (.slice (some ⟨b9, 0, none⟩) 1 1) [z] := by
        refine ⟨?_, fun x hx => by rw [List.mem_singleton.1 hx]; exact c2.mono hle6⟩
        rw [show [z].flatMap sbc = sbc z by simp]
        have e : (sbc z).take (1 * 20) = sbc z := List.take_of_length_le (by omega)
        have : Sc h6 20 (.slice (some ⟨b9, 0, none⟩) 1 1) 1 ((sbc z).take (1 * 20)) := hs6
        rwa [e] at this
      have MR2 := rmerge_sp q.1 (.slice (some ⟨b9, 0, none⟩) 1 1) q.2 [z] h6 (Rq.mono (c1.trans hle6)) S6 fq ⟨by simp, fun x hx => by rw [List.mem_singleton.1 hx]; exact ⟨by have := c3.1; omega, by have := c3.2; omega⟩⟩
      rw [show [z].map Sb.a = [z.a] from rfl, ← her] at MR2
      repeat' (refine ycf ?_;(first|(first|(apply ybm;(·(first|(first|exact tk_|(apply yad;(·rfl);(·exact yaz 0 rfl);(·exact hzl)))|(apply yae;(·rfl);(·(exact zc_cell (yaz 1 rfl) hq (by omega))))|exact tq_));(·rfl);(·rfl);(·(first|exact fun _ s => Hd.sub s hle6 hLS|exact fun _ s => Hd.sub s (hle6.trans hle) hLS)))|refine ybl rfl rfl ?_|((fail_if_success (refine ybi rfl ?_));refine ybj rfl ?_ ?_<;>(intro ht;rw [ht];first|replace ht := of_decide_eq_true ht|replace ht := of_decide_eq_false ht|skip))|(refine tb_ ?_ ?_ ?_;(·(first|exact ybf|(refine .inl ?_;(first|exact fun _ s => Hd.sub s hle6 hLS|exact fun _ s => Hd.sub s (hle6.trans hle) hLS))|exact to_));(·intro _;(first|exact ybf|(refine .inl ?_;(first|exact fun _ s => Hd.sub s hle6 hLS|exact fun _ s => Hd.sub s (hle6.trans hle) hLS))|exact to_));intro _)|(first|(refine tqs_ ?_ ?_ ?_;(·(first|exact ybf|(refine .inl ?_;(first|exact fun _ s => Hd.sub s hle6 hLS|exact fun _ s => Hd.sub s (hle6.trans hle) hLS))|exact to_));(·(first|exact ybf|(refine .inl ?_;(first|exact fun _ s => Hd.sub s hle6 hLS|exact fun _ s => Hd.sub s (hle6.trans hle) hLS))|exact to_))))|(apply ybn;(·(first|(first|exact tk_|(apply yad;(·rfl);(·exact yaz 0 rfl);(·exact hzl)))|(apply yae;(·rfl);(·(exact zc_cell (yaz 1 rfl) hq (by omega))))|exact tq_));(·rfl);(·rfl);(·rfl);(·(first|exact ybf|(refine .inl ?_;(first|exact fun _ s => Hd.sub s hle6 hLS|exact fun _ s => Hd.sub s (hle6.trans hle) hLS))|exact to_))))|refine ycg ?_))
      (refine yco (ycp Try.func27 rfl (by kernel_rfl) rfl) (MR2) rfl rfl rfl ?_ ?_ ?_; (· (first | exact ybf | (refine .inl ?_; (first | exact fun _ s => Hd.sub s hle6 hLS | exact fun _ s => Hd.sub s (hle6.trans hle) hLS)) | exact to_)); (· intro _ _ hle; (first | exact ybf | (refine .inl ?_; (first | exact fun _ s => Hd.sub s hle6 hLS | exact fun _ s => Hd.sub s (hle6.trans hle) hLS)) | exact to_)); intro x px hle)
      obtain ⟨h7, v7, M⟩ := x
      obtain ⟨S7, E7⟩ := px
      dsimp only at S7 E7
      have hle7 : Le h6 h7 := hle
      clear hle
      obtain ⟨_, adM, capM, hvM, _, _⟩ := id S7.1
      subst hvM
      repeat' (refine ycf ?_;(first|(first|(apply ybm;(·(first|(first|exact tk_|(apply yad;(·rfl);(·exact yaz 0 rfl);(·exact hzl)))|(apply yae;(·rfl);(·(exact zc_cell (yaz 1 rfl) hq (by omega))))|exact tq_));(·rfl);(·rfl);(·(exact fun _ s => Hd.sub s (hle6.trans hle7) hLS)))|refine ybl rfl rfl ?_|((fail_if_success (refine ybi rfl ?_));refine ybj rfl ?_ ?_<;>(intro ht;rw [ht];first|replace ht := of_decide_eq_true ht|replace ht := of_decide_eq_false ht|skip))|(refine tb_ ?_ ?_ ?_;(·(first|exact ybf|(refine .inl ?_;(exact fun _ s => Hd.sub s (hle6.trans hle7) hLS))|exact to_));(·intro _;(first|exact ybf|(refine .inl ?_;(exact fun _ s => Hd.sub s (hle6.trans hle7) hLS))|exact to_));intro _)|(first|(refine tqs_ ?_ ?_ ?_;(·(first|exact ybf|(refine .inl ?_;(exact fun _ s => Hd.sub s (hle6.trans hle7) hLS))|exact to_));(·(first|exact ybf|(refine .inl ?_;(exact fun _ s => Hd.sub s (hle6.trans hle7) hLS))|exact to_))))|(apply ybn;(·(first|(first|exact tk_|(apply yad;(·rfl);(·exact yaz 0 rfl);(·exact hzl)))|(apply yae;(·rfl);(·(exact zc_cell (yaz 1 rfl) hq (by omega))))|exact tq_));(·rfl);(·rfl);(·rfl);(·(first|exact ybf|(refine .inl ?_;(exact fun _ s => Hd.sub s (hle6.trans hle7) hLS))|exact to_))))|refine ycg ?_))
      repeat' (first | (refine ycf ?_; apply ybk; (· first | (first | exact tk_ | (apply yad; (· rfl); (· exact yaz 0 rfl); (· exact hzl)))); (· rfl); (· rfl)) | refine t1_ ?_ | (refine ta_ ?_; intro _) | ((fail_if_success (refine ybi rfl ?_)); refine ybj rfl ?_ ?_ <;> (intro ht; rw [ht]; first | replace ht := of_decide_eq_true ht | replace ht := of_decide_eq_false ht | skip)) | (refine ych ?_; first | (refine ybw rfl ?_ ?_ <;> intro ht) | (refine ybx rfl ?_ ?_ <;> intro ht)))
      refine yba (ybd rfl rfl rfl (ybe rfl (sbc_sz z))) rfl rfl rfl ybf (fun _ => ybf) ?_
      intro b10
      refine rx_append (sz := 20) 2 rfl rfl rfl (yaz 0 rfl) (by show (sbc z).length = 1 * 20; omega) (fun u hu => List.all_eq_true.1 (sbc_one hzo.1 hzo.2) u hu) rfl (by omega) (by unfold maxLen; omega) (by omega) rfl rfl rfl ybf (fun _ => ybf) ?_
      intro v9 _
      repeat' (first | (refine ycf ?_; apply ybk; (· first | (exact tk_)); (· rfl); (· rfl)) | (refine ybg 4 rfl rfl rfl rfl (zc_fit (k := K) (by omega) (by omega)) rfl (zc_spl (X := M) (k := K) (by omega) (by omega)) rfl rfl ?_ ?_ ?_; (· (exact to_)); (· (exact to_))) | refine t1_ ?_ | (refine ta_ ?_; intro _) | ((fail_if_success (refine ybi rfl ?_)); refine ybj rfl ?_ ?_ <;> (intro ht; rw [ht]; first | replace ht := of_decide_eq_true ht | replace ht := of_decide_eq_false ht | skip)) | (refine ych ?_; first | (refine ybw rfl ?_ ?_ <;> intro ht) | (refine ybx rfl ?_ ?_ <;> intro ht)))
      have h07 : Le hk h7 := c1.trans (hle6.trans hle7)
      have eA : (A ++ [z]).map Sb.a = A.map Sb.a ++ [z.a] := by rw [List.map_append]; rfl
      refine nx_round (i + 1, h7, (v9, A ++ [z]), zs.set K (.slice adM M.length capM, M), nx') ⟨by show i + 1 ≤ _; omega, by show i + 1 ≤ 24; omega, p3.trans h07, by show (A ++ [z]).length ≤ i + 1; simp; omega, fun x hx => ?_, (p6.mono h07).set S7, ?_, ?_, ?_⟩ (by show 24 - (i + 1) < 24 - i; omega) ts_ (fun _ s => ?_)
      · rcases List.mem_append.1 hx with hx | hx
        · exact (p5 x hx).mono h07
        · rw [List.mem_singleton.1 hx]; exact c2.mono (hle6.trans hle7)
      · dsimp only
        rw [eA]
        exact c5
      · dsimp only
        rw [eA, za_set, E7]
        exact PW
      · dsimp only
        rw [eA]
        exact BP.1.add (c := 1 + C) (by omega) (by omega) (by rw [c4]) (by rw [c4, hN']; exact Int.le_refl _)
      · have s2 := s.tl.tl
        dsimp only
        show St _ h7 [Res.row _ _ v9 (A ++ [z]).length ((A ++ [z]).flatMap sbc), _, _, _] _
        rw [List.length_append, List.flatMap_append, show [z].flatMap sbc = sbc z by simp]
        exact s2
  · --
    by_cases hi0 : i < l.length
    · have hi24 : ¬ i < 24 := fun hx => hil ⟨hi0, hx⟩
      repeat' (first | (refine ycf ?_; apply ybk; (· first | (first | exact tk_ | (apply yad (vs := zc zs); (· rfl); (· exact yaz 2 rfl); (· simp [zc, hz4])))); (· rfl); (· rfl)) | (refine ybg 3 rfl rfl rfl (zc_sz hz4) (zc_fit4 hz4) (zc_one p6) (ybh (zc_all hz4)) rfl rfl ?_ ?_ ?_; (· (exact to_)); (· (exact to_))) | refine t1_ ?_ | (refine ta_ ?_; intro _) | ((fail_if_success (refine ybi rfl ?_)); refine ybj rfl ?_ ?_ <;> (intro ht; rw [ht]; first | replace ht := of_decide_eq_true ht | replace ht := of_decide_eq_false ht | skip)) | (refine ych ?_; first | (refine ybw rfl ?_ ?_ <;> intro ht) | (refine ybx rfl ?_ ?_ <;> intro ht)))
      refine cx_region_draw' rfl (by kernel_rfl) ?_
      repeat' (refine ycf ?_;(first|(first|(apply ybm;(·(first|(first|exact tk_|(apply yad (vs := zc zs);(·rfl);(·exact yaz 2 rfl);(·simp [zc, hz4])))|exact tq_));(·rfl);(·rfl);(·(exact th_)))|refine ybl rfl rfl ?_|((fail_if_success (refine ybi rfl ?_));refine ybj rfl ?_ ?_<;>(intro ht;rw [ht];first|replace ht := of_decide_eq_true ht|replace ht := of_decide_eq_false ht|skip))|(refine tb_ ?_ ?_ ?_;(·(exact to_));(·intro _;(exact to_));intro _)|(first|(refine ybg 3 rfl rfl rfl (zc_sz hz4) (zc_fit4 hz4) (zc_one p6) (ybh (zc_all hz4)) rfl rfl ?_ ?_ ?_;(·(exact to_));(·(exact to_)))|(refine tqs_ ?_ ?_ ?_;(·(exact to_));(·(exact to_))))|(apply ybn;(·(first|(first|exact tk_|(apply yad (vs := zc zs);(·rfl);(·exact yaz 2 rfl);(·simp [zc, hz4])))|exact tq_));(·rfl);(·rfl);(·rfl);(·(exact to_))))|refine ycg ?_))
      repeat' (first | (refine ycf ?_; apply ybk; (· first | (first | exact tk_ | (apply yad (vs := zc zs); (· rfl); (· exact yaz 2 rfl); (· simp [zc, hz4])))); (· rfl); (· rfl)) | (refine ybg 3 rfl rfl rfl (zc_sz hz4) (zc_fit4 hz4) (zc_one p6) (ybh (zc_all hz4)) rfl rfl ?_ ?_ ?_; (· (exact to_)); (· (exact to_))) | refine t1_ ?_ | (refine ta_ ?_; intro _) | ((fail_if_success (refine ybi rfl ?_)); refine ybj rfl ?_ ?_ <;> (intro ht; rw [ht]; first | replace ht := of_decide_eq_true ht | replace ht := of_decide_eq_false ht | skip)) | (refine ych ?_; first | (refine ybw rfl ?_ ?_ <;> intro ht) | (refine ybx rfl ?_ ?_ <;> intro ht)))
      refine nx_ret2 rfl (rv_tmp rfl) (rv_cells (vs := zc zs) rfl (yaz 3 rfl) (by simp [zc, hz4])) (fun w' s' => ?_)
      obtain ⟨h2, hle2, hs2, s2⟩ := s'.rowPersistA (by intro x hx; cases hx)
      exact ⟨(h2, (vo, A), zs), rfl, s2.nil, ⟨hs2, fun z hz => (p5 z hz).mono hle2⟩, p6.mono hle2, by show A.length ≤ 24; omega, p7, p8⟩
    · repeat' (first | (refine ycf ?_; apply ybk; (· first | (first | exact tk_ | (apply yad (vs := zc zs); (· rfl); (· exact yaz 2 rfl); (· simp [zc, hz4])))); (· rfl); (· rfl)) | (refine ybg 3 rfl rfl rfl (zc_sz hz4) (zc_fit4 hz4) (zc_one p6) (ybh (zc_all hz4)) rfl rfl ?_ ?_ ?_; (· (exact to_)); (· (exact to_))) | refine t1_ ?_ | (refine ta_ ?_; intro _) | ((fail_if_success (refine ybi rfl ?_)); refine ybj rfl ?_ ?_ <;> (intro ht; rw [ht]; first | replace ht := of_decide_eq_true ht | replace ht := of_decide_eq_false ht | skip)) | (refine ych ?_; first | (refine ybw rfl ?_ ?_ <;> intro ht) | (refine ybx rfl ?_ ?_ <;> intro ht)))
      refine cx_region_draw' rfl (by kernel_rfl) ?_
      repeat' (refine ycf ?_;(first|(first|(apply ybm;(·(first|(first|exact tk_|(apply yad (vs := zc zs);(·rfl);(·exact yaz 2 rfl);(·simp [zc, hz4])))|exact tq_));(·rfl);(·rfl);(·(exact th_)))|refine ybl rfl rfl ?_|((fail_if_success (refine ybi rfl ?_));refine ybj rfl ?_ ?_<;>(intro ht;rw [ht];first|replace ht := of_decide_eq_true ht|replace ht := of_decide_eq_false ht|skip))|(refine tb_ ?_ ?_ ?_;(·(exact to_));(·intro _;(exact to_));intro _)|(first|(refine ybg 3 rfl rfl rfl (zc_sz hz4) (zc_fit4 hz4) (zc_one p6) (ybh (zc_all hz4)) rfl rfl ?_ ?_ ?_;(·(exact to_));(·(exact to_)))|(refine tqs_ ?_ ?_ ?_;(·(exact to_));(·(exact to_))))|(apply ybn;(·(first|(first|exact tk_|(apply yad (vs := zc zs);(·rfl);(·exact yaz 2 rfl);(·simp [zc, hz4])))|exact tq_));(·rfl);(·rfl);(·rfl);(·(exact to_))))|refine ycg ?_))
      repeat' (first | (refine ycf ?_; apply ybk; (· first | (first | exact tk_ | (apply yad (vs := zc zs); (· rfl); (· exact yaz 2 rfl); (· simp [zc, hz4])))); (· rfl); (· rfl)) | (refine ybg 3 rfl rfl rfl (zc_sz hz4) (zc_fit4 hz4) (zc_one p6) (ybh (zc_all hz4)) rfl rfl ?_ ?_ ?_; (· (exact to_)); (· (exact to_))) | refine t1_ ?_ | (refine ta_ ?_; intro _) | ((fail_if_success (refine ybi rfl ?_)); refine ybj rfl ?_ ?_ <;> (intro ht; rw [ht]; first | replace ht := of_decide_eq_true ht | replace ht := of_decide_eq_false ht | skip)) | (refine ych ?_; first | (refine ybw rfl ?_ ?_ <;> intro ht) | (refine ybx rfl ?_ ?_ <;> intro ht)))
      refine nx_ret2 rfl (rv_tmp rfl) (rv_cells (vs := zc zs) rfl (yaz 3 rfl) (by simp [zc, hz4])) (fun w' s' => ?_)
      obtain ⟨h2, hle2, hs2, s2⟩ := s'.rowPersistA (by intro x hx; cases hx)
      exact ⟨(h2, (vo, A), zs), rfl, s2.nil, ⟨hs2, fun z hz => (p5 z hz).mono hle2⟩, p6.mono hle2, by show A.length ≤ 24; omega, p7, p8⟩
end Go.Proofs.Ytkkjppeaaicgaaa
end

section
namespace Go.Proofs.Ytkkjppeaaicgaaa
open Go Go.Ck
set_option maxRecDepth 100000
set_option maxHeartbeats 1000000
set_option linter.unusedVariables false
section
variable {P : Program} {n : Nat} {F : List (Nat × Value)} {h : View} {L : List Res} {dst : Option Nat} {ty : Nat} {pos : String} {af : Array Edge} {gd : Option (Nat × Bool)}
/-- x[i:j] -/
theorem qv_slice_mid {T e k : Nat} {x y z : Operand} {ad : Option Addr} {len cap i jn : Nat} {j : Int} {ki kj : IntKind} [tu : TyU P T (.slice e)] [ts : TyS P e k] (hx : ev F x = some (.slice ad len cap)) (hy : ev F y = some (.int ki i)) (hz : ev F z = some (.int kj j)) (hj : j = (jn : Int)) (h1 : i ≤ jn) (h2 : jn ≤ cap) :
    QV P n F h L ⟨dst, .slice T x (some y) (some z) none, ty, pos, af, gd⟩ (.slice (cutF ad cap i k) (jn - i) (cap - i)) := .mk fun a w f s => by
  subst hj
  have h3 : (0 : Int) ≤ (i : Int) ∧ (i : Int) ≤ (jn : Int) := by omega
  have h4 : (0 : Int) ≤ (jn : Int) ∧ (jn : Int) ≤ (cap : Int) := by omega
  simp [execOp, f.ev hx, f.ev hy, f.ev hz, Instr.sliceAt, Instr.slice, Instr.sliceBounds, Instr.sliceBound, asIntOf, run_underlying tu.u, h3, h4, ts.s, cutF]
  rw [if_pos h2, if_pos h1]
end
theorem scTake {h : View} {k m cap j : Nat} {ad : Option Addr} {xs : List Value} (s : Sc h k (.slice ad m cap) m xs) (hj : j ≤ m) : Sc h k (.slice ad j cap) j (xs.take (j * k)) := by
  obtain ⟨q1, ad', cap', q2, q3, q4⟩ := s
  cases q2
  refine ⟨by rw [List.length_take, q1, Nat.min_eq_left (Nat.mul_le_mul_right k hj)], _, _, rfl, by omega, ?_⟩
  rcases q4 with q4 | ⟨b, o, cs, e, fz, h1, q6, q7⟩
  · exact .inl (by rw [q4]; simp)
  · refine .inr ⟨b, o, cs, e, fz, h1, q6, fun t u ht => ?_⟩
    rw [List.getElem?_take] at ht
    split at ht
    · exact q7 t u ht
    · cases ht
theorem flat20_take {l : List Sb} (k : Nat) : (l.flatMap sbc).take (k * 20) = (l.take k).flatMap sbc := by
  induction l generalizing k with
  | nil => simp
  | cons x l ih =>
    cases k with
    | zero => simp
    | succ k =>
      have : (k + 1) * 20 = (sbc x).length + k * 20 := by rw [sbc_len]; omega
      rw [this]
      simp only [List.flatMap_cons, List.take_succ_cons, List.take_length_add_append, ih]
theorem flat20_drop {l : List Sb} (k : Nat) : (l.flatMap sbc).drop (k * 20) = (l.drop k).flatMap sbc := by
  induction l generalizing k with
  | nil => simp
  | cons x l ih =>
    cases k with
    | zero => simp
    | succ k =>
      have : (k + 1) * 20 = (sbc x).length + k * 20 := by rw [sbc_len]; omega
      rw [this]
      simp only [List.flatMap_cons, List.drop_succ_cons, List.drop_length_add_append, ih]
theorem rs_take {h : View} {ad : Option Addr} {cap : Nat} {l : List Sb} (s : Rs h (.slice ad l.length cap) l) {j : Nat} (hj : j ≤ l.length) : Rs h (.slice ad j cap) (l.take j) := by
  refine ⟨?_, fun x hx => s.2 x (List.mem_of_mem_take hx)⟩
  have := scTake s.1 hj
  rw [flat20_take] at this
  rw [show (l.take j).length = j by simp; omega]
  exact this
theorem rs_drop {h : View} {ad : Option Addr} {cap : Nat} {l : List Sb} (s : Rs h (.slice ad l.length cap) l) {j : Nat} (hj : j ≤ l.length) : Rs h (.slice (cutF ad cap j 20) (l.length - j) (cap - j)) (l.drop j) := by
  refine ⟨?_, fun x hx => s.2 x (List.mem_of_mem_drop hx)⟩
  have := sc_drop s.1 (by omega) hj
  rw [flat20_drop] at this
  rw [List.length_drop]
  exact this
theorem rs_mid {h : View} {ad : Option Addr} {cap : Nat} {l : List Sb} (s : Rs h (.slice ad l.length cap) l) {i : Nat} (hi : i < l.length) : Rs h (.slice (cutF ad cap i 20) (i + 1 - i) (cap - i)) [l[i]] := by
  have h1 := rs_take s (j := i + 1) (by omega)
  have e1 : (l.take (i + 1)).length = i + 1 := by simp; omega
  have h2 := rs_drop (l := l.take (i + 1)) (cap := cap) (ad := ad) (by rw [e1]; exact h1) (j := i) (by rw [e1]; omega)
  rw [e1] at h2
  have e2 : (l.take (i + 1)).drop i = [l[i]] := by
    rw [List.take_succ_eq_append_getElem hi, List.drop_append_of_le_length (by simp; omega), List.drop_eq_nil_of_le (by simp; omega)]
    rfl
  rw [e2] at h2
  exact h2

theorem scm_take {h : View} {ad : Option Addr} {cap : Nat} {l : List Sb} (s : Rs h (.slice ad l.length cap) l) {j : Nat} (hj : j ≤ l.length) : Sc h 20 (.slice ad j cap) j ((l.take j).flatMap sbc) := by
  have := scTake s.1 hj
  rwa [flat20_take] at this
theorem scm_drop {h : View} {ad : Option Addr} {cap : Nat} {l : List Sb} (s : Rs h (.slice ad l.length cap) l) {j : Nat} (hj : j ≤ l.length) : Sc h 20 (.slice (cutF ad cap j 20) (l.length - j) (cap - j)) (l.length - j) ((l.drop j).flatMap sbc) := by
  have := sc_drop s.1 (by omega) hj
  rwa [flat20_drop] at this
/-- no one has seen it -/
def unseen (S : List Ab) (x : Ab) : Bool := S.all fun y => !hasA y x.1
def topS (S : List Ab) (i : Nat) : List Ab := (S.take i).filter (unseen S)
theorem topS_succ {S : List Ab} {i : Nat} {x : Ab} (hx : S[i]? = some x) : topS S (i + 1) = topS S i ++ if unseen S x then [x] else [] := by
  obtain ⟨hi, rfl⟩ := List.getElem?_eq_some_iff.1 hx
  unfold topS
  rw [List.take_succ_eq_append_getElem hi, List.filter_append]
  congr 1
  by_cases h : unseen S S[i] = true
  · rw [List.filter_cons_of_pos h, if_pos h]; rfl
  · rw [List.filter_cons_of_neg h, if_neg h]; rfl
theorem topS_sub {S : List Ab} {i : Nat} : ∀ x ∈ topS S i, x ∈ S := fun x hx => List.mem_of_mem_take (List.mem_filter.1 hx).1
theorem unseen_iff {S : List Ab} {x : Ab} : unseen S x = true ↔ ∀ y ∈ S, hasA y x.1 = false := by
  unfold unseen
  rw [List.all_eq_true]
  simp
theorem top_max {S M : List Ab} (m : IsMax (topS S S.length) M) : IsMax S M := ⟨m.st, fun x => by
  rw [m.mem x]
  unfold topS
  rw [List.take_length, List.mem_filter, unseen_iff]
  constructor
  · rintro ⟨⟨h1, h2⟩, _⟩
    exact ⟨h1, h2⟩
  · rintro ⟨h1, h2⟩
    exact ⟨⟨h1, h2⟩, fun y hy => h2 y (List.mem_filter.1 hy).1⟩⟩
/-- what is left, and what is there -/
structure Split (S D R : List Ab) : Prop where
  d : ∀ x ∈ D, x ∈ S
  r : ∀ x ∈ R, x ∈ S
  all : ∀ x ∈ S, x ∈ D ∨ x ∈ R
theorem Split.start {S : List Ab} : Split S [] S := ⟨fun x h => (by cases h), fun x h => h, fun x h => .inr h⟩
theorem Split.take {S D R : List Ab} (p : Split S D R) {k : Nat} (hk : k < R.length) : Split S (D ++ [R[k]]) (R.take k ++ R.drop (k + 1)) := ⟨fun x hx => by
  rcases List.mem_append.1 hx with hx | hx
  · exact p.d x hx
  · rw [List.mem_singleton.1 hx]; exact p.r _ (List.getElem_mem hk), fun x hx => by
  rcases List.mem_append.1 hx with hx | hx
  · exact p.r x (List.mem_of_mem_take hx)
  · exact p.r x (List.mem_of_mem_drop hx), fun x hx => by
  rcases p.all x hx with h | h
  · exact .inl (List.mem_append_left _ h)
  · obtain ⟨j, hj, rfl⟩ := List.mem_iff_getElem.1 h
    by_cases e : j = k
    · subst e; exact .inl (List.mem_append_right _ (List.mem_singleton.2 rfl))
    · right
      by_cases hlt : j < k
      · exact List.mem_append_left _ (List.mem_take_iff_getElem.2 ⟨j, by omega, rfl⟩)
      · refine List.mem_append_right _ (List.mem_drop_iff_getElem.2 ⟨j - (k + 1), by omega, ?_⟩)
        congr 1
        omega⟩
theorem Split.done {S D M : List Ab} (p : Split S D []) (m : IsMax D M) : IsMax S M := m.congr fun x => ⟨p.d x, fun h => (p.all x h).elim id fun q => by cases q⟩
/-- twice is as once -/
theorem max_twice {S D M : List Ab} (h : Hist S) (hD : ∀ x ∈ D, x ∈ S) (m : IsMax D M) {x : Ab} (hx : x ∈ S) : (mergeF M [x]).2 = 0 ∧ IsMax (D ++ [x]) (mergeF M [x]).1 ∧ (mergeF (mergeF M [x]).1 [x]).2 = 0 ∧ (mergeF (mergeF M [x]).1 [x]).1 = (mergeF M [x]).1 := by
  obtain ⟨a1, a2⟩ := m.merge1 h hD hx
  have hD2 : ∀ y ∈ D ++ [x], y ∈ S := fun y hy => by
    rcases List.mem_append.1 hy with hy | hy
    · exact hD y hy
    · rw [List.mem_singleton.1 hy]; exact hx
  obtain ⟨b1, b2⟩ := a2.merge1 h hD2 hx
  refine ⟨a1, a2, b1, b2.uniq a2 fun y => ?_⟩
  simp only [List.mem_append, List.mem_singleton, or_assoc, or_self]
end Go.Proofs.Ytkkjppeaaicgaaa
end
