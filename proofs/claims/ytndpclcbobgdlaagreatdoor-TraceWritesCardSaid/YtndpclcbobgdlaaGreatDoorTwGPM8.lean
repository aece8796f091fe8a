/-
  Part 8 of a proof: TwB.
  Conditions: each theorem states its own.
-/
import Derived.Test.YtndpclcbobgdlaaGreatDoorTwGPM7
set_option maxRecDepth 100000
set_option linter.unusedVariables false
set_option linter.unusedSimpArgs false
section
namespace Go.Proofs.YtndpclcbobgdlaaGreatDoor
open Go Go.Ck
set_option maxHeartbeats 4000000
abbrev srT (v : Value) (l : List Int) : Res := Res.srow 5 v l.length (bcs l)
theorem bstr_bcT {l : List Int} (hb : Bytes l) : ((bstr l).data.map fun b => Value.int .u8 b.toNat).toList = bcs l := by
  unfold bstr bcs
  simp only [Array.toList_map, List.map_map]
  refine List.map_congr_left fun x hx => ?_
  have := hb x hx
  show Value.int .u8 ((UInt8.ofNat x.toNat).toNat : Int) = _
  congr 1
  simp
  omega
theorem bytes_appT {a b : List Int} (ha : Bytes a) (hb : Bytes b) : Bytes (a ++ b) := fun x hx => (List.mem_append.1 hx).elim (ha x) (hb x)
theorem putLow_byU : ∀ (k : Nat) (x : Int), Bytes (putLow k x)
  | 0, x => fun b hb => by cases hb
  | k + 1, x => fun b hb => by
    rcases List.mem_cons.1 hb with rfl | hb
    · omega
    · exact putLow_byU k _ b hb
theorem putLow_byT (n : Nat) (x : Int) : Bytes (putLow n x).reverse := fun b hb => putLow_byU n x b (List.mem_reverse.1 hb)
theorem encF_by (l : List Bool) : Bytes (encF l) := fun x hx => by
  obtain ⟨b, _, hx⟩ := List.mem_flatMap.1 hx
  exact putLow_byT 1 _ x hx
theorem srT_app {K : Bs} {h : View} {v : Value} {A B : List Int} {L : List Res} {w : World} (s : St K h (Res.srow 5 v (A.length + B.length) (bcs A ++ bcs B) :: L) w) : St K h (srT v (A ++ B) :: L) w := by
  unfold srT
  rw [List.length_append, bcs_app]
  exact s
def hdT (a : Ta) : List Int := num1 a.kind ++ num1 a.client ++ num8 a.handle ++ num8 a.box ++ num8 a.k ++ (num4 a.name.length ++ a.name) ++ (num4 a.value.length ++ a.value) ++ num8 a.stay.length
theorem encT_hd (a : Ta) : encT a = hdT a ++ encF a.stay ++ (num4 a.raw.length ++ a.raw) := by
  unfold encT hdT
  simp only [List.append_assoc]
theorem hdT_by {a : Ta} (hn : Bytes a.name) (hv : Bytes a.value) : Bytes (hdT a) :=
  bytes_appT (bytes_appT (bytes_appT (bytes_appT (bytes_appT (bytes_appT (bytes_appT (putLow_byT 1 _) (putLow_byT 1 _)) (putLow_byT 8 _)) (putLow_byT 8 _)) (putLow_byT 8 _)) (bytes_appT (putLow_byT 4 _) hn)) (bytes_appT (putLow_byT 4 _) hv)) (putLow_byT 8 _)
theorem cellat_eqT {h : View} {L : List Res} {b i : Nat} {v u : Value} (c : CellAt h L b i v) (e : v = u) : CellAt h L b i u := e ▸ c
theorem Write34_sp (v : Value) (l : List Ts) (h : View) (hs : Rts h v l) (hn : l.length ≤ 1000) (hby : ∀ x ∈ l, Bytes x.a.name ∧ Bytes x.a.value ∧ Bytes x.a.raw) (hsz : ((l.map Ts.a).flatMap encT).length ≤ 900000) (w : World) (s : St ⟨w, h, []⟩ h [] w) :
    Calls Tryz.prog 6 [v].toArray w fun e w' => e = .returned (.tuple #[.string (bstr (if allR (l.map Ts.a) = true then encL (l.map Ts.a) else [])), .bool (allR (l.map Ts.a))]) ∧ St ⟨w, h, []⟩ h [] w' := by
  obtain ⟨_, ad, cap, rfl, _, _⟩ := id hs.1
  refine calls_enter Tryz.func6 rfl Tryz.ntmps6 rfl s ?_
  repeat' (first|(refine ycf ?_;apply ybk;(·first|(exact tk_));(·rfl);(·rfl))|refine t1_ ?_|(refine ta_ ?_;intro _)|((fail_if_success (refine ybi rfl ?_));refine ybj rfl ?_ ?_<;>(intro ht;rw [ht];first|replace ht := oet_ ht|replace ht := oef_ ht|skip))|(refine ych ?_;first|(refine ybw rfl ?_ ?_<;>intro ht)|(refine ybx rfl ?_ ?_<;>intro ht)))
  (refine ycn (ycp Tryz.func15 rfl (by kernel_rfl) rfl) (refNum_sp l.length (by omega) (by omega) h) rfl rfl rfl ?_ ?_; (· (exact to_)))
  have hb1 : Bytes (num8 (l.length : Int)) := putLow_byT 8 _
  refine rx_bytes_s rfl (bstr_bcT hb1) (by rw [bstr_size, num8_lenT]; unfold maxLen; omega) rfl rfl rfl ybf (fun _ => ybf) ?_
  intro v0
  rw [bcs_len]
  repeat' (first|(refine ycf ?_;apply ybk;(·first|(exact tk_));(·rfl);(·rfl))|refine t1_ ?_|(refine ta_ ?_;intro _)|((fail_if_success (refine ybi rfl ?_));refine ybj rfl ?_ ?_<;>(intro ht;rw [ht];first|replace ht := oet_ ht|replace ht := oef_ ht|skip))|(refine ych ?_;first|(refine ybw rfl ?_ ?_<;>intro ht)|(refine ybx rfl ?_ ?_<;>intro ht)))
  refine cx_loop (X := Nat × Value) (fun y => [(0, .slice ad l.length cap), (4, y.2), (5, .int .i64 (y.1 : Nat))]) (fun _ => h) (fun y => [srT y.2 (num8 l.length ++ ((l.map Ts.a).take y.1).flatMap encT)])
    (fun y => y.1 ≤ l.length ∧ allR ((l.map Ts.a).take y.1) = true) (fun y => l.length - y.1) (0, v0) ⟨Nat.zero_le _, rfl⟩ ts_ (fun _ s => ?_) ?_
  · dsimp only
    rw [List.take_zero, List.flatMap_nil, List.append_nil]
    exact s
  rintro ⟨k, y⟩ ⟨q1, q2⟩
  dsimp only at q1 q2 ⊢
  have hpl : (num8 l.length ++ ((l.map Ts.a).take k).flatMap encT).length ≤ 900008 := by
    have := twrite_len (l.map Ts.a) k
    rw [List.length_append, num8_lenT]
    omega
  by_cases hkl : k < l.length
  · obtain ⟨bs, o, rfl⟩ := hs.1.ad (by omega) (by omega)
    have hel : ∀ L, Cells h L ⟨bs, o + k * 9, none⟩ (rtc l[k]) := fun L => hs.1.elem rtc_len k hkl
    have hxm := List.getElem_mem hkl
    have vx := hs.2 _ hxm
    have yx := hby _ hxm
    have htk : (l.map Ts.a).take (k + 1) = (l.map Ts.a).take k ++ [l[k].a] := by
      rw [List.take_succ_eq_append_getElem (by rw [List.length_map]; exact hkl), List.getElem_map]
    have hall : allR ((l.map Ts.a).take (k + 1)) = decide (TaR l[k].a) := by
      unfold allR at q2 ⊢
      rw [htk, List.all_append, q2, Bool.true_and, List.all_cons, List.all_nil, Bool.and_true]
    have hbad : ¬ TaR l[k].a → allR (l.map Ts.a) = false := fun hb => by
      have h1 : (l.map Ts.a) = (l.map Ts.a).take (k + 1) ++ (l.map Ts.a).drop (k + 1) := (List.take_append_drop _ _).symm
      rw [h1]
      unfold allR at hall ⊢
      rw [List.all_append, hall, decide_eq_false hb, Bool.false_and]
    have hsl : (((l.map Ts.a).take k).flatMap encT).length + (encT (l[k].a)).length ≤ 900000 := by
      have h1 := twrite_len (l.map Ts.a) (k + 1)
      rw [htk, List.flatMap_append, List.length_append, List.flatMap_cons, List.flatMap_nil, List.append_nil] at h1
      omega
    generalize l[k] = x0 at hel hxm vx yx htk hall hbad hsl
    have R1 := Right34_sp x0 h vx
    have hone := vx.ones
    obtain ⟨_, ads, caps, hsv, _, _⟩ := id vx.s
    repeat' (first|(refine ycf ?_;apply ybk;(·first|(first|exact tk_|(apply yad;(·rfl);(·exact hel _);(·exact rtc_len x0))|(apply yad;(·rfl);(·exact yaz 0 rfl);(·exact rtc_len x0))));(·rfl);(·rfl))|(refine ybg 0 rfl rfl rfl rfl (Nat.le_of_ble_eq_true rfl) (List.all_eq_true.2 hone) (ybh rfl) rfl rfl ?_ ?_ ?_;(·(exact to_));(·(exact to_)))|refine t1_ ?_|(refine ta_ ?_;intro _)|((fail_if_success (refine ybi rfl ?_));refine ybj rfl ?_ ?_<;>(intro ht;rw [ht];first|replace ht := oet_ ht|replace ht := oef_ ht|skip))|(refine ych ?_;first|(refine ybw rfl ?_ ?_<;>intro ht)|(refine ybx rfl ?_ ?_<;>intro ht)))
    rename_i b6
    (refine ycn (ycp Tryz.func16 rfl (by kernel_rfl) rfl) (R1) rfl rfl rfl ?_ ?_; (· (exact to_)))
    by_cases hT : TaR x0.a
    · rw [decide_eq_true hT] at hall ⊢
      repeat' (first|(refine ycf ?_;apply ybk;(·first|(exact tk_));(·rfl);(·rfl))|refine t1_ ?_|(refine ta_ ?_;intro _)|((fail_if_success (refine ybi rfl ?_));refine ybj rfl ?_ ?_<;>(intro ht;rw [ht];first|replace ht := oet_ ht|replace ht := oef_ ht|skip))|(refine ych ?_;first|(refine ybw rfl ?_ ?_<;>intro ht)|(refine ybx rfl ?_ ?_<;>intro ht)))
      have hel6 : (encT x0.a).length = 46 + x0.a.name.length + x0.a.value.length + x0.a.stay.length + x0.a.raw.length := encT_len x0.a
      have hcat1 : bstr (num1 x0.a.kind) ++ bstr (num1 x0.a.client) = bstr (num1 x0.a.kind ++ num1 x0.a.client) := bstr_app _ _
      have hcat2 : bstr (num1 x0.a.kind ++ num1 x0.a.client) ++ bstr (num8 x0.a.handle) = bstr (num1 x0.a.kind ++ num1 x0.a.client ++ num8 x0.a.handle) := bstr_app _ _
      have hcat3 : bstr (num1 x0.a.kind ++ num1 x0.a.client ++ num8 x0.a.handle) ++ bstr (num8 x0.a.box) = bstr (num1 x0.a.kind ++ num1 x0.a.client ++ num8 x0.a.handle ++ num8 x0.a.box) := bstr_app _ _
      have hcat4 : bstr (num1 x0.a.kind ++ num1 x0.a.client ++ num8 x0.a.handle ++ num8 x0.a.box) ++ bstr (num8 x0.a.k) = bstr (num1 x0.a.kind ++ num1 x0.a.client ++ num8 x0.a.handle ++ num8 x0.a.box ++ num8 x0.a.k) := bstr_app _ _
      have hcat5 : bstr (num1 x0.a.kind ++ num1 x0.a.client ++ num8 x0.a.handle ++ num8 x0.a.box ++ num8 x0.a.k) ++ bstr (num4 x0.a.name.length ++ x0.a.name) = bstr (num1 x0.a.kind ++ num1 x0.a.client ++ num8 x0.a.handle ++ num8 x0.a.box ++ num8 x0.a.k ++ (num4 x0.a.name.length ++ x0.a.name)) := bstr_app _ _
      have hcat6 : bstr (num1 x0.a.kind ++ num1 x0.a.client ++ num8 x0.a.handle ++ num8 x0.a.box ++ num8 x0.a.k ++ (num4 x0.a.name.length ++ x0.a.name)) ++ bstr (num4 x0.a.value.length ++ x0.a.value) = bstr (num1 x0.a.kind ++ num1 x0.a.client ++ num8 x0.a.handle ++ num8 x0.a.box ++ num8 x0.a.k ++ (num4 x0.a.name.length ++ x0.a.name) ++ (num4 x0.a.value.length ++ x0.a.value)) := bstr_app _ _
      have hcat7 : bstr (num1 x0.a.kind ++ num1 x0.a.client ++ num8 x0.a.handle ++ num8 x0.a.box ++ num8 x0.a.k ++ (num4 x0.a.name.length ++ x0.a.name) ++ (num4 x0.a.value.length ++ x0.a.value)) ++ bstr (num8 x0.a.stay.length) = bstr (num1 x0.a.kind ++ num1 x0.a.client ++ num8 x0.a.handle ++ num8 x0.a.box ++ num8 x0.a.k ++ (num4 x0.a.name.length ++ x0.a.name) ++ (num4 x0.a.value.length ++ x0.a.value) ++ num8 x0.a.stay.length) := bstr_app _ _
      have hs1 : (bstr (num1 x0.a.kind)).size + (bstr (num1 x0.a.client)).size < 1000000 := by
        rw [bstr_size, bstr_size]
        simp only [List.length_append, num1_lenT, num8_lenT, num4_len]
        omega
      have hs2 : (bstr (num1 x0.a.kind ++ num1 x0.a.client)).size + (bstr (num8 x0.a.handle)).size < 1000000 := by
        rw [bstr_size, bstr_size]
        simp only [List.length_append, num1_lenT, num8_lenT, num4_len]
        omega
      have hs3 : (bstr (num1 x0.a.kind ++ num1 x0.a.client ++ num8 x0.a.handle)).size + (bstr (num8 x0.a.box)).size < 1000000 := by
        rw [bstr_size, bstr_size]
        simp only [List.length_append, num1_lenT, num8_lenT, num4_len]
        omega
      have hs4 : (bstr (num1 x0.a.kind ++ num1 x0.a.client ++ num8 x0.a.handle ++ num8 x0.a.box)).size + (bstr (num8 x0.a.k)).size < 1000000 := by
        rw [bstr_size, bstr_size]
        simp only [List.length_append, num1_lenT, num8_lenT, num4_len]
        omega
      have hs5 : (bstr (num1 x0.a.kind ++ num1 x0.a.client ++ num8 x0.a.handle ++ num8 x0.a.box ++ num8 x0.a.k)).size + (bstr (num4 x0.a.name.length ++ x0.a.name)).size < 1000000 := by
        rw [bstr_size, bstr_size]
        simp only [List.length_append, num1_lenT, num8_lenT, num4_len]
        omega
      have hs6 : (bstr (num1 x0.a.kind ++ num1 x0.a.client ++ num8 x0.a.handle ++ num8 x0.a.box ++ num8 x0.a.k ++ (num4 x0.a.name.length ++ x0.a.name))).size + (bstr (num4 x0.a.value.length ++ x0.a.value)).size < 1000000 := by
        rw [bstr_size, bstr_size]
        simp only [List.length_append, num1_lenT, num8_lenT, num4_len]
        omega
      have hs7 : (bstr (num1 x0.a.kind ++ num1 x0.a.client ++ num8 x0.a.handle ++ num8 x0.a.box ++ num8 x0.a.k ++ (num4 x0.a.name.length ++ x0.a.name) ++ (num4 x0.a.value.length ++ x0.a.value))).size + (bstr (num8 x0.a.stay.length)).size < 1000000 := by
        rw [bstr_size, bstr_size]
        simp only [List.length_append, num1_lenT, num8_lenT, num4_len]
        omega
      have B1 := rBytes_sp x0.a.name (by omega) h
      have B2 := rBytes_sp x0.a.value (by omega) h
      have hT2 := hT
      obtain ⟨t1, t2, t3, t4, t5, t6, t7, t8, t9⟩ := hT2
      refine cx_region_drawT [Res.blk b6 (.cells (rtc x0).toArray 36 (0, 0))] [3, 6, 10, 14, 18, 22, 26, 31, 33, 34] rfl (by kernel_rfl) ?_
      repeat' (refine ycf ?_;(first|(first|(apply ybm;(·(first|(first|exact tk_|(exact yaq rfl)|(refine qv_str_add rfl rfl hcat1 hs1)|(refine qv_str_add rfl rfl hcat2 hs2)|(refine qv_str_add rfl rfl hcat3 hs3)|(refine qv_str_add rfl rfl hcat4 hs4)|(refine qv_str_add rfl rfl hcat5 hs5)|(refine qv_str_add rfl rfl hcat6 hs6)|(refine qv_str_add rfl rfl hcat7 hs7))|(apply yae;(·rfl);(·(first|exact (yaz 0 rfl).cell (j := 0) rfl|exact (yaz 0 rfl).cell (j := 1) rfl|exact (yaz 0 rfl).cell (j := 2) rfl|exact (yaz 0 rfl).cell (j := 3) rfl|exact (yaz 0 rfl).cell (j := 4) rfl|exact cellat_eqT ((yaz 0 rfl).cell (j := 5) rfl) vx.n|exact cellat_eqT ((yaz 0 rfl).cell (j := 6) rfl) vx.v|exact cellat_eqT ((yaz 0 rfl).cell (j := 7) rfl) hsv)))|exact tq_));(·rfl);(·rfl);(·(exact hd_at3 0 rfl)))|refine ybl rfl rfl ?_|((fail_if_success (refine ybi rfl ?_));refine ybj rfl ?_ ?_<;>(intro ht;rw [ht];first|replace ht := oet_ ht|replace ht := oef_ ht|skip))|(refine tb_ ?_ ?_ ?_;(·(first|exact ybf|(refine .inl ?_;(exact hd_at3 0 rfl))|exact to_));(·intro _;(first|exact ybf|(refine .inl ?_;(exact hd_at3 0 rfl))|exact to_));intro _)|(first|(refine tqs_ ?_ ?_ ?_;(·(first|exact ybf|(refine .inl ?_;(exact hd_at3 0 rfl))|exact to_));(·(first|exact ybf|(refine .inl ?_;(exact hd_at3 0 rfl))|exact to_))))|(apply ybn;(·(first|(first|exact tk_|(exact yaq rfl)|(refine qv_str_add rfl rfl hcat1 hs1)|(refine qv_str_add rfl rfl hcat2 hs2)|(refine qv_str_add rfl rfl hcat3 hs3)|(refine qv_str_add rfl rfl hcat4 hs4)|(refine qv_str_add rfl rfl hcat5 hs5)|(refine qv_str_add rfl rfl hcat6 hs6)|(refine qv_str_add rfl rfl hcat7 hs7))|(apply yae;(·rfl);(·(first|exact (yaz 0 rfl).cell (j := 0) rfl|exact (yaz 0 rfl).cell (j := 1) rfl|exact (yaz 0 rfl).cell (j := 2) rfl|exact (yaz 0 rfl).cell (j := 3) rfl|exact (yaz 0 rfl).cell (j := 4) rfl|exact cellat_eqT ((yaz 0 rfl).cell (j := 5) rfl) vx.n|exact cellat_eqT ((yaz 0 rfl).cell (j := 6) rfl) vx.v|exact cellat_eqT ((yaz 0 rfl).cell (j := 7) rfl) hsv)))|exact tq_));(·rfl);(·rfl);(·rfl);(·(first|exact ybf|(refine .inl ?_;(exact hd_at3 0 rfl))|exact to_))))|refine ycg ?_))
      (refine ycn (ycp Tryz.func17 rfl (by kernel_rfl) rfl) (refSmall_sp x0.a.kind (by omega) (by omega) h) rfl rfl rfl ?_ ?_;(·(first|exact ybf|(refine .inl ?_;(exact hd_at3 0 rfl))|exact to_)))
      repeat' (refine ycf ?_;(first|(first|(apply ybm;(·(first|(first|exact tk_|(exact yaq rfl)|(refine qv_str_add rfl rfl hcat1 hs1)|(refine qv_str_add rfl rfl hcat2 hs2)|(refine qv_str_add rfl rfl hcat3 hs3)|(refine qv_str_add rfl rfl hcat4 hs4)|(refine qv_str_add rfl rfl hcat5 hs5)|(refine qv_str_add rfl rfl hcat6 hs6)|(refine qv_str_add rfl rfl hcat7 hs7))|(apply yae;(·rfl);(·(first|exact (yaz 0 rfl).cell (j := 0) rfl|exact (yaz 0 rfl).cell (j := 1) rfl|exact (yaz 0 rfl).cell (j := 2) rfl|exact (yaz 0 rfl).cell (j := 3) rfl|exact (yaz 0 rfl).cell (j := 4) rfl|exact cellat_eqT ((yaz 0 rfl).cell (j := 5) rfl) vx.n|exact cellat_eqT ((yaz 0 rfl).cell (j := 6) rfl) vx.v|exact cellat_eqT ((yaz 0 rfl).cell (j := 7) rfl) hsv)))|exact tq_));(·rfl);(·rfl);(·(exact hd_at3 0 rfl)))|refine ybl rfl rfl ?_|((fail_if_success (refine ybi rfl ?_));refine ybj rfl ?_ ?_<;>(intro ht;rw [ht];first|replace ht := oet_ ht|replace ht := oef_ ht|skip))|(refine tb_ ?_ ?_ ?_;(·(first|exact ybf|(refine .inl ?_;(exact hd_at3 0 rfl))|exact to_));(·intro _;(first|exact ybf|(refine .inl ?_;(exact hd_at3 0 rfl))|exact to_));intro _)|(first|(refine tqs_ ?_ ?_ ?_;(·(first|exact ybf|(refine .inl ?_;(exact hd_at3 0 rfl))|exact to_));(·(first|exact ybf|(refine .inl ?_;(exact hd_at3 0 rfl))|exact to_))))|(apply ybn;(·(first|(first|exact tk_|(exact yaq rfl)|(refine qv_str_add rfl rfl hcat1 hs1)|(refine qv_str_add rfl rfl hcat2 hs2)|(refine qv_str_add rfl rfl hcat3 hs3)|(refine qv_str_add rfl rfl hcat4 hs4)|(refine qv_str_add rfl rfl hcat5 hs5)|(refine qv_str_add rfl rfl hcat6 hs6)|(refine qv_str_add rfl rfl hcat7 hs7))|(apply yae;(·rfl);(·(first|exact (yaz 0 rfl).cell (j := 0) rfl|exact (yaz 0 rfl).cell (j := 1) rfl|exact (yaz 0 rfl).cell (j := 2) rfl|exact (yaz 0 rfl).cell (j := 3) rfl|exact (yaz 0 rfl).cell (j := 4) rfl|exact cellat_eqT ((yaz 0 rfl).cell (j := 5) rfl) vx.n|exact cellat_eqT ((yaz 0 rfl).cell (j := 6) rfl) vx.v|exact cellat_eqT ((yaz 0 rfl).cell (j := 7) rfl) hsv)))|exact tq_));(·rfl);(·rfl);(·rfl);(·(first|exact ybf|(refine .inl ?_;(exact hd_at3 0 rfl))|exact to_))))|refine ycg ?_))
      (refine ycn (ycp Tryz.func17 rfl (by kernel_rfl) rfl) (refSmall_sp x0.a.client (by omega) (by omega) h) rfl rfl rfl ?_ ?_;(·(first|exact ybf|(refine .inl ?_;(exact hd_at3 0 rfl))|exact to_)))
      repeat' (refine ycf ?_;(first|(first|(apply ybm;(·(first|(first|exact tk_|(exact yaq rfl)|(refine qv_str_add rfl rfl hcat1 hs1)|(refine qv_str_add rfl rfl hcat2 hs2)|(refine qv_str_add rfl rfl hcat3 hs3)|(refine qv_str_add rfl rfl hcat4 hs4)|(refine qv_str_add rfl rfl hcat5 hs5)|(refine qv_str_add rfl rfl hcat6 hs6)|(refine qv_str_add rfl rfl hcat7 hs7))|(apply yae;(·rfl);(·(first|exact (yaz 0 rfl).cell (j := 0) rfl|exact (yaz 0 rfl).cell (j := 1) rfl|exact (yaz 0 rfl).cell (j := 2) rfl|exact (yaz 0 rfl).cell (j := 3) rfl|exact (yaz 0 rfl).cell (j := 4) rfl|exact cellat_eqT ((yaz 0 rfl).cell (j := 5) rfl) vx.n|exact cellat_eqT ((yaz 0 rfl).cell (j := 6) rfl) vx.v|exact cellat_eqT ((yaz 0 rfl).cell (j := 7) rfl) hsv)))|exact tq_));(·rfl);(·rfl);(·(exact hd_at3 0 rfl)))|refine ybl rfl rfl ?_|((fail_if_success (refine ybi rfl ?_));refine ybj rfl ?_ ?_<;>(intro ht;rw [ht];first|replace ht := oet_ ht|replace ht := oef_ ht|skip))|(refine tb_ ?_ ?_ ?_;(·(first|exact ybf|(refine .inl ?_;(exact hd_at3 0 rfl))|exact to_));(·intro _;(first|exact ybf|(refine .inl ?_;(exact hd_at3 0 rfl))|exact to_));intro _)|(first|(refine tqs_ ?_ ?_ ?_;(·(first|exact ybf|(refine .inl ?_;(exact hd_at3 0 rfl))|exact to_));(·(first|exact ybf|(refine .inl ?_;(exact hd_at3 0 rfl))|exact to_))))|(apply ybn;(·(first|(first|exact tk_|(exact yaq rfl)|(refine qv_str_add rfl rfl hcat1 hs1)|(refine qv_str_add rfl rfl hcat2 hs2)|(refine qv_str_add rfl rfl hcat3 hs3)|(refine qv_str_add rfl rfl hcat4 hs4)|(refine qv_str_add rfl rfl hcat5 hs5)|(refine qv_str_add rfl rfl hcat6 hs6)|(refine qv_str_add rfl rfl hcat7 hs7))|(apply yae;(·rfl);(·(first|exact (yaz 0 rfl).cell (j := 0) rfl|exact (yaz 0 rfl).cell (j := 1) rfl|exact (yaz 0 rfl).cell (j := 2) rfl|exact (yaz 0 rfl).cell (j := 3) rfl|exact (yaz 0 rfl).cell (j := 4) rfl|exact cellat_eqT ((yaz 0 rfl).cell (j := 5) rfl) vx.n|exact cellat_eqT ((yaz 0 rfl).cell (j := 6) rfl) vx.v|exact cellat_eqT ((yaz 0 rfl).cell (j := 7) rfl) hsv)))|exact tq_));(·rfl);(·rfl);(·rfl);(·(first|exact ybf|(refine .inl ?_;(exact hd_at3 0 rfl))|exact to_))))|refine ycg ?_))
      (refine ycn (ycp Tryz.func15 rfl (by kernel_rfl) rfl) (refNum_sp x0.a.handle (by omega) (by omega) h) rfl rfl rfl ?_ ?_;(·(first|exact ybf|(refine .inl ?_;(exact hd_at3 0 rfl))|exact to_)))
      repeat' (refine ycf ?_;(first|(first|(apply ybm;(·(first|(first|exact tk_|(exact yaq rfl)|(refine qv_str_add rfl rfl hcat1 hs1)|(refine qv_str_add rfl rfl hcat2 hs2)|(refine qv_str_add rfl rfl hcat3 hs3)|(refine qv_str_add rfl rfl hcat4 hs4)|(refine qv_str_add rfl rfl hcat5 hs5)|(refine qv_str_add rfl rfl hcat6 hs6)|(refine qv_str_add rfl rfl hcat7 hs7))|(apply yae;(·rfl);(·(first|exact (yaz 0 rfl).cell (j := 0) rfl|exact (yaz 0 rfl).cell (j := 1) rfl|exact (yaz 0 rfl).cell (j := 2) rfl|exact (yaz 0 rfl).cell (j := 3) rfl|exact (yaz 0 rfl).cell (j := 4) rfl|exact cellat_eqT ((yaz 0 rfl).cell (j := 5) rfl) vx.n|exact cellat_eqT ((yaz 0 rfl).cell (j := 6) rfl) vx.v|exact cellat_eqT ((yaz 0 rfl).cell (j := 7) rfl) hsv)))|exact tq_));(·rfl);(·rfl);(·(exact hd_at3 0 rfl)))|refine ybl rfl rfl ?_|((fail_if_success (refine ybi rfl ?_));refine ybj rfl ?_ ?_<;>(intro ht;rw [ht];first|replace ht := oet_ ht|replace ht := oef_ ht|skip))|(refine tb_ ?_ ?_ ?_;(·(first|exact ybf|(refine .inl ?_;(exact hd_at3 0 rfl))|exact to_));(·intro _;(first|exact ybf|(refine .inl ?_;(exact hd_at3 0 rfl))|exact to_));intro _)|(first|(refine tqs_ ?_ ?_ ?_;(·(first|exact ybf|(refine .inl ?_;(exact hd_at3 0 rfl))|exact to_));(·(first|exact ybf|(refine .inl ?_;(exact hd_at3 0 rfl))|exact to_))))|(apply ybn;(·(first|(first|exact tk_|(exact yaq rfl)|(refine qv_str_add rfl rfl hcat1 hs1)|(refine qv_str_add rfl rfl hcat2 hs2)|(refine qv_str_add rfl rfl hcat3 hs3)|(refine qv_str_add rfl rfl hcat4 hs4)|(refine qv_str_add rfl rfl hcat5 hs5)|(refine qv_str_add rfl rfl hcat6 hs6)|(refine qv_str_add rfl rfl hcat7 hs7))|(apply yae;(·rfl);(·(first|exact (yaz 0 rfl).cell (j := 0) rfl|exact (yaz 0 rfl).cell (j := 1) rfl|exact (yaz 0 rfl).cell (j := 2) rfl|exact (yaz 0 rfl).cell (j := 3) rfl|exact (yaz 0 rfl).cell (j := 4) rfl|exact cellat_eqT ((yaz 0 rfl).cell (j := 5) rfl) vx.n|exact cellat_eqT ((yaz 0 rfl).cell (j := 6) rfl) vx.v|exact cellat_eqT ((yaz 0 rfl).cell (j := 7) rfl) hsv)))|exact tq_));(·rfl);(·rfl);(·rfl);(·(first|exact ybf|(refine .inl ?_;(exact hd_at3 0 rfl))|exact to_))))|refine ycg ?_))
      (refine ycn (ycp Tryz.func15 rfl (by kernel_rfl) rfl) (refNum_sp x0.a.box (by omega) (by omega) h) rfl rfl rfl ?_ ?_;(·(first|exact ybf|(refine .inl ?_;(exact hd_at3 0 rfl))|exact to_)))
      repeat' (refine ycf ?_;(first|(first|(apply ybm;(·(first|(first|exact tk_|(exact yaq rfl)|(refine qv_str_add rfl rfl hcat1 hs1)|(refine qv_str_add rfl rfl hcat2 hs2)|(refine qv_str_add rfl rfl hcat3 hs3)|(refine qv_str_add rfl rfl hcat4 hs4)|(refine qv_str_add rfl rfl hcat5 hs5)|(refine qv_str_add rfl rfl hcat6 hs6)|(refine qv_str_add rfl rfl hcat7 hs7))|(apply yae;(·rfl);(·(first|exact (yaz 0 rfl).cell (j := 0) rfl|exact (yaz 0 rfl).cell (j := 1) rfl|exact (yaz 0 rfl).cell (j := 2) rfl|exact (yaz 0 rfl).cell (j := 3) rfl|exact (yaz 0 rfl).cell (j := 4) rfl|exact cellat_eqT ((yaz 0 rfl).cell (j := 5) rfl) vx.n|exact cellat_eqT ((yaz 0 rfl).cell (j := 6) rfl) vx.v|exact cellat_eqT ((yaz 0 rfl).cell (j := 7) rfl) hsv)))|exact tq_));(·rfl);(·rfl);(·(exact hd_at3 0 rfl)))|refine ybl rfl rfl ?_|((fail_if_success (refine ybi rfl ?_));refine ybj rfl ?_ ?_<;>(intro ht;rw [ht];first|replace ht := oet_ ht|replace ht := oef_ ht|skip))|(refine tb_ ?_ ?_ ?_;(·(first|exact ybf|(refine .inl ?_;(exact hd_at3 0 rfl))|exact to_));(·intro _;(first|exact ybf|(refine .inl ?_;(exact hd_at3 0 rfl))|exact to_));intro _)|(first|(refine tqs_ ?_ ?_ ?_;(·(first|exact ybf|(refine .inl ?_;(exact hd_at3 0 rfl))|exact to_));(·(first|exact ybf|(refine .inl ?_;(exact hd_at3 0 rfl))|exact to_))))|(apply ybn;(·(first|(first|exact tk_|(exact yaq rfl)|(refine qv_str_add rfl rfl hcat1 hs1)|(refine qv_str_add rfl rfl hcat2 hs2)|(refine qv_str_add rfl rfl hcat3 hs3)|(refine qv_str_add rfl rfl hcat4 hs4)|(refine qv_str_add rfl rfl hcat5 hs5)|(refine qv_str_add rfl rfl hcat6 hs6)|(refine qv_str_add rfl rfl hcat7 hs7))|(apply yae;(·rfl);(·(first|exact (yaz 0 rfl).cell (j := 0) rfl|exact (yaz 0 rfl).cell (j := 1) rfl|exact (yaz 0 rfl).cell (j := 2) rfl|exact (yaz 0 rfl).cell (j := 3) rfl|exact (yaz 0 rfl).cell (j := 4) rfl|exact cellat_eqT ((yaz 0 rfl).cell (j := 5) rfl) vx.n|exact cellat_eqT ((yaz 0 rfl).cell (j := 6) rfl) vx.v|exact cellat_eqT ((yaz 0 rfl).cell (j := 7) rfl) hsv)))|exact tq_));(·rfl);(·rfl);(·rfl);(·(first|exact ybf|(refine .inl ?_;(exact hd_at3 0 rfl))|exact to_))))|refine ycg ?_))
      (refine ycn (ycp Tryz.func15 rfl (by kernel_rfl) rfl) (refNum_sp x0.a.k (by omega) (by omega) h) rfl rfl rfl ?_ ?_;(·(first|exact ybf|(refine .inl ?_;(exact hd_at3 0 rfl))|exact to_)))
      repeat' (refine ycf ?_;(first|(first|(apply ybm;(·(first|(first|exact tk_|(exact yaq rfl)|(refine qv_str_add rfl rfl hcat1 hs1)|(refine qv_str_add rfl rfl hcat2 hs2)|(refine qv_str_add rfl rfl hcat3 hs3)|(refine qv_str_add rfl rfl hcat4 hs4)|(refine qv_str_add rfl rfl hcat5 hs5)|(refine qv_str_add rfl rfl hcat6 hs6)|(refine qv_str_add rfl rfl hcat7 hs7))|(apply yae;(·rfl);(·(first|exact (yaz 0 rfl).cell (j := 0) rfl|exact (yaz 0 rfl).cell (j := 1) rfl|exact (yaz 0 rfl).cell (j := 2) rfl|exact (yaz 0 rfl).cell (j := 3) rfl|exact (yaz 0 rfl).cell (j := 4) rfl|exact cellat_eqT ((yaz 0 rfl).cell (j := 5) rfl) vx.n|exact cellat_eqT ((yaz 0 rfl).cell (j := 6) rfl) vx.v|exact cellat_eqT ((yaz 0 rfl).cell (j := 7) rfl) hsv)))|exact tq_));(·rfl);(·rfl);(·(exact hd_at3 0 rfl)))|refine ybl rfl rfl ?_|((fail_if_success (refine ybi rfl ?_));refine ybj rfl ?_ ?_<;>(intro ht;rw [ht];first|replace ht := oet_ ht|replace ht := oef_ ht|skip))|(refine tb_ ?_ ?_ ?_;(·(first|exact ybf|(refine .inl ?_;(exact hd_at3 0 rfl))|exact to_));(·intro _;(first|exact ybf|(refine .inl ?_;(exact hd_at3 0 rfl))|exact to_));intro _)|(first|(refine tqs_ ?_ ?_ ?_;(·(first|exact ybf|(refine .inl ?_;(exact hd_at3 0 rfl))|exact to_));(·(first|exact ybf|(refine .inl ?_;(exact hd_at3 0 rfl))|exact to_))))|(apply ybn;(·(first|(first|exact tk_|(exact yaq rfl)|(refine qv_str_add rfl rfl hcat1 hs1)|(refine qv_str_add rfl rfl hcat2 hs2)|(refine qv_str_add rfl rfl hcat3 hs3)|(refine qv_str_add rfl rfl hcat4 hs4)|(refine qv_str_add rfl rfl hcat5 hs5)|(refine qv_str_add rfl rfl hcat6 hs6)|(refine qv_str_add rfl rfl hcat7 hs7))|(apply yae;(·rfl);(·(first|exact (yaz 0 rfl).cell (j := 0) rfl|exact (yaz 0 rfl).cell (j := 1) rfl|exact (yaz 0 rfl).cell (j := 2) rfl|exact (yaz 0 rfl).cell (j := 3) rfl|exact (yaz 0 rfl).cell (j := 4) rfl|exact cellat_eqT ((yaz 0 rfl).cell (j := 5) rfl) vx.n|exact cellat_eqT ((yaz 0 rfl).cell (j := 6) rfl) vx.v|exact cellat_eqT ((yaz 0 rfl).cell (j := 7) rfl) hsv)))|exact tq_));(·rfl);(·rfl);(·rfl);(·(first|exact ybf|(refine .inl ?_;(exact hd_at3 0 rfl))|exact to_))))|refine ycg ?_))
      (refine ycn (ycp Tryz.func18 rfl (by kernel_rfl) rfl) (B1) rfl rfl rfl ?_ ?_;(·(first|exact ybf|(refine .inl ?_;(exact hd_at3 0 rfl))|exact to_)))
      repeat' (refine ycf ?_;(first|(first|(apply ybm;(·(first|(first|exact tk_|(exact yaq rfl)|(refine qv_str_add rfl rfl hcat1 hs1)|(refine qv_str_add rfl rfl hcat2 hs2)|(refine qv_str_add rfl rfl hcat3 hs3)|(refine qv_str_add rfl rfl hcat4 hs4)|(refine qv_str_add rfl rfl hcat5 hs5)|(refine qv_str_add rfl rfl hcat6 hs6)|(refine qv_str_add rfl rfl hcat7 hs7))|(apply yae;(·rfl);(·(first|exact (yaz 0 rfl).cell (j := 0) rfl|exact (yaz 0 rfl).cell (j := 1) rfl|exact (yaz 0 rfl).cell (j := 2) rfl|exact (yaz 0 rfl).cell (j := 3) rfl|exact (yaz 0 rfl).cell (j := 4) rfl|exact cellat_eqT ((yaz 0 rfl).cell (j := 5) rfl) vx.n|exact cellat_eqT ((yaz 0 rfl).cell (j := 6) rfl) vx.v|exact cellat_eqT ((yaz 0 rfl).cell (j := 7) rfl) hsv)))|exact tq_));(·rfl);(·rfl);(·(exact hd_at3 0 rfl)))|refine ybl rfl rfl ?_|((fail_if_success (refine ybi rfl ?_));refine ybj rfl ?_ ?_<;>(intro ht;rw [ht];first|replace ht := oet_ ht|replace ht := oef_ ht|skip))|(refine tb_ ?_ ?_ ?_;(·(first|exact ybf|(refine .inl ?_;(exact hd_at3 0 rfl))|exact to_));(·intro _;(first|exact ybf|(refine .inl ?_;(exact hd_at3 0 rfl))|exact to_));intro _)|(first|(refine tqs_ ?_ ?_ ?_;(·(first|exact ybf|(refine .inl ?_;(exact hd_at3 0 rfl))|exact to_));(·(first|exact ybf|(refine .inl ?_;(exact hd_at3 0 rfl))|exact to_))))|(apply ybn;(·(first|(first|exact tk_|(exact yaq rfl)|(refine qv_str_add rfl rfl hcat1 hs1)|(refine qv_str_add rfl rfl hcat2 hs2)|(refine qv_str_add rfl rfl hcat3 hs3)|(refine qv_str_add rfl rfl hcat4 hs4)|(refine qv_str_add rfl rfl hcat5 hs5)|(refine qv_str_add rfl rfl hcat6 hs6)|(refine qv_str_add rfl rfl hcat7 hs7))|(apply yae;(·rfl);(·(first|exact (yaz 0 rfl).cell (j := 0) rfl|exact (yaz 0 rfl).cell (j := 1) rfl|exact (yaz 0 rfl).cell (j := 2) rfl|exact (yaz 0 rfl).cell (j := 3) rfl|exact (yaz 0 rfl).cell (j := 4) rfl|exact cellat_eqT ((yaz 0 rfl).cell (j := 5) rfl) vx.n|exact cellat_eqT ((yaz 0 rfl).cell (j := 6) rfl) vx.v|exact cellat_eqT ((yaz 0 rfl).cell (j := 7) rfl) hsv)))|exact tq_));(·rfl);(·rfl);(·rfl);(·(first|exact ybf|(refine .inl ?_;(exact hd_at3 0 rfl))|exact to_))))|refine ycg ?_))
      (refine ycn (ycp Tryz.func18 rfl (by kernel_rfl) rfl) (B2) rfl rfl rfl ?_ ?_;(·(first|exact ybf|(refine .inl ?_;(exact hd_at3 0 rfl))|exact to_)))
      repeat' (refine ycf ?_;(first|(first|(apply ybm;(·(first|(first|exact tk_|(exact yaq rfl)|(refine qv_str_add rfl rfl hcat1 hs1)|(refine qv_str_add rfl rfl hcat2 hs2)|(refine qv_str_add rfl rfl hcat3 hs3)|(refine qv_str_add rfl rfl hcat4 hs4)|(refine qv_str_add rfl rfl hcat5 hs5)|(refine qv_str_add rfl rfl hcat6 hs6)|(refine qv_str_add rfl rfl hcat7 hs7))|(apply yae;(·rfl);(·(first|exact (yaz 0 rfl).cell (j := 0) rfl|exact (yaz 0 rfl).cell (j := 1) rfl|exact (yaz 0 rfl).cell (j := 2) rfl|exact (yaz 0 rfl).cell (j := 3) rfl|exact (yaz 0 rfl).cell (j := 4) rfl|exact cellat_eqT ((yaz 0 rfl).cell (j := 5) rfl) vx.n|exact cellat_eqT ((yaz 0 rfl).cell (j := 6) rfl) vx.v|exact cellat_eqT ((yaz 0 rfl).cell (j := 7) rfl) hsv)))|exact tq_));(·rfl);(·rfl);(·(exact hd_at3 0 rfl)))|refine ybl rfl rfl ?_|((fail_if_success (refine ybi rfl ?_));refine ybj rfl ?_ ?_<;>(intro ht;rw [ht];first|replace ht := oet_ ht|replace ht := oef_ ht|skip))|(refine tb_ ?_ ?_ ?_;(·(first|exact ybf|(refine .inl ?_;(exact hd_at3 0 rfl))|exact to_));(·intro _;(first|exact ybf|(refine .inl ?_;(exact hd_at3 0 rfl))|exact to_));intro _)|(first|(refine tqs_ ?_ ?_ ?_;(·(first|exact ybf|(refine .inl ?_;(exact hd_at3 0 rfl))|exact to_));(·(first|exact ybf|(refine .inl ?_;(exact hd_at3 0 rfl))|exact to_))))|(apply ybn;(·(first|(first|exact tk_|(exact yaq rfl)|(refine qv_str_add rfl rfl hcat1 hs1)|(refine qv_str_add rfl rfl hcat2 hs2)|(refine qv_str_add rfl rfl hcat3 hs3)|(refine qv_str_add rfl rfl hcat4 hs4)|(refine qv_str_add rfl rfl hcat5 hs5)|(refine qv_str_add rfl rfl hcat6 hs6)|(refine qv_str_add rfl rfl hcat7 hs7))|(apply yae;(·rfl);(·(first|exact (yaz 0 rfl).cell (j := 0) rfl|exact (yaz 0 rfl).cell (j := 1) rfl|exact (yaz 0 rfl).cell (j := 2) rfl|exact (yaz 0 rfl).cell (j := 3) rfl|exact (yaz 0 rfl).cell (j := 4) rfl|exact cellat_eqT ((yaz 0 rfl).cell (j := 5) rfl) vx.n|exact cellat_eqT ((yaz 0 rfl).cell (j := 6) rfl) vx.v|exact cellat_eqT ((yaz 0 rfl).cell (j := 7) rfl) hsv)))|exact tq_));(·rfl);(·rfl);(·rfl);(·(first|exact ybf|(refine .inl ?_;(exact hd_at3 0 rfl))|exact to_))))|refine ycg ?_))
      (refine ycn (ycp Tryz.func15 rfl (by kernel_rfl) rfl) (refNum_sp x0.a.stay.length (by omega) (by omega) h) rfl rfl rfl ?_ ?_;(·(first|exact ybf|(refine .inl ?_;(exact hd_at3 0 rfl))|exact to_)))
      repeat' (refine ycf ?_;(first|(first|(apply ybm;(·(first|(first|exact tk_|(exact yaq rfl)|(refine qv_str_add rfl rfl hcat1 hs1)|(refine qv_str_add rfl rfl hcat2 hs2)|(refine qv_str_add rfl rfl hcat3 hs3)|(refine qv_str_add rfl rfl hcat4 hs4)|(refine qv_str_add rfl rfl hcat5 hs5)|(refine qv_str_add rfl rfl hcat6 hs6)|(refine qv_str_add rfl rfl hcat7 hs7))|(apply yae;(·rfl);(·(first|exact (yaz 0 rfl).cell (j := 0) rfl|exact (yaz 0 rfl).cell (j := 1) rfl|exact (yaz 0 rfl).cell (j := 2) rfl|exact (yaz 0 rfl).cell (j := 3) rfl|exact (yaz 0 rfl).cell (j := 4) rfl|exact cellat_eqT ((yaz 0 rfl).cell (j := 5) rfl) vx.n|exact cellat_eqT ((yaz 0 rfl).cell (j := 6) rfl) vx.v|exact cellat_eqT ((yaz 0 rfl).cell (j := 7) rfl) hsv)))|exact tq_));(·rfl);(·rfl);(·(exact hd_at3 0 rfl)))|refine ybl rfl rfl ?_|((fail_if_success (refine ybi rfl ?_));refine ybj rfl ?_ ?_<;>(intro ht;rw [ht];first|replace ht := oet_ ht|replace ht := oef_ ht|skip))|(refine tb_ ?_ ?_ ?_;(·(first|exact ybf|(refine .inl ?_;(exact hd_at3 0 rfl))|exact to_));(·intro _;(first|exact ybf|(refine .inl ?_;(exact hd_at3 0 rfl))|exact to_));intro _)|(first|(refine tqs_ ?_ ?_ ?_;(·(first|exact ybf|(refine .inl ?_;(exact hd_at3 0 rfl))|exact to_));(·(first|exact ybf|(refine .inl ?_;(exact hd_at3 0 rfl))|exact to_))))|(apply ybn;(·(first|(first|exact tk_|(exact yaq rfl)|(refine qv_str_add rfl rfl hcat1 hs1)|(refine qv_str_add rfl rfl hcat2 hs2)|(refine qv_str_add rfl rfl hcat3 hs3)|(refine qv_str_add rfl rfl hcat4 hs4)|(refine qv_str_add rfl rfl hcat5 hs5)|(refine qv_str_add rfl rfl hcat6 hs6)|(refine qv_str_add rfl rfl hcat7 hs7))|(apply yae;(·rfl);(·(first|exact (yaz 0 rfl).cell (j := 0) rfl|exact (yaz 0 rfl).cell (j := 1) rfl|exact (yaz 0 rfl).cell (j := 2) rfl|exact (yaz 0 rfl).cell (j := 3) rfl|exact (yaz 0 rfl).cell (j := 4) rfl|exact cellat_eqT ((yaz 0 rfl).cell (j := 5) rfl) vx.n|exact cellat_eqT ((yaz 0 rfl).cell (j := 6) rfl) vx.v|exact cellat_eqT ((yaz 0 rfl).cell (j := 7) rfl) hsv)))|exact tq_));(·rfl);(·rfl);(·rfl);(·(first|exact ybf|(refine .inl ?_;(exact hd_at3 0 rfl))|exact to_))))|refine ycg ?_))
      have hdl : (hdT x0.a).length = 42 + x0.a.name.length + x0.a.value.length := by
        unfold hdT
        simp only [List.length_append, num1_lenT, num8_lenT, num4_len]
        omega
      refine rx_append_b (news := bcs (hdT x0.a)) 1 rfl rfl rfl (src_str (m := (hdT x0.a).length) (bstr_size _) (bstr_bcT (hdT_by yx.1 yx.2.1))) (.inr rfl) (bcs_one _) rfl (by unfold maxLen; omega) (by omega) rfl rfl rfl ?_ ?_ ?_
      · (first | exact ybf | (refine .inl ?_; (exact hd_at3 0 rfl)) | exact to_)
      · intro v';(first|exact ybf|(refine .inl ?_;(exact hd_at3 0 rfl))|exact to_)
      intro v2
      repeat' (refine ycf ?_;(first|(first|(apply ybm;(·(first|(first|exact tk_|(exact yaq rfl)|(refine qv_str_add rfl rfl hcat1 hs1)|(refine qv_str_add rfl rfl hcat2 hs2)|(refine qv_str_add rfl rfl hcat3 hs3)|(refine qv_str_add rfl rfl hcat4 hs4)|(refine qv_str_add rfl rfl hcat5 hs5)|(refine qv_str_add rfl rfl hcat6 hs6)|(refine qv_str_add rfl rfl hcat7 hs7))|(apply yae;(·rfl);(·(first|exact (yaz 0 rfl).cell (j := 0) rfl|exact (yaz 0 rfl).cell (j := 1) rfl|exact (yaz 0 rfl).cell (j := 2) rfl|exact (yaz 0 rfl).cell (j := 3) rfl|exact (yaz 0 rfl).cell (j := 4) rfl|exact cellat_eqT ((yaz 0 rfl).cell (j := 5) rfl) vx.n|exact cellat_eqT ((yaz 0 rfl).cell (j := 6) rfl) vx.v|exact cellat_eqT ((yaz 0 rfl).cell (j := 7) rfl) hsv)))|exact tq_));(·rfl);(·rfl);(·(exact hd_at3 0 rfl)))|refine ybl rfl rfl ?_|((fail_if_success (refine ybi rfl ?_));refine ybj rfl ?_ ?_<;>(intro ht;rw [ht];first|replace ht := oet_ ht|replace ht := oef_ ht|skip))|(refine tb_ ?_ ?_ ?_;(·(first|exact ybf|(refine .inl ?_;(exact hd_at3 0 rfl))|exact to_));(·intro _;(first|exact ybf|(refine .inl ?_;(exact hd_at3 0 rfl))|exact to_));intro _)|(first|(refine tqs_ ?_ ?_ ?_;(·(first|exact ybf|(refine .inl ?_;(exact hd_at3 0 rfl))|exact to_));(·(first|exact ybf|(refine .inl ?_;(exact hd_at3 0 rfl))|exact to_))))|(apply ybn;(·(first|(first|exact tk_|(exact yaq rfl)|(refine qv_str_add rfl rfl hcat1 hs1)|(refine qv_str_add rfl rfl hcat2 hs2)|(refine qv_str_add rfl rfl hcat3 hs3)|(refine qv_str_add rfl rfl hcat4 hs4)|(refine qv_str_add rfl rfl hcat5 hs5)|(refine qv_str_add rfl rfl hcat6 hs6)|(refine qv_str_add rfl rfl hcat7 hs7))|(apply yae;(·rfl);(·(first|exact (yaz 0 rfl).cell (j := 0) rfl|exact (yaz 0 rfl).cell (j := 1) rfl|exact (yaz 0 rfl).cell (j := 2) rfl|exact (yaz 0 rfl).cell (j := 3) rfl|exact (yaz 0 rfl).cell (j := 4) rfl|exact cellat_eqT ((yaz 0 rfl).cell (j := 5) rfl) vx.n|exact cellat_eqT ((yaz 0 rfl).cell (j := 6) rfl) vx.v|exact cellat_eqT ((yaz 0 rfl).cell (j := 7) rfl) hsv)))|exact tq_));(·rfl);(·rfl);(·rfl);(·(first|exact ybf|(refine .inl ?_;(exact hd_at3 0 rfl))|exact to_))))|refine ycg ?_))
      repeat' (first|(refine ycf ?_;apply ybk;(·first|(exact tk_)|(apply yae;(·rfl);(·(exact cellat_eqT ((yaz 0 rfl).cell (j := 7) rfl) hsv))));(·rfl);(·rfl))|refine t1_ ?_|(refine ta_ ?_;intro _)|((fail_if_success (refine ybi rfl ?_));refine ybj rfl ?_ ?_<;>(intro ht;rw [ht];first|replace ht := oet_ ht|replace ht := oef_ ht|skip))|(refine ych ?_;first|(refine ybw rfl ?_ ?_<;>intro ht)|(refine ybx rfl ?_ ?_<;>intro ht)))
      refine cx_loop (X := Nat × Value) (fun z => [(0, .slice (some ⟨bs, o, none⟩) l.length cap), (4, z.2), (5, .int .i64 (k : Nat)), (6, .pointer (some ⟨b6, 0, none⟩)), (7, .int .i64 (z.1 : Nat))]) (fun _ => h) (fun z => [srT z.2 (num8 l.length ++ ((l.map Ts.a).take k).flatMap encT ++ hdT x0.a ++ encF (x0.a.stay.take z.1)), Res.blk b6 (.cells (rtc x0).toArray 36 (0, 0))])
        (fun z => z.1 ≤ x0.a.stay.length) (fun z => x0.a.stay.length - z.1) (0, v2) (Nat.zero_le _) ts_ (fun _ s => ?_) ?_
      · dsimp only
        rw [List.take_zero, show encF [] = [] by rfl, List.append_nil]
        exact srT_app (s.picks [1, 0])
      rintro ⟨j, y3⟩ hj
      replace hj : j ≤ x0.a.stay.length := hj
      dsimp only
      have hfl : (encF (x0.a.stay.take j)).length ≤ 1000 := by rw [encF_len, List.length_take]; omega
      by_cases hjl : j < x0.a.stay.length
      · obtain ⟨bt, ot, rfl⟩ : ∃ b o, ads = some ⟨b, o, none⟩ := (by have := vx.s; rw [hsv] at this; exact this.ad (by omega) (by omega))
        have hsc : Sc h 1 (.slice (some ⟨bt, ot, none⟩) x0.a.stay.length caps) x0.a.stay.length (bls x0.a.stay) := by
          have := vx.s
          rw [hsv] at this
          exact this
        have hbc : (bls x0.a.stay)[j]? = some (.bool x0.a.stay[j]) := by simp [bls, hjl]
        have hft := encF_take x0.a.stay j hjl
        generalize x0.a.stay[j] = fb at hbc hft
        have hfb := flagI_bd fb
        have hcb : ∀ L, CellAt h L bt (ot + ((j : Nat) : Int).toNat * 1) (.bool fb) := fun L => by
          rw [show ((j : Nat) : Int).toNat * 1 = j by omega]
          exact hsc.cells.cell hbc
        have hrl : (num8 l.length ++ ((l.map Ts.a).take k).flatMap encT ++ hdT x0.a ++ encF (x0.a.stay.take j)).length ≤ 1200000 := by
          simp only [List.length_append] at hpl hdl hfl ⊢
          omega
        generalize num8 l.length ++ ((l.map Ts.a).take k).flatMap encT ++ hdT x0.a = base at hrl ⊢
        cases fb
        ·
          repeat' (first|(refine ycf ?_;apply ybk;(·first|(exact tk_)|(apply yae;(·rfl);(·(first|exact cellat_eqT ((yaz 1 rfl).cell (j := 7) rfl) hsv|exact hcb _))));(·rfl);(·rfl))|refine t1_ ?_|(refine ta_ ?_;intro _)|((fail_if_success (refine ybi rfl ?_));refine ybj rfl ?_ ?_<;>(intro ht;rw [ht];first|replace ht := oet_ ht|replace ht := oef_ ht|skip))|(refine ych ?_;first|(refine ybw rfl ?_ ?_<;>intro ht)|(refine ybx rfl ?_ ?_<;>intro ht)))
          (refine ycn (ycp Tryz.func17 rfl (by kernel_rfl) rfl) (refSmall_sp 0 (by omega) (by omega) h) rfl rfl rfl ?_ ?_; (· (exact to_)))
          refine rx_append_b (news := bcs (num1 0)) 0 rfl rfl rfl (src_str (m := 1) (by rw [bstr_size, num1_lenT]) (bstr_bcT (putLow_byT 1 _))) (.inr rfl) (bcs_one _) rfl (by unfold maxLen; omega) (by omega) rfl rfl rfl ybf (fun _ => ybf) ?_
          intro v4
          repeat' (first|(refine ycf ?_;apply ybk;(·first|(exact tk_));(·rfl);(·rfl))|refine t1_ ?_|(refine ta_ ?_;intro _)|((fail_if_success (refine ybi rfl ?_));refine ybj rfl ?_ ?_<;>(intro ht;rw [ht];first|replace ht := oet_ ht|replace ht := oef_ ht|skip))|(refine ych ?_;first|(refine ybw rfl ?_ ?_<;>intro ht)|(refine ybx rfl ?_ ?_<;>intro ht)))
          refine nx_round (j + 1, v4) (by show j + 1 ≤ _; omega) (by show x0.a.stay.length - (j + 1) < x0.a.stay.length - j; omega) ts_ (fun _ s => ?_)
          dsimp only
          rw [hft, ← List.append_assoc]
          exact srT_app s
        ·
          repeat' (first|(refine ycf ?_;apply ybk;(·first|(exact tk_)|(apply yae;(·rfl);(·(first|exact cellat_eqT ((yaz 1 rfl).cell (j := 7) rfl) hsv|exact hcb _))));(·rfl);(·rfl))|refine t1_ ?_|(refine ta_ ?_;intro _)|((fail_if_success (refine ybi rfl ?_));refine ybj rfl ?_ ?_<;>(intro ht;rw [ht];first|replace ht := oet_ ht|replace ht := oef_ ht|skip))|(refine ych ?_;first|(refine ybw rfl ?_ ?_<;>intro ht)|(refine ybx rfl ?_ ?_<;>intro ht)))
          (refine ycn (ycp Tryz.func17 rfl (by kernel_rfl) rfl) (refSmall_sp 1 (by omega) (by omega) h) rfl rfl rfl ?_ ?_; (· (exact to_)))
          refine rx_append_b (news := bcs (num1 1)) 0 rfl rfl rfl (src_str (m := 1) (by rw [bstr_size, num1_lenT]) (bstr_bcT (putLow_byT 1 _))) (.inr rfl) (bcs_one _) rfl (by unfold maxLen; omega) (by omega) rfl rfl rfl ybf (fun _ => ybf) ?_
          intro v4
          repeat' (first|(refine ycf ?_;apply ybk;(·first|(exact tk_));(·rfl);(·rfl))|refine t1_ ?_|(refine ta_ ?_;intro _)|((fail_if_success (refine ybi rfl ?_));refine ybj rfl ?_ ?_<;>(intro ht;rw [ht];first|replace ht := oet_ ht|replace ht := oef_ ht|skip))|(refine ych ?_;first|(refine ybw rfl ?_ ?_<;>intro ht)|(refine ybx rfl ?_ ?_<;>intro ht)))
          refine nx_round (j + 1, v4) (by show j + 1 ≤ _; omega) (by show x0.a.stay.length - (j + 1) < x0.a.stay.length - j; omega) ts_ (fun _ s => ?_)
          dsimp only
          rw [hft, ← List.append_assoc]
          exact srT_app s
      · have ej : j = x0.a.stay.length := by omega
        subst ej
        rw [List.take_length] at hfl ⊢
        have B3 := rBytes_sp x0.a.raw (by omega) h
        have hb3 : Bytes (num4 x0.a.raw.length ++ x0.a.raw) := bytes_appT (putLow_byT 4 _) yx.2.2
        repeat' (first|(refine ycf ?_;apply ybk;(·first|(exact tk_)|(apply yae;(·rfl);(·(first|exact cellat_eqT ((yaz 1 rfl).cell (j := 7) rfl) hsv|exact cellat_eqT ((yaz 1 rfl).cell (j := 8) rfl) vx.r))));(·rfl);(·rfl))|refine t1_ ?_|(refine ta_ ?_;intro _)|((fail_if_success (refine ybi rfl ?_));refine ybj rfl ?_ ?_<;>(intro ht;rw [ht];first|replace ht := oet_ ht|replace ht := oef_ ht|skip))|(refine ych ?_;first|(refine ybw rfl ?_ ?_<;>intro ht)|(refine ybx rfl ?_ ?_<;>intro ht)))
        (refine ycn (ycp Tryz.func18 rfl (by kernel_rfl) rfl) (B3) rfl rfl rfl ?_ ?_; (· (exact to_)))
        have hrl : (num8 l.length ++ ((l.map Ts.a).take k).flatMap encT ++ hdT x0.a ++ encF x0.a.stay).length ≤ 1200000 := by
          simp only [List.length_append] at hpl hdl hfl ⊢
          omega
        have hnx : num8 l.length ++ ((l.map Ts.a).take (k + 1)).flatMap encT = num8 l.length ++ ((l.map Ts.a).take k).flatMap encT ++ hdT x0.a ++ encF x0.a.stay ++ (num4 x0.a.raw.length ++ x0.a.raw) := by
          rw [htk, List.flatMap_append, List.flatMap_cons, List.flatMap_nil, List.append_nil, encT_hd]
          simp only [List.append_assoc]
        generalize num8 l.length ++ ((l.map Ts.a).take k).flatMap encT ++ hdT x0.a ++ encF x0.a.stay = base at hrl hnx ⊢
        have hl4 : (num4 x0.a.raw.length ++ x0.a.raw).length = 4 + x0.a.raw.length := by rw [List.length_append, num4_len]
        refine rx_append_b (news := bcs (num4 x0.a.raw.length ++ x0.a.raw)) 0 rfl rfl rfl (src_str (m := 4 + x0.a.raw.length) (by rw [bstr_size, hl4]) (bstr_bcT hb3)) (.inr rfl) (bcs_one _) rfl (by unfold maxLen; omega) (by omega) rfl rfl rfl ybf (fun _ => ybf) ?_
        intro v4
        repeat' (first|(refine ycf ?_;apply ybk;(·first|(exact tk_));(·rfl);(·rfl))|refine t1_ ?_|(refine ta_ ?_;intro _)|((fail_if_success (refine ybi rfl ?_));refine ybj rfl ?_ ?_<;>(intro ht;rw [ht];first|replace ht := oet_ ht|replace ht := oef_ ht|skip))|(refine ych ?_;first|(refine ybw rfl ?_ ?_<;>intro ht)|(refine ybx rfl ?_ ?_<;>intro ht)))
        refine nx_round (k + 1, v4) ⟨by show k + 1 ≤ l.length; omega, by rw [hall]⟩ (by show l.length - (k + 1) < l.length - k; omega) ts_ (fun _ s => ?_)
        dsimp only
        rw [hnx]
        have s2 := s.picks [0]
        rw [← hl4] at s2
        exact srT_app s2
    · rw [decide_eq_false hT]
      repeat' (first|(refine ycf ?_;apply ybk;(·first|(exact tk_));(·rfl);(·rfl))|refine t1_ ?_|(refine ta_ ?_;intro _)|((fail_if_success (refine ybi rfl ?_));refine ybj rfl ?_ ?_<;>(intro ht;rw [ht];first|replace ht := oet_ ht|replace ht := oef_ ht|skip))|(refine ych ?_;first|(refine ybw rfl ?_ ?_<;>intro ht)|(refine ybx rfl ?_ ?_<;>intro ht)))
      rw [hbad hT]
      exact nx_ret2 rfl (rv_tmp rfl) (rv_tmp rfl) (fun w' s' => ⟨rfl, s'.nil⟩)
  · have ek : k = l.length := by omega
    subst ek
    rw [show (l.map Ts.a).take l.length = l.map Ts.a by rw [← List.length_map (f := Ts.a), List.take_length]] at q2 hpl ⊢
    rw [q2, if_pos rfl]
    repeat' (first|(refine ycf ?_;apply ybk;(·first|(exact tk_));(·rfl);(·rfl))|refine t1_ ?_|(refine ta_ ?_;intro _)|((fail_if_success (refine ybi rfl ?_));refine ybj rfl ?_ ?_<;>(intro ht;rw [ht];first|replace ht := oet_ ht|replace ht := oef_ ht|skip))|(refine ych ?_;first|(refine ybw rfl ?_ ?_<;>intro ht)|(refine ybx rfl ?_ ?_<;>intro ht)))
    have hE : num8 (l.length : Int) ++ (l.map Ts.a).flatMap encT = encL (l.map Ts.a) := by unfold encL; rw [List.length_map]
    rw [hE]
    refine rx_persist_s rfl fun h1 hle1 hsp => ?_
    have hsp : Bs8 h1 y (encL (l.map Ts.a)) := hsp
    obtain ⟨_, ady, capy, rfl, _, _⟩ := id hsp
    repeat' (first|(refine ycf ?_;apply ybk;(·first|(first|exact qv_str_bs rfl hsp|exact tk_));(·rfl);(·rfl))|refine t1_ ?_|(refine ta_ ?_;intro _)|((fail_if_success (refine ybi rfl ?_));refine ybj rfl ?_ ?_<;>(intro ht;rw [ht];first|replace ht := oet_ ht|replace ht := oef_ ht|skip))|(refine ych ?_;first|(refine ybw rfl ?_ ?_<;>intro ht)|(refine ybx rfl ?_ ?_<;>intro ht)))
    exact nx_ret2 rfl (rv_tmp rfl) (rv_tmp rfl) (fun w' s' => ⟨rfl, s'.base⟩)
end Go.Proofs.YtndpclcbobgdlaaGreatDoor
end
