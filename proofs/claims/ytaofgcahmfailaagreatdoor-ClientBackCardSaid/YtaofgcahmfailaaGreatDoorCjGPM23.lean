/-
  Part 23 of a proof: CiO CkFloL CjF CjH CkLess.
  Conditions: each theorem states its own.
-/
import Derived.Test.YtaofgcahmfailaaGreatDoorCjGPM22
set_option maxRecDepth 100000
set_option linter.unusedVariables false
section
namespace Go.Proofs.YtaofgcahmfailaaGreatDoor
open Go Go.Ck
set_option maxHeartbeats 1000000
def Vl.r (v : Vl) : Vl := ⟨v.d, v.ep, v.u, v.hu, v.l, v.mv, v.gone, v.b, .string (bstr v.b)⟩
structure Vr (h : View) (v : Vl) : Prop where
  ds : Ds h v.mv v.l
  bs : v.bv = .string (bstr v.b)
theorem Vv.r {h : View} {v : Vl} (s : Vv h v) : Vr h v.r := ⟨s.ds, rfl⟩
theorem Vr.mono {h h' : View} {v : Vl} (s : Vr h v) (hl : Le h h') : Vr h' v := ⟨s.ds.mono hl, s.bs⟩
theorem Vr.one {h : View} {v : Vl} (s : Vr h v) : (Value.agg (vlc v).toArray).cells.toList.all Value.oneCell' = true := by
  show (vlc v).all Value.oneCell' = true
  obtain ⟨_, _, _, e1, _⟩ := s.ds
  have h1 : v.mv.oneCell' = true := by rw [e1]; rfl
  have h2 : v.bv.oneCell' = true := by rw [s.bs]; rfl
  have h4 : (cxc v.u v.mv).all Value.oneCell' = true := cxc_one h1
  simp only [vlc, List.all_append, h4, List.all_cons, List.all_nil, h2, Bool.and_true, dcs]
  rfl
theorem fill_rv {d : Dt} {ep : Int} {u : List Int} {mv : Value} {t : Bool} {a : ByteArray} (hu : u.length = 16) : fillL (fun i : Nat => ([(0, 2), (2, 1), (3, 17), (20, 1), (21, 1)] : List (Nat × Nat))[i]?) ([.int .i64 0, .int .i64 0, .int .i64 0] ++ (up zeroU ++ [.slice none 0 0, .bool false, .string ⟨#[]⟩])) [(0, .agg (dcs d).toArray), (1, .int .i64 ep), (2, .agg (cxc u mv).toArray), (3, .bool t), (4, .string a)] = some (dcs d ++ (.int .i64 ep :: (cxc u mv ++ [.bool t, .string a]))) := by
  obtain ⟨a0, a1, a2, a3, a4, a5, a6, a7, a8, a9, a10, a11, a12, a13, a14, a15, rfl⟩ := list16 u hu
  unfold fillL fillL fillL fillL fillL fillL
  rfl
section
variable {h : View} {L : List Res} {b : Nat} {v : Vl}
theorem vl_dot (c : Cells h L ⟨b, 0, none⟩ (vlc v)) : Cells h L ⟨b, 0 + 0, none⟩ (dcs v.d) := c.take 2
theorem vl_ep (c : Cells h L ⟨b, 0, none⟩ (vlc v)) : CellAt h L b (0 + 2) (.int .i64 v.ep) := c.cell (j := 2) rfl
theorem vl_past (c : Cells h L ⟨b, 0, none⟩ (vlc v)) : Cells h L ⟨b, 0 + 3, none⟩ (cxc v.u v.mv) := by
  have h1 := (c.drop 3).take 17
  have h2 : ((vlc v).drop 3).take 17 = cxc v.u v.mv := by
    have hc := ycj (mv := v.mv) v.hu
    show (cxc v.u v.mv ++ [Value.bool v.gone, v.bv]).take 17 = _
    rw [List.take_left' hc]
  rw [h2] at h1
  exact h1
theorem vl_gone (c : Cells h L ⟨b, 0, none⟩ (vlc v)) : CellAt h L b (0 + 20) (.bool v.gone) := by
  refine c.cell (j := 20) ?_
  have hc := ycj (mv := v.mv) v.hu
  show (cxc v.u v.mv ++ [Value.bool v.gone, v.bv])[17]? = _
  rw [List.getElem?_append_right (by omega), hc]
  rfl
theorem vl_bv (c : Cells h L ⟨b, 0, none⟩ (vlc v)) {w : Value} (e : v.bv = w) : CellAt h L b (0 + 21) w := by
  subst e
  refine c.cell (j := 21) ?_
  have hc := ycj (mv := v.mv) v.hu
  show (cxc v.u v.mv ++ [Value.bool v.gone, v.bv])[18]? = _
  rw [List.getElem?_append_right (by omega), hc]
  rfl
end
theorem value7_sp (v : Vl) (h : View) (hv : Vv h v) (w : World) (s : St ⟨w, h, []⟩ h [] w) :
    Calls Tryz.prog 18 [.agg (vlc v).toArray].toArray w fun e w' => e = .returned (.agg (vlc v.r).toArray) ∧ St ⟨w, h, []⟩ h [] w' := by
  have hvl := vlc_len v
  have hrl := vlc_len v.r
  have hone := hv.one
  have hro := hv.r.one
  have hbs := hv.bs
  obtain ⟨_, adb, capb, hbv, _, _⟩ := (show Bs8 _ _ _ from hv.bs)
  have hbs2 : Bs8 h (.slice adb v.b.length capb) v.b := hbv ▸ hbs
  have B1 := back7_sp v.u v.hu v.l v.mv h hv.ds
  have hfz : fillL (fun i : Nat => ([(0, 2), (2, 1), (3, 17), (20, 1), (21, 1)] : List (Nat × Nat))[i]?) ([.int .i64 0, .int .i64 0, .int .i64 0] ++ (up zeroU ++ [.slice none 0 0, .bool false, .string ⟨#[]⟩])) [(0, .agg (dcs v.d).toArray), (1, .int .i64 v.ep), (2, .agg (cxc v.u v.mv).toArray), (3, .bool v.gone), (4, .string (bstr v.b))] = some (vlc v.r) := fill_rv v.hu
  refine calls_enter Tryz.func18 rfl Tryz.ntmps18 rfl s ?_
  repeat' (first|(refine ybg 0 rfl rfl rfl (by show (vlc v).toArray.size = 22;rw [List.size_toArray, hvl]) (by show 0 + (vlc v).toArray.size ≤ 22;rw [List.size_toArray, hvl];omega) hone (ybh (by show (vlc v).length = 22;rw [hvl])) rfl rfl ?_ ?_ ?_;(·(exact to_));(·(exact to_)))|refine t1_ ?_|(refine ta_ ?_;intro _)|((fail_if_success (refine ybi rfl ?_));refine ybj rfl ?_ ?_<;>(intro ht;rw [ht];first|replace ht := oet_ ht|replace ht := oef_ ht|skip))|(refine ych ?_;first|(refine ybw rfl ?_ ?_<;>intro ht)|(refine ybx rfl ?_ ?_<;>intro ht)))
  rename_i b1 b2
  refine cx_perm (L' := [Res.blk b2 (.cells (vlc zVl.r).toArray 67 (0, 0)), Res.blk b1 (.cells (vlc v).toArray 71 (0, 0))]) (.refl _) ?_
  refine cx_region_draw [Res.blk b1 (.cells (vlc v).toArray 71 (0, 0))] rfl (by kernel_rfl) ?_
  repeat' (refine ycf ?_;(first|(first|(apply ybm;(·(first|(first|(apply yad;(·rfl);(·exact vl_dot (yaz 0 rfl));(·rfl))|(apply yad;(·rfl);(·exact vl_past (yaz 0 rfl));(·exact ycj v.hu))|(refine qv_str_bs rfl hbs2)|(apply yax (cs := vlc v.r);(·rfl);(·exact hfz)))|(apply yae;(·rfl);(·(first|exact vl_ep (yaz 0 rfl)|exact vl_gone (yaz 0 rfl)|exact vl_bv (yaz 0 rfl) hbv)))|exact tq_));(·rfl);(·rfl);(·(first|exact fun _ s => Hd.sub s (Le.refl _) (fun r hr => by rw [List.mem_singleton.1 hr];exact tm_)|exact fun _ s => Hd.sub s hle (fun r hr => by rw [List.mem_singleton.1 hr];exact tm_))))|refine ybl rfl rfl ?_|((fail_if_success (refine ybi rfl ?_));refine ybj rfl ?_ ?_<;>(intro ht;rw [ht];first|replace ht := oet_ ht|replace ht := oef_ ht|skip))|(refine tb_ ?_ ?_ ?_;(·(first|exact ybf|(refine .inl ?_;(first|exact fun _ s => Hd.sub s (Le.refl _) (fun r hr => by rw [List.mem_singleton.1 hr];exact tm_)|exact fun _ s => Hd.sub s hle (fun r hr => by rw [List.mem_singleton.1 hr];exact tm_)))|exact to_));(·intro _;(first|exact ybf|(refine .inl ?_;(first|exact fun _ s => Hd.sub s (Le.refl _) (fun r hr => by rw [List.mem_singleton.1 hr];exact tm_)|exact fun _ s => Hd.sub s hle (fun r hr => by rw [List.mem_singleton.1 hr];exact tm_)))|exact to_));intro _)|(first|(refine ybg 0 rfl rfl rfl (by show (vlc v.r).toArray.size = 22;rw [List.size_toArray, hrl]) (by show 0 + (vlc v.r).toArray.size ≤ 22;rw [List.size_toArray, hrl];omega) hro (ybh (by show (vlc v.r).length = 22;rw [hrl])) rfl rfl ?_ ?_ ?_;(·(first|exact ybf|(refine .inl ?_;(first|exact fun _ s => Hd.sub s (Le.refl _) (fun r hr => by rw [List.mem_singleton.1 hr];exact tm_)|exact fun _ s => Hd.sub s hle (fun r hr => by rw [List.mem_singleton.1 hr];exact tm_)))|exact to_));(·(first|exact ybf|(refine .inl ?_;(first|exact fun _ s => Hd.sub s (Le.refl _) (fun r hr => by rw [List.mem_singleton.1 hr];exact tm_)|exact fun _ s => Hd.sub s hle (fun r hr => by rw [List.mem_singleton.1 hr];exact tm_)))|exact to_)))|(refine tqs_ ?_ ?_ ?_;(·(first|exact ybf|(refine .inl ?_;(first|exact fun _ s => Hd.sub s (Le.refl _) (fun r hr => by rw [List.mem_singleton.1 hr];exact tm_)|exact fun _ s => Hd.sub s hle (fun r hr => by rw [List.mem_singleton.1 hr];exact tm_)))|exact to_));(·(first|exact ybf|(refine .inl ?_;(first|exact fun _ s => Hd.sub s (Le.refl _) (fun r hr => by rw [List.mem_singleton.1 hr];exact tm_)|exact fun _ s => Hd.sub s hle (fun r hr => by rw [List.mem_singleton.1 hr];exact tm_)))|exact to_))))|(apply ybn;(·(first|(first|(apply yad;(·rfl);(·exact vl_dot (yaz 0 rfl));(·rfl))|(apply yad;(·rfl);(·exact vl_past (yaz 0 rfl));(·exact ycj v.hu))|(refine qv_str_bs rfl hbs2)|(apply yax (cs := vlc v.r);(·rfl);(·exact hfz)))|(apply yae;(·rfl);(·(first|exact vl_ep (yaz 0 rfl)|exact vl_gone (yaz 0 rfl)|exact vl_bv (yaz 0 rfl) hbv)))|exact tq_));(·rfl);(·rfl);(·rfl);(·(first|exact ybf|(refine .inl ?_;(first|exact fun _ s => Hd.sub s (Le.refl _) (fun r hr => by rw [List.mem_singleton.1 hr];exact tm_)|exact fun _ s => Hd.sub s hle (fun r hr => by rw [List.mem_singleton.1 hr];exact tm_)))|exact to_))))|refine ycg ?_))
  (refine ycn (ycp Tryz.func20 rfl (by kernel_rfl) rfl) (B1) rfl rfl rfl ?_ ?_;(·(first|exact ybf|(refine .inl ?_;(first|exact fun _ s => Hd.sub s (Le.refl _) (fun r hr => by rw [List.mem_singleton.1 hr];exact tm_)|exact fun _ s => Hd.sub s hle (fun r hr => by rw [List.mem_singleton.1 hr];exact tm_)))|exact to_)))
  repeat' (refine ycf ?_;(first|(first|(apply ybm;(·(first|(first|(apply yad;(·rfl);(·exact vl_dot (yaz 0 rfl));(·rfl))|(apply yad;(·rfl);(·exact vl_past (yaz 0 rfl));(·exact ycj v.hu))|(refine qv_str_bs rfl hbs2)|(apply yax (cs := vlc v.r);(·rfl);(·exact hfz)))|(apply yae;(·rfl);(·(first|exact vl_ep (yaz 0 rfl)|exact vl_gone (yaz 0 rfl)|exact vl_bv (yaz 0 rfl) hbv)))|exact tq_));(·rfl);(·rfl);(·(first|exact fun _ s => Hd.sub s (Le.refl _) (fun r hr => by rw [List.mem_singleton.1 hr];exact tm_)|exact fun _ s => Hd.sub s hle (fun r hr => by rw [List.mem_singleton.1 hr];exact tm_))))|refine ybl rfl rfl ?_|((fail_if_success (refine ybi rfl ?_));refine ybj rfl ?_ ?_<;>(intro ht;rw [ht];first|replace ht := oet_ ht|replace ht := oef_ ht|skip))|(refine tb_ ?_ ?_ ?_;(·(first|exact ybf|(refine .inl ?_;(first|exact fun _ s => Hd.sub s (Le.refl _) (fun r hr => by rw [List.mem_singleton.1 hr];exact tm_)|exact fun _ s => Hd.sub s hle (fun r hr => by rw [List.mem_singleton.1 hr];exact tm_)))|exact to_));(·intro _;(first|exact ybf|(refine .inl ?_;(first|exact fun _ s => Hd.sub s (Le.refl _) (fun r hr => by rw [List.mem_singleton.1 hr];exact tm_)|exact fun _ s => Hd.sub s hle (fun r hr => by rw [List.mem_singleton.1 hr];exact tm_)))|exact to_));intro _)|(first|(refine ybg 0 rfl rfl rfl (by show (vlc v.r).toArray.size = 22;rw [List.size_toArray, hrl]) (by show 0 + (vlc v.r).toArray.size ≤ 22;rw [List.size_toArray, hrl];omega) hro (ybh (by show (vlc v.r).length = 22;rw [hrl])) rfl rfl ?_ ?_ ?_;(·(first|exact ybf|(refine .inl ?_;(first|exact fun _ s => Hd.sub s (Le.refl _) (fun r hr => by rw [List.mem_singleton.1 hr];exact tm_)|exact fun _ s => Hd.sub s hle (fun r hr => by rw [List.mem_singleton.1 hr];exact tm_)))|exact to_));(·(first|exact ybf|(refine .inl ?_;(first|exact fun _ s => Hd.sub s (Le.refl _) (fun r hr => by rw [List.mem_singleton.1 hr];exact tm_)|exact fun _ s => Hd.sub s hle (fun r hr => by rw [List.mem_singleton.1 hr];exact tm_)))|exact to_)))|(refine tqs_ ?_ ?_ ?_;(·(first|exact ybf|(refine .inl ?_;(first|exact fun _ s => Hd.sub s (Le.refl _) (fun r hr => by rw [List.mem_singleton.1 hr];exact tm_)|exact fun _ s => Hd.sub s hle (fun r hr => by rw [List.mem_singleton.1 hr];exact tm_)))|exact to_));(·(first|exact ybf|(refine .inl ?_;(first|exact fun _ s => Hd.sub s (Le.refl _) (fun r hr => by rw [List.mem_singleton.1 hr];exact tm_)|exact fun _ s => Hd.sub s hle (fun r hr => by rw [List.mem_singleton.1 hr];exact tm_)))|exact to_))))|(apply ybn;(·(first|(first|(apply yad;(·rfl);(·exact vl_dot (yaz 0 rfl));(·rfl))|(apply yad;(·rfl);(·exact vl_past (yaz 0 rfl));(·exact ycj v.hu))|(refine qv_str_bs rfl hbs2)|(apply yax (cs := vlc v.r);(·rfl);(·exact hfz)))|(apply yae;(·rfl);(·(first|exact vl_ep (yaz 0 rfl)|exact vl_gone (yaz 0 rfl)|exact vl_bv (yaz 0 rfl) hbv)))|exact tq_));(·rfl);(·rfl);(·rfl);(·(first|exact ybf|(refine .inl ?_;(first|exact fun _ s => Hd.sub s (Le.refl _) (fun r hr => by rw [List.mem_singleton.1 hr];exact tm_)|exact fun _ s => Hd.sub s hle (fun r hr => by rw [List.mem_singleton.1 hr];exact tm_)))|exact to_))))|refine ycg ?_))
  repeat' (first|(refine ycf ?_;apply ybk;(·first|(first|(apply yad;(·rfl);(·exact vl_dot (yaz 0 rfl));(·rfl))|(apply yad;(·rfl);(·exact vl_past (yaz 0 rfl));(·exact ycj v.hu))|(refine qv_str_bs rfl hbs2)|(apply yax (cs := vlc v.r);(·rfl);(·exact hfz)))|(apply yae;(·rfl);(·(first|exact vl_ep (yaz 0 rfl)|exact vl_gone (yaz 0 rfl)|exact vl_bv (yaz 0 rfl) hbv))));(·rfl);(·rfl))|(refine ybg 0 rfl rfl rfl (by show (vlc v.r).toArray.size = 22;rw [List.size_toArray, hrl]) (by show 0 + (vlc v.r).toArray.size ≤ 22;rw [List.size_toArray, hrl];omega) hro (ybh (by show (vlc v.r).length = 22;rw [hrl])) rfl rfl ?_ ?_ ?_;(·(first|exact ybf|(refine .inl ?_;(first|exact fun _ s => Hd.sub s (Le.refl _) (fun r hr => by rw [List.mem_singleton.1 hr];exact tm_)|exact fun _ s => Hd.sub s hle (fun r hr => by rw [List.mem_singleton.1 hr];exact tm_)))|exact to_));(·(first|exact ybf|(refine .inl ?_;(first|exact fun _ s => Hd.sub s (Le.refl _) (fun r hr => by rw [List.mem_singleton.1 hr];exact tm_)|exact fun _ s => Hd.sub s hle (fun r hr => by rw [List.mem_singleton.1 hr];exact tm_)))|exact to_)))|refine t1_ ?_|(refine ta_ ?_;intro _)|((fail_if_success (refine ybi rfl ?_));refine ybj rfl ?_ ?_<;>(intro ht;rw [ht];first|replace ht := oet_ ht|replace ht := oef_ ht|skip))|(refine ych ?_;first|(refine ybw rfl ?_ ?_<;>intro ht)|(refine ybx rfl ?_ ?_<;>intro ht)))
  exact nx_ret1 rfl (rv_cells rfl (yaz 0 rfl) hrl) (fun w' s' => ⟨rfl, s'.nil⟩)
theorem same27_sp (x y : Vl) (h : View) (hx : Vr h x) (hy : Vr h y) (bx : Bytes x.b) (bY : Bytes y.b) (lx : x.l.length ≤ 4611686018427387904) (ly : y.l.length ≤ 4611686018427387904) (w : World) (s : St ⟨w, h, []⟩ h [] w) :
    Calls Tryz.prog 17 [.agg (vlc x).toArray, .agg (vlc y).toArray].toArray w fun e w' => e = .returned (.bool (decide (x.t = y.t))) ∧ St ⟨w, h, []⟩ h [] w' := by
  have e : decide (x.t = y.t) = (decide (x.d = y.d) && (decide (x.ep = y.ep) && ((x.gone == y.gone) && (decide (x.b = y.b) && (decide (x.u = y.u) && decide (x.l = y.l)))))) := by
    rw [Bool.eq_iff_iff]
    simp only [decide_eq_true_eq, Bool.and_eq_true, beq_iff_eq, Vl.t, Prod.mk.injEq]
    constructor
    · rintro ⟨a, b, c, d, e, f⟩; exact ⟨a, d, e, f, b, c⟩
    · rintro ⟨a, d, e, f, b, c⟩; exact ⟨a, b, c, d, e, f⟩
  rw [e]
  have hxl := vlc_len x
  have hyl := vlc_len y
  have hxo := hx.one
  have hyo := hy.one
  have D1 := dot_eq x.d y.d
  have S1 := bstr_eqC bx bY
  have C1 := refSame_sp (cxv x.u x.mv) (cxv y.u y.mv) x.u y.u x.l y.l h ⟨x.hu, _, rfl, hx.ds⟩ ⟨y.hu, _, rfl, hy.ds⟩ lx ly
  generalize decide (x.d = y.d) = b1 at D1 ⊢
  generalize decide (x.b = y.b) = b4 at S1 ⊢
  refine calls_enter Tryz.func17 rfl Tryz.ntmps17 rfl s ?_
  iterate 4 (first|(refine ycf ?_;apply ybk;(·first|(first|(apply yad;(·rfl);(·exact vl_dot (yaz 0 rfl));(·rfl))|(apply yad;(·rfl);(·exact vl_past (yaz 0 rfl));(·exact ycj v.hu))|(refine qv_str_bs rfl hbs2)|(apply yax (cs := vlc v.r);(·rfl);(·exact hfz)))|(apply yae;(·rfl);(·(first|exact vl_ep (yaz 0 rfl)|exact vl_gone (yaz 0 rfl)|exact vl_bv (yaz 0 rfl) hbv))));(·rfl);(·rfl))|(refine ybg 0 rfl rfl rfl (by show (vlc v.r).toArray.size = 22;rw [List.size_toArray, hrl]) (by show 0 + (vlc v.r).toArray.size ≤ 22;rw [List.size_toArray, hrl];omega) hro (ybh (by show (vlc v.r).length = 22;rw [hrl])) rfl rfl ?_ ?_ ?_;(·(first|exact ybf|(refine .inl ?_;(first|exact fun _ s => Hd.sub s (Le.refl _) (fun r hr => by rw [List.mem_singleton.1 hr];exact tm_)|exact fun _ s => Hd.sub s hle (fun r hr => by rw [List.mem_singleton.1 hr];exact tm_)))|exact to_));(·(first|exact ybf|(refine .inl ?_;(first|exact fun _ s => Hd.sub s (Le.refl _) (fun r hr => by rw [List.mem_singleton.1 hr];exact tm_)|exact fun _ s => Hd.sub s hle (fun r hr => by rw [List.mem_singleton.1 hr];exact tm_)))|exact to_)))|refine t1_ ?_|(refine ta_ ?_;intro _)|((fail_if_success (refine ybi rfl ?_));refine ybj rfl ?_ ?_<;>(intro ht;rw [ht];first|replace ht := oet_ ht|replace ht := oef_ ht|skip))|(refine ych ?_;first|(refine ybw rfl ?_ ?_<;>intro ht)|(refine ybx rfl ?_ ?_<;>intro ht)))
  rename_i b2 b3
  refine rx_perm (L' := [Res.blk b3 (.cells (vlc y).toArray 67 (0, 0)), Res.blk b2 (.cells (vlc x).toArray 67 (0, 0))]) (.refl _) ?_
  cases b1
  · repeat' (first|(refine ycf ?_;apply ybk;(·first|(first|(apply yad;(·rfl);(·exact vl_dot (yaz 1 rfl));(·rfl))|(apply yad;(·rfl);(·exact vl_dot (yaz 0 rfl));(·rfl))|(apply yad;(·rfl);(·exact vl_past (yaz 1 rfl));(·exact ycj x.hu))|(apply yad;(·rfl);(·exact vl_past (yaz 0 rfl));(·exact ycj y.hu))|(refine qv_eql_agg rfl rfl D1)|(refine qv_eql_str rfl rfl S1)|(refine qv_eql_bool rfl rfl rfl)|exact tk_)|(apply yae;(·rfl);(·(first|exact vl_ep (yaz 1 rfl)|exact vl_ep (yaz 0 rfl)|exact vl_gone (yaz 1 rfl)|exact vl_gone (yaz 0 rfl)|exact vl_bv (yaz 1 rfl) hx.bs|exact vl_bv (yaz 0 rfl) hy.bs))));(·rfl);(·rfl))|(refine ybg 0 rfl rfl rfl (by show (vlc v.r).toArray.size = 22;rw [List.size_toArray, hrl]) (by show 0 + (vlc v.r).toArray.size ≤ 22;rw [List.size_toArray, hrl];omega) hro (ybh (by show (vlc v.r).length = 22;rw [hrl])) rfl rfl ?_ ?_ ?_;(·(first|exact ybf|(refine .inl ?_;(first|exact fun _ s => Hd.sub s (Le.refl _) (fun r hr => by rw [List.mem_singleton.1 hr];exact tm_)|exact fun _ s => Hd.sub s hle (fun r hr => by rw [List.mem_singleton.1 hr];exact tm_)))|exact to_));(·(first|exact ybf|(refine .inl ?_;(first|exact fun _ s => Hd.sub s (Le.refl _) (fun r hr => by rw [List.mem_singleton.1 hr];exact tm_)|exact fun _ s => Hd.sub s hle (fun r hr => by rw [List.mem_singleton.1 hr];exact tm_)))|exact to_)))|refine t1_ ?_|(refine ta_ ?_;intro _)|((fail_if_success (refine ybi rfl ?_));refine ybj rfl ?_ ?_<;>(intro ht;rw [ht];first|replace ht := oet_ ht|replace ht := oef_ ht|skip))|(refine ych ?_;first|(refine ybw rfl ?_ ?_<;>intro ht)|(refine ybx rfl ?_ ?_<;>intro ht)))
    exact nx_ret1 rfl (rv_tmp rfl) (fun w' s' => ⟨rfl, s'.nil⟩)
  by_cases hep : x.ep = y.ep
  · rw [decide_eq_true hep]
    cases hg : (x.gone == y.gone)
    · repeat' (first|(refine ycf ?_;apply ybk;(·first|(first|(apply yad;(·rfl);(·exact vl_dot (yaz 1 rfl));(·rfl))|(apply yad;(·rfl);(·exact vl_dot (yaz 0 rfl));(·rfl))|(refine qv_eql_agg rfl rfl D1)|(refine qv_eql_bool rfl rfl hg)|exact tk_)|(apply yae;(·rfl);(·(first|exact vl_ep (yaz 1 rfl)|exact vl_ep (yaz 0 rfl)|exact vl_gone (yaz 1 rfl)|exact vl_gone (yaz 0 rfl)|exact vl_bv (yaz 1 rfl) hx.bs|exact vl_bv (yaz 0 rfl) hy.bs))));(·rfl);(·rfl))|(refine ybg 0 rfl rfl rfl (by show (vlc v.r).toArray.size = 22;rw [List.size_toArray, hrl]) (by show 0 + (vlc v.r).toArray.size ≤ 22;rw [List.size_toArray, hrl];omega) hro (ybh (by show (vlc v.r).length = 22;rw [hrl])) rfl rfl ?_ ?_ ?_;(·(first|exact ybf|(refine .inl ?_;(first|exact fun _ s => Hd.sub s (Le.refl _) (fun r hr => by rw [List.mem_singleton.1 hr];exact tm_)|exact fun _ s => Hd.sub s hle (fun r hr => by rw [List.mem_singleton.1 hr];exact tm_)))|exact to_));(·(first|exact ybf|(refine .inl ?_;(first|exact fun _ s => Hd.sub s (Le.refl _) (fun r hr => by rw [List.mem_singleton.1 hr];exact tm_)|exact fun _ s => Hd.sub s hle (fun r hr => by rw [List.mem_singleton.1 hr];exact tm_)))|exact to_)))|refine t1_ ?_|(refine ta_ ?_;intro _)|((fail_if_success (refine ybi rfl ?_));refine ybj rfl ?_ ?_<;>(intro ht;rw [ht];first|replace ht := oet_ ht|replace ht := oef_ ht|skip))|(refine ych ?_;first|(refine ybw rfl ?_ ?_<;>intro ht)|(refine ybx rfl ?_ ?_<;>intro ht)))
      exact nx_ret1 rfl (rv_tmp rfl) (fun w' s' => ⟨rfl, s'.nil⟩)
    cases b4
    · repeat' (first|(refine ycf ?_;apply ybk;(·first|(first|(apply yad;(·rfl);(·exact vl_dot (yaz 1 rfl));(·rfl))|(apply yad;(·rfl);(·exact vl_dot (yaz 0 rfl));(·rfl))|(refine qv_eql_agg rfl rfl D1)|(refine qv_eql_str rfl rfl S1)|(refine qv_eql_bool rfl rfl hg)|exact tk_)|(apply yae;(·rfl);(·(first|exact vl_ep (yaz 1 rfl)|exact vl_ep (yaz 0 rfl)|exact vl_gone (yaz 1 rfl)|exact vl_gone (yaz 0 rfl)|exact vl_bv (yaz 1 rfl) hx.bs|exact vl_bv (yaz 0 rfl) hy.bs))));(·rfl);(·rfl))|(refine ybg 0 rfl rfl rfl (by show (vlc v.r).toArray.size = 22;rw [List.size_toArray, hrl]) (by show 0 + (vlc v.r).toArray.size ≤ 22;rw [List.size_toArray, hrl];omega) hro (ybh (by show (vlc v.r).length = 22;rw [hrl])) rfl rfl ?_ ?_ ?_;(·(first|exact ybf|(refine .inl ?_;(first|exact fun _ s => Hd.sub s (Le.refl _) (fun r hr => by rw [List.mem_singleton.1 hr];exact tm_)|exact fun _ s => Hd.sub s hle (fun r hr => by rw [List.mem_singleton.1 hr];exact tm_)))|exact to_));(·(first|exact ybf|(refine .inl ?_;(first|exact fun _ s => Hd.sub s (Le.refl _) (fun r hr => by rw [List.mem_singleton.1 hr];exact tm_)|exact fun _ s => Hd.sub s hle (fun r hr => by rw [List.mem_singleton.1 hr];exact tm_)))|exact to_)))|refine t1_ ?_|(refine ta_ ?_;intro _)|((fail_if_success (refine ybi rfl ?_));refine ybj rfl ?_ ?_<;>(intro ht;rw [ht];first|replace ht := oet_ ht|replace ht := oef_ ht|skip))|(refine ych ?_;first|(refine ybw rfl ?_ ?_<;>intro ht)|(refine ybx rfl ?_ ?_<;>intro ht)))
      exact nx_ret1 rfl (rv_tmp rfl) (fun w' s' => ⟨rfl, s'.nil⟩)
    repeat' (first|(refine ycf ?_;apply ybk;(·first|(first|(apply yad;(·rfl);(·exact vl_dot (yaz 1 rfl));(·rfl))|(apply yad;(·rfl);(·exact vl_dot (yaz 0 rfl));(·rfl))|(apply yad;(·rfl);(·exact vl_past (yaz 1 rfl));(·exact ycj x.hu))|(apply yad;(·rfl);(·exact vl_past (yaz 0 rfl));(·exact ycj y.hu))|(refine qv_eql_agg rfl rfl D1)|(refine qv_eql_str rfl rfl S1)|(refine qv_eql_bool rfl rfl hg)|exact tk_)|(apply yae;(·rfl);(·(first|exact vl_ep (yaz 1 rfl)|exact vl_ep (yaz 0 rfl)|exact vl_gone (yaz 1 rfl)|exact vl_gone (yaz 0 rfl)|exact vl_bv (yaz 1 rfl) hx.bs|exact vl_bv (yaz 0 rfl) hy.bs))));(·rfl);(·rfl))|(refine ybg 0 rfl rfl rfl (by show (vlc v.r).toArray.size = 22;rw [List.size_toArray, hrl]) (by show 0 + (vlc v.r).toArray.size ≤ 22;rw [List.size_toArray, hrl];omega) hro (ybh (by show (vlc v.r).length = 22;rw [hrl])) rfl rfl ?_ ?_ ?_;(·(first|exact ybf|(refine .inl ?_;(first|exact fun _ s => Hd.sub s (Le.refl _) (fun r hr => by rw [List.mem_singleton.1 hr];exact tm_)|exact fun _ s => Hd.sub s hle (fun r hr => by rw [List.mem_singleton.1 hr];exact tm_)))|exact to_));(·(first|exact ybf|(refine .inl ?_;(first|exact fun _ s => Hd.sub s (Le.refl _) (fun r hr => by rw [List.mem_singleton.1 hr];exact tm_)|exact fun _ s => Hd.sub s hle (fun r hr => by rw [List.mem_singleton.1 hr];exact tm_)))|exact to_)))|refine t1_ ?_|(refine ta_ ?_;intro _)|((fail_if_success (refine ybi rfl ?_));refine ybj rfl ?_ ?_<;>(intro ht;rw [ht];first|replace ht := oet_ ht|replace ht := oef_ ht|skip))|(refine ych ?_;first|(refine ybw rfl ?_ ?_<;>intro ht)|(refine ybx rfl ?_ ?_<;>intro ht)))
    (refine ycn (ycp Tryz.func30 rfl (by kernel_rfl) rfl) (C1) rfl rfl rfl ?_ ?_;(·(first|exact ybf|(refine .inl ?_;(first|exact fun _ s => Hd.sub s (Le.refl _) (fun r hr => by rw [List.mem_singleton.1 hr];exact tm_)|exact fun _ s => Hd.sub s hle (fun r hr => by rw [List.mem_singleton.1 hr];exact tm_)))|exact to_)))
    repeat' (first|(refine ycf ?_;apply ybk;(·first|(first|(apply yad;(·rfl);(·exact vl_dot (yaz 1 rfl));(·rfl))|(apply yad;(·rfl);(·exact vl_dot (yaz 0 rfl));(·rfl))|(apply yad;(·rfl);(·exact vl_past (yaz 1 rfl));(·exact ycj x.hu))|(apply yad;(·rfl);(·exact vl_past (yaz 0 rfl));(·exact ycj y.hu))|(refine qv_eql_agg rfl rfl D1)|(refine qv_eql_str rfl rfl S1)|(refine qv_eql_bool rfl rfl hg)|exact tk_)|(apply yae;(·rfl);(·(first|exact vl_ep (yaz 1 rfl)|exact vl_ep (yaz 0 rfl)|exact vl_gone (yaz 1 rfl)|exact vl_gone (yaz 0 rfl)|exact vl_bv (yaz 1 rfl) hx.bs|exact vl_bv (yaz 0 rfl) hy.bs))));(·rfl);(·rfl))|(refine ybg 0 rfl rfl rfl (by show (vlc v.r).toArray.size = 22;rw [List.size_toArray, hrl]) (by show 0 + (vlc v.r).toArray.size ≤ 22;rw [List.size_toArray, hrl];omega) hro (ybh (by show (vlc v.r).length = 22;rw [hrl])) rfl rfl ?_ ?_ ?_;(·(first|exact ybf|(refine .inl ?_;(first|exact fun _ s => Hd.sub s (Le.refl _) (fun r hr => by rw [List.mem_singleton.1 hr];exact tm_)|exact fun _ s => Hd.sub s hle (fun r hr => by rw [List.mem_singleton.1 hr];exact tm_)))|exact to_));(·(first|exact ybf|(refine .inl ?_;(first|exact fun _ s => Hd.sub s (Le.refl _) (fun r hr => by rw [List.mem_singleton.1 hr];exact tm_)|exact fun _ s => Hd.sub s hle (fun r hr => by rw [List.mem_singleton.1 hr];exact tm_)))|exact to_)))|refine t1_ ?_|(refine ta_ ?_;intro _)|((fail_if_success (refine ybi rfl ?_));refine ybj rfl ?_ ?_<;>(intro ht;rw [ht];first|replace ht := oet_ ht|replace ht := oef_ ht|skip))|(refine ych ?_;first|(refine ybw rfl ?_ ?_<;>intro ht)|(refine ybx rfl ?_ ?_<;>intro ht)))
    exact nx_ret1 rfl (rv_tmp rfl) (fun w' s' => ⟨rfl, s'.nil⟩)
  · rw [decide_eq_false hep]
    repeat' (first|(refine ycf ?_;apply ybk;(·first|(first|(apply yad;(·rfl);(·exact vl_dot (yaz 1 rfl));(·rfl))|(apply yad;(·rfl);(·exact vl_dot (yaz 0 rfl));(·rfl))|(apply yad;(·rfl);(·exact vl_past (yaz 1 rfl));(·exact ycj x.hu))|(apply yad;(·rfl);(·exact vl_past (yaz 0 rfl));(·exact ycj y.hu))|(refine qv_eql_agg rfl rfl D1)|(refine qv_eql_str rfl rfl S1)|(refine qv_eql_bool rfl rfl hg)|exact tk_)|(apply yae;(·rfl);(·(first|exact vl_ep (yaz 1 rfl)|exact vl_ep (yaz 0 rfl)|exact vl_gone (yaz 1 rfl)|exact vl_gone (yaz 0 rfl)|exact vl_bv (yaz 1 rfl) hx.bs|exact vl_bv (yaz 0 rfl) hy.bs))));(·rfl);(·rfl))|(refine ybg 0 rfl rfl rfl (by show (vlc v.r).toArray.size = 22;rw [List.size_toArray, hrl]) (by show 0 + (vlc v.r).toArray.size ≤ 22;rw [List.size_toArray, hrl];omega) hro (ybh (by show (vlc v.r).length = 22;rw [hrl])) rfl rfl ?_ ?_ ?_;(·(first|exact ybf|(refine .inl ?_;(first|exact fun _ s => Hd.sub s (Le.refl _) (fun r hr => by rw [List.mem_singleton.1 hr];exact tm_)|exact fun _ s => Hd.sub s hle (fun r hr => by rw [List.mem_singleton.1 hr];exact tm_)))|exact to_));(·(first|exact ybf|(refine .inl ?_;(first|exact fun _ s => Hd.sub s (Le.refl _) (fun r hr => by rw [List.mem_singleton.1 hr];exact tm_)|exact fun _ s => Hd.sub s hle (fun r hr => by rw [List.mem_singleton.1 hr];exact tm_)))|exact to_)))|refine t1_ ?_|(refine ta_ ?_;intro _)|((fail_if_success (refine ybi rfl ?_));refine ybj rfl ?_ ?_<;>(intro ht;rw [ht];first|replace ht := oet_ ht|replace ht := oef_ ht|skip))|(refine ych ?_;first|(refine ybw rfl ?_ ?_<;>intro ht)|(refine ybx rfl ?_ ?_<;>intro ht)))
    exact nx_ret1 rfl (rv_tmp rfl) (fun w' s' => ⟨rfl, s'.nil⟩)
end Go.Proofs.YtaofgcahmfailaaGreatDoor
end

section
namespace Go.Ck
open Go
set_option maxHeartbeats 1000000
section
variable {P : Program} {ops : Array Oper} {S : World → Prop} {bar : Nat → Bool}
def floatOkL (ops : Array Oper) (lo : Nat → Bool) (ord : List Nat) (fl : Nat → Bool) : Bool :=
  lexOkR ops (masks ops) (lo) (barOf ops) (rkOf ord) (fun j i => lo j && fl i) && flOk ops (lo) (barOf ops) fl (rkOf ord) &&
  ((List.range ops.size).all fun i => ord.contains i) && ord.length == ops.size && (ord.all fun i => decide (i < ops.size)) && decide (ord.Pairwise fun i j => rkOf ord i < rkOf ord j)
theorem wp_region_floatL {lo : Nat → Bool} {id : Nat} {Q : Exit → Act → World → Prop} {a : Act} {w : World} (ord : List Nat) (fl : Nat → Bool) (hm : P.follows .mixedOrders = true) (hB : floatOkL ops lo ord fl = true)
    (h : wpG P ops S (lo) (barOf ops) fl (Q .normal) (pickL ops.toList ord).length (pickL ops.toList ord) a w.drew) : (Code.region id ops true).wp P Q a w := by
  simp only [floatOkL, Bool.and_eq_true] at hB
  obtain ⟨⟨⟨⟨⟨b1, b2⟩, b3⟩, b4⟩, b5⟩, b6⟩ := hB
  have b4 : ord.length = ops.size := by simpa using b4
  have b6 := oet_ b6
  refine wp_region_any hm (float_any (rk := rkOf ord) b1 (fun i o y oy hi hy hli hfy hlj => ?_) _ (pickL ops.toList ord) _ a _ ?_ ⟨?_, ?_, ?_, ?_, ?_⟩ h)
  · have hil := (Array.getElem?_eq_some_iff.1 hi).1
    have hyl := (Array.getElem?_eq_some_iff.1 hy).1
    have h1 := List.all_eq_true.1 b2 y (List.mem_range.2 hyl)
    simp only [hfy, Bool.not_true, Bool.false_or, Bool.and_eq_true] at h1
    have h2 := List.all_eq_true.1 h1.2 i (List.mem_range.2 hil)
    obtain ⟨j, hj1, hj2, hj3⟩ := hlj
    have hnot : ((List.range ops.size).all fun j => !lo j || !decide (rkOf ord j < rkOf ord i)) = false := by
      rw [List.all_eq_false]
      exact ⟨j, List.mem_range.2 hj1, by simp [hj2, hj3]⟩
    simp only [hli, hnot, Bool.false_or, hi, hy, Bool.and_eq_true] at h2
    have hsel := lexOkR_sel b1
    exact ⟨h2.2, by rw [hli]; rfl, by simpa using h2.1, by simpa using h1.1.1, fun cs b => Region.noSelect_spec hsel i o cs b hi, fun cs b => Region.noSelect_spec hsel y oy cs b hy⟩
  · rw [pickL_length]; omega
  · intro p hp
    obtain ⟨h1, h2⟩ := pickL_mem.1 hp
    have hlt : p.1 < ops.size := by simpa using List.all_eq_true.1 b5 _ h1
    have := nthO_ok ops.toList p.1 (by simpa using hlt)
    rw [h2]; simpa using this
  · exact pickL_pair b6
  · intro i hi
    simp only [Array.getD_eq_getD_getElem?, Array.getElem?_replicate, hi, if_true, Option.getD_some, true_iff]
    have := List.all_eq_true.1 b3 i (List.mem_range.2 hi)
    exact ⟨nthO ops.toList i, (pickL_mem (p := (i, nthO ops.toList i))).2 ⟨by simpa using this, rfl⟩⟩
  · intro i o ho hl
    simp only [Array.getD_eq_getD_getElem?, Array.getElem?_replicate] at hl
    split at hl <;> simp at hl
  · simp
end
section
variable {P : Program} {n : Nat} {K : Bs} {F : List (Nat × Value)} {h h' : View} {L : List Res} {Q : Exit → Act → World → Prop}
theorem cx_region_floatV {id : Nat} {ops : Array Oper} (LS : List Res) (lou : List Nat) (pre : List Nat) (fy : List (Nat × Nat × (Nat → Value) × Obj)) (post : List Nat) (hm : P.follows .mixedOrders = true) (hB : floatOkL ops (fun i => lou.contains i) (pre ++ (fy.map (·.1) ++ post)) (flY (mkY ops fy)) = true)
    (hx : ∀ D ys, Fl (mkY ops fy) D ys → GX P n K ⟨ops, Hd h LS, fun i => lou.contains i, barOf ops⟩ (mkY ops fy) (pickL ops.toList pre ++ (prY ys ++ pickL ops.toList post)) (F ++ FDy D) h (L ++ LDy D) Q) : CX P n K (.region id ops true) F h L Q := by
  unfold CX
  intro a w f s
  have h1 := hx [] (mkY ops fy) (List.Perm.refl _)
  have e1 : F ++ FDy [] = F := List.append_nil _
  have e2 : L ++ LDy [] = L := List.append_nil _
  rw [e1, e2] at h1
  refine wp_region_floatL (S := Hd h LS) (pre ++ (fy.map (·.1) ++ post)) (flY (mkY ops fy)) hm hB ?_
  have he : pickL ops.toList (pre ++ (fy.map (·.1) ++ post)) = pickL ops.toList pre ++ (prY (mkY ops fy) ++ pickL ops.toList post) := by
    rw [pickL_append, pickL_append]
    congr 2
    clear hx h1 hB
    induction fy with
    | nil => rfl
    | cons x fy ih => simp only [List.map_cons, pickL, mkY, prY] at ih ⊢; rw [ih]
  rw [he]
  exact h1 a w.drew ⟨f.size, f.dfs, f.get⟩ s.drew
end
end Go.Ck
end

section
namespace Go.Ck
open Go
theorem hd_l {h h' : View} {L LS : List Res} (hl : Le h h') (hs : ∀ r ∈ LS, r ∈ L) : ∀ w, Hd h' L w → Hd h LS w := fun w s => Hd.sub s hl hs
end Go.Ck
namespace Go.Proofs.YtaofgcahmfailaaGreatDoor
open Go Go.Ck
set_option maxHeartbeats 1000000
theorem sealC_false : SealC false := fun bv key bn bu bt N U T nm val vn vv pv q del hk hk32 hN hNl hU hT hnm hnl hok hnew yv hvl h hv hsn hsv hsp yp hg w s =>
  ESealX_sp false bv key bn bu bt N U T nm val vn vv pv q del hk hk32 hN hNl hU hT hnm hnl hok hnew yv hvl h hv hsn hsv hsp yp (hg rfl) w s
theorem sealC_any (idl : Bool) : SealC idl := by
  cases idl
  · exact sealC_false
  · exact sealC_true
theorem openC_any (idl : Bool) : OpenC idl := by
  cases idl
  · exact openC_false
  · exact openC_true
theorem back_cop (idl : Bool) {key nm val : List Int} {ep : Int} {del : Bool} {u : List Int} {l : List Dt} {tv : Value} {ek se : List Int} (hk : Bytes key) (hq : (⟨ep, 1, 1, 1, encW u l⟩ : Hdr).ok) (hv : Bytes val) (hl : val.length ≤ 3999) (hc : checkC u l = 0)
    (he : ek = nameX idl key [] nm) (hs : se = sealX idl key [] ep 1 1 (boundF ek ⟨ep, 1, 1, 1, encW u l⟩) (padW (inF del val))) :
    copF idl key (addX idl [] nm) (tabX idl [] ((1, 1, ep, bstr (boundF ek ⟨ep, 1, 1, 1, encW u l⟩), bstr se), tv, padW (inF del val))) nm ((1, 1), u, l, encE ek ⟨ep, 1, 1, 1, encW u l⟩ se) = (0, ep, del, if del then [] else val) := by
  obtain ⟨q, eq⟩ : ∃ q : Hdr, q = ⟨ep, 1, 1, 1, encW u l⟩ := ⟨_, rfl⟩
  rw [← eq] at hq hs ⊢
  have ekl : ek.length = 32 := by rw [he]; exact nameX_len _ _ _ _
  have pl := inF_len (del := del) (val := val) (fun _ => hl)
  have pw : (padW (inF del val)).length ≤ 4096 := by
    have := sizeF_bd (n := ((inF del val).length : Nat)) (by omega) (by omega)
    rw [padW_len (by omega)]
    omega
  have sl : se.length = (padW (inF del val)).length + 16 := by rw [hs]; exact sealX_len _ _ _ _ _ _ _ _
  have hpb : Bytes (padW (inF del val)) := padW_by (inF_by hv)
  have hcop := cop_written (idl := idl) (key := key) (N := addX idl [] nm) (T := tabX idl [] ((1, 1, ep, bstr (boundF ek q), bstr se), tv, padW (inF del val))) (nm := nm) (se := se) (u := u) (l := l) ekl hq ⟨by omega, by omega⟩ hc (by rw [eq])
  have q1 : q.cl = 1 := by rw [eq]
  have q2 : q.nu = 1 := by rw [eq]
  have q3 : q.ep = ep := by rw [eq]
  have q4 : q.ct = 1 := by rw [eq]
  rw [q1, q2, q3] at hcop
  rw [hcop]
  have ho : openX idl key (addX idl [] nm) (tabX idl [] ((1, 1, ep, bstr (boundF ek q), bstr se), tv, padW (inF del val))) nm ek q se = (if del then [] else val, del, 0) := by
    rw [← valF_pad (del := del) hv (fun _ => hl)]
    cases idl with
    | true =>
      refine openF_in (x := (tv, padW (inF del val))) ?_ ?_
      · rw [he]
        exact addX_name true key [] nm
      · show (if _ = _ then _ else _) = _
        rw [if_pos (by rw [q1, q3, q4])]
    | false =>
      show openR key nm ek q se = _
      have he2 : ek = blindR key nm := he
      have hs2 : se = sealR key q.ep q.cl q.ct (boundF ek q) (padW (inF del val)) := by rw [q1, q3, q4]; exact hs
      rw [hs2, he2]
      exact openR_in hpb
  rw [ho]
  rfl
end Go.Proofs.YtaofgcahmfailaaGreatDoor
end

section
namespace Go.Proofs.YtaofgcahmfailaaGreatDoor
open Go Go.Ck
set_option maxHeartbeats 1000000
structure W1 where
  hh : View
  bl : List Int
  g : Sb
  er : Int
  ct : Int
  K : List (ByteArray × Value)
  N : List (List Int)
  U : List UseK
  T : Tab
def W1Ok (idl : Bool) (key nm val : List Int) (ep : Int) (del : Bool) (u : List Int) (l : List Dt) (y : W1) : Prop :=
  y.bl.length = 32 ∧ Sv y.hh y.g ∧ ((y.er ≠ 0 ∧ y.g.b = []) ∨ (y.er = 0 ∧ nm.length ≤ 64 ∧ checkC u l = 0 ∧ (⟨ep, 1, 1, 1, encW u l⟩ : Hdr).ok ∧ y.N = addX idl [] nm ∧
    ∃ tv se, se = sealX idl key [] ep 1 1 (boundF (nameX idl key [] nm) ⟨ep, 1, 1, 1, encW u l⟩) (padW (inF del val)) ∧
      y.T = tabX idl [] ((1, 1, ep, bstr (boundF (nameX idl key [] nm) ⟨ep, 1, 1, 1, encW u l⟩), bstr se), tv, padW (inF del val)) ∧ Bs8 y.hh tv (padW (inF del val)) ∧
      y.g.a = ((1, 1), u, l, encE (nameX idl key [] nm) ⟨ep, 1, 1, 1, encW u l⟩ se)))
theorem CWrite1_sp (idl : Bool) (c : Nat) (bv : Nat) (ep : Int) (m1 : Nat) (key : List Int) (bn bu bt : Nat) (nm val : List Int) (del : Bool) (u : List Int) (l : List Dt) (vn vv cv : Value)
    (hep : 1 ≤ ep ∧ ep ≤ 1048576) (hk : Bytes key) (hk32 : key.length = 32) (hnm : Bytes nm) (hnl : 1 ≤ nm.length) (yv : Bytes val) (hvl : val.length ≤ 3999) (hl : l.length ≤ 1000000)
    (h : View) (hv : Vb h bv idl key bn bu bt) (hsn : Bs8 h vn nm) (hsv : Bs8 h vv val) (hc : Cx h cv u l) (hg : ShG h) (w : World) (s : St ⟨w, h, doms [clR c 1 bv ep 0 m1, cmR m1 [], nmR bn [], usR bu [], tbR bt []]⟩ h [clR c 1 bv ep 0 m1, cmR m1 [], nmR bn [], usR bu [], tbR bt []] w) :
    Calls Tryz.prog 9 [.pointer (some ⟨c, 0, none⟩), vn, vv, .bool del, cv].toArray w fun e w' => ∃ y : W1, e = .returned (.tuple #[.agg (bcs y.bl).toArray, sbv y.g, .int .i64 y.er]) ∧
      St ⟨w, h, doms [clR c 1 bv ep 0 m1, cmR m1 [], nmR bn [], usR bu [], tbR bt []]⟩ y.hh [clR c 1 bv ep y.ct m1, cmR m1 y.K, nmR bn y.N, usR bu y.U, tbR bt y.T] w' ∧ W1Ok idl key nm val ep del u l y := by
  have zs : ∀ h, Sv h zSb := fun h => ⟨Sc.nil _ _ _ _, Sc.nil _ _ _ _, fun x hx => by cases hx⟩
  by_cases hhd : headE u l (1, 0 + 1) = 0
  · by_cases hn6 : nm.length ≤ 64
    · have hk0 : checkC u l = 0 := by
        unfold headE at hhd
        split at hhd
        · assumption
        · exact hhd
      have hcl : l.length ≤ 32 := (check_right hk0).2.1
      obtain ⟨hu, _⟩ := id hc
      have hq : (⟨ep, 1, 1, 1, encW u l⟩ : Hdr).ok := by
        have hl2 : (encW u l).length = 129 + 16 * l.length := encW_lenC u l hu
        refine ⟨hep, ⟨?_, ?_⟩, ⟨?_, ?_⟩, ⟨?_, ?_⟩, ?_⟩ <;> dsimp only <;> omega
      refine (CWrite_sp idl (sealC_any idl) c 1 bv ep 0 m1 [] key bn bu bt [] [] [] nm val 0 del u l vn vv cv (by omega) hep (by omega) (by omega) rfl hhd hk hk32 (fun x hx => by cases hx) (by decide) (by decide) (fun x hx => by cases hx) hnm ⟨hnl, hn6⟩ (by simp) yv (fun _ => hvl) h hv hsn hsv hc (fun _ => hg) w s).mono fun e w' he => ?_
      obtain ⟨⟨h2, g, tv, se⟩, rfl, st, htv, hgv, hse, hga⟩ := he
      exact ⟨⟨h2, nameX idl key [] nm, g, 0, 0 + 1, mput [] (bstr nm) (.int .i64 (0 + 1)), addX idl [] nm, [] ++ [(1, 0 + 1)], _⟩, rfl, st, nameX_len _ _ _ _, hgv, .inr ⟨rfl, hn6, hk0, hq, rfl, tv, se, hse, rfl, htv, hga⟩⟩
    · refine (calls_frame (Li := [clR c 1 bv ep 0 m1, cmR m1 []]) (Lr := [nmR bn [], usR bu [], tbR bt []]) (.refl _) (CWrite_long c 1 bv ep 0 m1 [] nm 0 del u l vn vv cv (by omega) (by omega) (by omega) rfl hhd (by omega) h hsn hc) s).mono fun e w' he => ?_
      obtain ⟨h2, rfl, st, _⟩ := he
      exact ⟨⟨h2, List.replicate 32 0, zSb, 1, 0, [], [], [], []⟩, rfl, st, rfl, zs _, .inl ⟨by show (1 : Int) ≠ 0; decide, rfl⟩⟩
  · refine (calls_frame (Li := [clR c 1 bv ep 0 m1, cmR m1 []]) (Lr := [nmR bn [], usR bu [], tbR bt []]) (.refl _) (CWrite_no c 1 bv ep 0 m1 [] nm 0 del u l vn vv cv (by omega) (by omega) (by omega) rfl hhd (by omega) h hsn hc) s).mono fun e w' he => ?_
    obtain ⟨h2, rfl, st, _⟩ := he
    exact ⟨⟨h2, List.replicate 32 0, zSb, headE u l (1, 0 + 1), 0, [], [], [], []⟩, rfl, st, rfl, zs _, .inl ⟨hhd, rfl⟩⟩
end Go.Proofs.YtaofgcahmfailaaGreatDoor
end

section
namespace Go.Ck
open Go
section
variable {P : Program} {n : Nat} {K : Bs} {F : List (Nat × Value)} {h : View} {L : List Res} {Q : Exit → Act → World → Prop}
theorem cx_less {c : Code} (F' : List (Nat × Value)) (hs : Sub F' F) (hx : CX P n K c F' h L Q) : CX P n K c F h L Q := by
  unfold CX at *
  exact fun a w f s => hx a w (f.sub hs) s
end
end Go.Ck
end
