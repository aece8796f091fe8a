/-
  Part 18 of a proof: CiO CmZ CjD CmD CkPiece CmE CkFloL CkLess CjF.
  Conditions: each theorem states its own.
-/
import Derived.Test.YtaofgcahmfailaaGreatDoorCmNPM17
set_option maxRecDepth 100000
set_option linter.unusedVariables false
set_option linter.unusedSimpArgs false
section
namespace Go.Proofs.YtaofgcahmfailaaGreatDoor
open Go Go.Ck
set_option maxHeartbeats 1000000
def Vl.r (v : Vl) : Vl := ⟨v.d, v.ep, v.u, v.hu, v.l, v.mv, v.gone, v.b, .string (bstr v.b)⟩
structure Vr (h : View) (v : Vl) : Prop where
  ds : Ds h v.mv v.l
  bs : v.bv = .string (bstr v.b)
theorem Vv.r {h : View} {v : Vl} (s : Vv h v) : Vr h v.r := ⟨s.ds, rfl⟩
theorem Vr.mono {h h' : View} {v : Vl} (s : Vr h v) (hl : Le h h') : Vr h' v := ⟨s.ds.mono hl, s.bs⟩
theorem Vr.one {h : View} {v : Vl} (s : Vr h v) : (Value.agg (vlc v).toArray).cells.toList.all Value.oneCell' = true := by
  show (vlc v).all Value.oneCell' = true
  obtain ⟨_, _, _, e1, _⟩ := s.ds
  have h1 : v.mv.oneCell' = true := by rw [e1]; rfl
  have h2 : v.bv.oneCell' = true := by rw [s.bs]; rfl
  have h4 : (cxc v.u v.mv).all Value.oneCell' = true := cxc_one h1
  simp only [vlc, List.all_append, h4, List.all_cons, List.all_nil, h2, Bool.and_true, dcs]
  rfl
theorem fill_rv {d : Dt} {ep : Int} {u : List Int} {mv : Value} {t : Bool} {a : ByteArray} (hu : u.length = 16) : fillL (fun i : Nat => ([(0, 2), (2, 1), (3, 17), (20, 1), (21, 1)] : List (Nat × Nat))[i]?) ([.int .i64 0, .int .i64 0, .int .i64 0] ++ (up zeroU ++ [.slice none 0 0, .bool false, .string ⟨#[]⟩])) [(0, .agg (dcs d).toArray), (1, .int .i64 ep), (2, .agg (cxc u mv).toArray), (3, .bool t), (4, .string a)] = some (dcs d ++ (.int .i64 ep :: (cxc u mv ++ [.bool t, .string a]))) := by
  obtain ⟨a0, a1, a2, a3, a4, a5, a6, a7, a8, a9, a10, a11, a12, a13, a14, a15, rfl⟩ := list16 u hu
  unfold fillL fillL fillL fillL fillL fillL
  rfl
section
variable {h : View} {L : List Res} {b : Nat} {v : Vl}
theorem vl_dot (c : Cells h L ⟨b, 0, none⟩ (vlc v)) : Cells h L ⟨b, 0 + 0, none⟩ (dcs v.d) := c.take 2
theorem vl_ep (c : Cells h L ⟨b, 0, none⟩ (vlc v)) : CellAt h L b (0 + 2) (.int .i64 v.ep) := c.cell (j := 2) rfl
theorem vl_past (c : Cells h L ⟨b, 0, none⟩ (vlc v)) : Cells h L ⟨b, 0 + 3, none⟩ (cxc v.u v.mv) := by
  have h1 := (c.drop 3).take 17
  have h2 : ((vlc v).drop 3).take 17 = cxc v.u v.mv := by
    have hc := ycj (mv := v.mv) v.hu
    show (cxc v.u v.mv ++ [Value.bool v.gone, v.bv]).take 17 = _
    rw [List.take_left' hc]
  rw [h2] at h1
  exact h1
theorem vl_gone (c : Cells h L ⟨b, 0, none⟩ (vlc v)) : CellAt h L b (0 + 20) (.bool v.gone) := by
  refine c.cell (j := 20) ?_
  have hc := ycj (mv := v.mv) v.hu
  show (cxc v.u v.mv ++ [Value.bool v.gone, v.bv])[17]? = _
  rw [List.getElem?_append_right (by omega), hc]
  rfl
theorem vl_bv (c : Cells h L ⟨b, 0, none⟩ (vlc v)) {w : Value} (e : v.bv = w) : CellAt h L b (0 + 21) w := by
  subst e
  refine c.cell (j := 21) ?_
  have hc := ycj (mv := v.mv) v.hu
  show (cxc v.u v.mv ++ [Value.bool v.gone, v.bv])[18]? = _
  rw [List.getElem?_append_right (by omega), hc]
  rfl
end
theorem value7_sp (v : Vl) (h : View) (hv : Vv h v) (w : World) (s : St ⟨w, h, []⟩ h [] w) :
    Calls Tryz.prog 18 [.agg (vlc v).toArray].toArray w fun e w' => e = .returned (.agg (vlc v.r).toArray) ∧ St ⟨w, h, []⟩ h [] w' := by
  have hvl := vlc_len v
  have hrl := vlc_len v.r
  have hone := hv.one
  have hro := hv.r.one
  have hbs := hv.bs
  obtain ⟨_, adb, capb, hbv, _, _⟩ := (show Bs8 _ _ _ from hv.bs)
  have hbs2 : Bs8 h (.slice adb v.b.length capb) v.b := hbv ▸ hbs
  have B1 := back7_sp v.u v.hu v.l v.mv h hv.ds
  have hfz : fillL (fun i : Nat => ([(0, 2), (2, 1), (3, 17), (20, 1), (21, 1)] : List (Nat × Nat))[i]?) ([.int .i64 0, .int .i64 0, .int .i64 0] ++ (up zeroU ++ [.slice none 0 0, .bool false, .string ⟨#[]⟩])) [(0, .agg (dcs v.d).toArray), (1, .int .i64 v.ep), (2, .agg (cxc v.u v.mv).toArray), (3, .bool v.gone), (4, .string (bstr v.b))] = some (vlc v.r) := fill_rv v.hu
  refine calls_enter Tryz.func18 rfl Tryz.ntmps18 rfl s ?_
  repeat' (first|(refine ybg 0 rfl rfl rfl (by show (vlc v).toArray.size = 22;rw [List.size_toArray, hvl]) (by show 0 + (vlc v).toArray.size ≤ 22;rw [List.size_toArray, hvl];omega) hone (ybh (by show (vlc v).length = 22;rw [hvl])) rfl rfl ?_ ?_ ?_;(·(exact to_));(·(exact to_)))|refine t1_ ?_|(refine ta_ ?_;intro _)|((fail_if_success (refine ybi rfl ?_));refine ybj rfl ?_ ?_<;>(intro ht;rw [ht];first|replace ht := oet_ ht|replace ht := oef_ ht|skip))|(refine ych ?_;first|(refine ybw rfl ?_ ?_<;>intro ht)|(refine ybx rfl ?_ ?_<;>intro ht)))
  rename_i b1 b2
  refine cx_perm (L' := [Res.blk b2 (.cells (vlc zVl.r).toArray 67 (0, 0)), Res.blk b1 (.cells (vlc v).toArray 71 (0, 0))]) (.refl _) ?_
  refine cx_region_draw [Res.blk b1 (.cells (vlc v).toArray 71 (0, 0))] rfl (by kernel_rfl) ?_
  repeat' (refine ycf ?_;(first|(first|(apply ybm;(·(first|(first|(apply yad;(·rfl);(·exact vl_dot (yaz 0 rfl));(·rfl))|(apply yad;(·rfl);(·exact vl_past (yaz 0 rfl));(·exact ycj v.hu))|(refine qv_str_bs rfl hbs2)|(apply yax (cs := vlc v.r);(·rfl);(·exact hfz)))|(apply yae;(·rfl);(·(first|exact vl_ep (yaz 0 rfl)|exact vl_gone (yaz 0 rfl)|exact vl_bv (yaz 0 rfl) hbv)))|exact tq_));(·rfl);(·rfl);(·(first|exact fun _ s => Hd.sub s (Le.refl _) (fun r hr => by rw [List.mem_singleton.1 hr];exact tm_)|exact fun _ s => Hd.sub s hle (fun r hr => by rw [List.mem_singleton.1 hr];exact tm_))))|refine ybl rfl rfl ?_|((fail_if_success (refine ybi rfl ?_));refine ybj rfl ?_ ?_<;>(intro ht;rw [ht];first|replace ht := oet_ ht|replace ht := oef_ ht|skip))|(refine tb_ ?_ ?_ ?_;(·(first|exact ybf|(refine .inl ?_;(first|exact fun _ s => Hd.sub s (Le.refl _) (fun r hr => by rw [List.mem_singleton.1 hr];exact tm_)|exact fun _ s => Hd.sub s hle (fun r hr => by rw [List.mem_singleton.1 hr];exact tm_)))|exact to_));(·intro _;(first|exact ybf|(refine .inl ?_;(first|exact fun _ s => Hd.sub s (Le.refl _) (fun r hr => by rw [List.mem_singleton.1 hr];exact tm_)|exact fun _ s => Hd.sub s hle (fun r hr => by rw [List.mem_singleton.1 hr];exact tm_)))|exact to_));intro _)|(first|(refine ybg 0 rfl rfl rfl (by show (vlc v.r).toArray.size = 22;rw [List.size_toArray, hrl]) (by show 0 + (vlc v.r).toArray.size ≤ 22;rw [List.size_toArray, hrl];omega) hro (ybh (by show (vlc v.r).length = 22;rw [hrl])) rfl rfl ?_ ?_ ?_;(·(first|exact ybf|(refine .inl ?_;(first|exact fun _ s => Hd.sub s (Le.refl _) (fun r hr => by rw [List.mem_singleton.1 hr];exact tm_)|exact fun _ s => Hd.sub s hle (fun r hr => by rw [List.mem_singleton.1 hr];exact tm_)))|exact to_));(·(first|exact ybf|(refine .inl ?_;(first|exact fun _ s => Hd.sub s (Le.refl _) (fun r hr => by rw [List.mem_singleton.1 hr];exact tm_)|exact fun _ s => Hd.sub s hle (fun r hr => by rw [List.mem_singleton.1 hr];exact tm_)))|exact to_)))|(refine tqs_ ?_ ?_ ?_;(·(first|exact ybf|(refine .inl ?_;(first|exact fun _ s => Hd.sub s (Le.refl _) (fun r hr => by rw [List.mem_singleton.1 hr];exact tm_)|exact fun _ s => Hd.sub s hle (fun r hr => by rw [List.mem_singleton.1 hr];exact tm_)))|exact to_));(·(first|exact ybf|(refine .inl ?_;(first|exact fun _ s => Hd.sub s (Le.refl _) (fun r hr => by rw [List.mem_singleton.1 hr];exact tm_)|exact fun _ s => Hd.sub s hle (fun r hr => by rw [List.mem_singleton.1 hr];exact tm_)))|exact to_))))|(apply ybn;(·(first|(first|(apply yad;(·rfl);(·exact vl_dot (yaz 0 rfl));(·rfl))|(apply yad;(·rfl);(·exact vl_past (yaz 0 rfl));(·exact ycj v.hu))|(refine qv_str_bs rfl hbs2)|(apply yax (cs := vlc v.r);(·rfl);(·exact hfz)))|(apply yae;(·rfl);(·(first|exact vl_ep (yaz 0 rfl)|exact vl_gone (yaz 0 rfl)|exact vl_bv (yaz 0 rfl) hbv)))|exact tq_));(·rfl);(·rfl);(·rfl);(·(first|exact ybf|(refine .inl ?_;(first|exact fun _ s => Hd.sub s (Le.refl _) (fun r hr => by rw [List.mem_singleton.1 hr];exact tm_)|exact fun _ s => Hd.sub s hle (fun r hr => by rw [List.mem_singleton.1 hr];exact tm_)))|exact to_))))|refine ycg ?_))
  (refine ycn (ycp Tryz.func20 rfl (by kernel_rfl) rfl) (B1) rfl rfl rfl ?_ ?_;(·(first|exact ybf|(refine .inl ?_;(first|exact fun _ s => Hd.sub s (Le.refl _) (fun r hr => by rw [List.mem_singleton.1 hr];exact tm_)|exact fun _ s => Hd.sub s hle (fun r hr => by rw [List.mem_singleton.1 hr];exact tm_)))|exact to_)))
  repeat' (refine ycf ?_;(first|(first|(apply ybm;(·(first|(first|(apply yad;(·rfl);(·exact vl_dot (yaz 0 rfl));(·rfl))|(apply yad;(·rfl);(·exact vl_past (yaz 0 rfl));(·exact ycj v.hu))|(refine qv_str_bs rfl hbs2)|(apply yax (cs := vlc v.r);(·rfl);(·exact hfz)))|(apply yae;(·rfl);(·(first|exact vl_ep (yaz 0 rfl)|exact vl_gone (yaz 0 rfl)|exact vl_bv (yaz 0 rfl) hbv)))|exact tq_));(·rfl);(·rfl);(·(first|exact fun _ s => Hd.sub s (Le.refl _) (fun r hr => by rw [List.mem_singleton.1 hr];exact tm_)|exact fun _ s => Hd.sub s hle (fun r hr => by rw [List.mem_singleton.1 hr];exact tm_))))|refine ybl rfl rfl ?_|((fail_if_success (refine ybi rfl ?_));refine ybj rfl ?_ ?_<;>(intro ht;rw [ht];first|replace ht := oet_ ht|replace ht := oef_ ht|skip))|(refine tb_ ?_ ?_ ?_;(·(first|exact ybf|(refine .inl ?_;(first|exact fun _ s => Hd.sub s (Le.refl _) (fun r hr => by rw [List.mem_singleton.1 hr];exact tm_)|exact fun _ s => Hd.sub s hle (fun r hr => by rw [List.mem_singleton.1 hr];exact tm_)))|exact to_));(·intro _;(first|exact ybf|(refine .inl ?_;(first|exact fun _ s => Hd.sub s (Le.refl _) (fun r hr => by rw [List.mem_singleton.1 hr];exact tm_)|exact fun _ s => Hd.sub s hle (fun r hr => by rw [List.mem_singleton.1 hr];exact tm_)))|exact to_));intro _)|(first|(refine ybg 0 rfl rfl rfl (by show (vlc v.r).toArray.size = 22;rw [List.size_toArray, hrl]) (by show 0 + (vlc v.r).toArray.size ≤ 22;rw [List.size_toArray, hrl];omega) hro (ybh (by show (vlc v.r).length = 22;rw [hrl])) rfl rfl ?_ ?_ ?_;(·(first|exact ybf|(refine .inl ?_;(first|exact fun _ s => Hd.sub s (Le.refl _) (fun r hr => by rw [List.mem_singleton.1 hr];exact tm_)|exact fun _ s => Hd.sub s hle (fun r hr => by rw [List.mem_singleton.1 hr];exact tm_)))|exact to_));(·(first|exact ybf|(refine .inl ?_;(first|exact fun _ s => Hd.sub s (Le.refl _) (fun r hr => by rw [List.mem_singleton.1 hr];exact tm_)|exact fun _ s => Hd.sub s hle (fun r hr => by rw [List.mem_singleton.1 hr];exact tm_)))|exact to_)))|(refine tqs_ ?_ ?_ ?_;(·(first|exact ybf|(refine .inl ?_;(first|exact fun _ s => Hd.sub s (Le.refl _) (fun r hr => by rw [List.mem_singleton.1 hr];exact tm_)|exact fun _ s => Hd.sub s hle (fun r hr => by rw [List.mem_singleton.1 hr];exact tm_)))|exact to_));(·(first|exact ybf|(refine .inl ?_;(first|exact fun _ s => Hd.sub s (Le.refl _) (fun r hr => by rw [List.mem_singleton.1 hr];exact tm_)|exact fun _ s => Hd.sub s hle (fun r hr => by rw [List.mem_singleton.1 hr];exact tm_)))|exact to_))))|(apply ybn;(·(first|(first|(apply yad;(·rfl);(·exact vl_dot (yaz 0 rfl));(·rfl))|(apply yad;(·rfl);(·exact vl_past (yaz 0 rfl));(·exact ycj v.hu))|(refine qv_str_bs rfl hbs2)|(apply yax (cs := vlc v.r);(·rfl);(·exact hfz)))|(apply yae;(·rfl);(·(first|exact vl_ep (yaz 0 rfl)|exact vl_gone (yaz 0 rfl)|exact vl_bv (yaz 0 rfl) hbv)))|exact tq_));(·rfl);(·rfl);(·rfl);(·(first|exact ybf|(refine .inl ?_;(first|exact fun _ s => Hd.sub s (Le.refl _) (fun r hr => by rw [List.mem_singleton.1 hr];exact tm_)|exact fun _ s => Hd.sub s hle (fun r hr => by rw [List.mem_singleton.1 hr];exact tm_)))|exact to_))))|refine ycg ?_))
  repeat' (first|(refine ycf ?_;apply ybk;(·first|(first|(apply yad;(·rfl);(·exact vl_dot (yaz 0 rfl));(·rfl))|(apply yad;(·rfl);(·exact vl_past (yaz 0 rfl));(·exact ycj v.hu))|(refine qv_str_bs rfl hbs2)|(apply yax (cs := vlc v.r);(·rfl);(·exact hfz)))|(apply yae;(·rfl);(·(first|exact vl_ep (yaz 0 rfl)|exact vl_gone (yaz 0 rfl)|exact vl_bv (yaz 0 rfl) hbv))));(·rfl);(·rfl))|(refine ybg 0 rfl rfl rfl (by show (vlc v.r).toArray.size = 22;rw [List.size_toArray, hrl]) (by show 0 + (vlc v.r).toArray.size ≤ 22;rw [List.size_toArray, hrl];omega) hro (ybh (by show (vlc v.r).length = 22;rw [hrl])) rfl rfl ?_ ?_ ?_;(·(first|exact ybf|(refine .inl ?_;(first|exact fun _ s => Hd.sub s (Le.refl _) (fun r hr => by rw [List.mem_singleton.1 hr];exact tm_)|exact fun _ s => Hd.sub s hle (fun r hr => by rw [List.mem_singleton.1 hr];exact tm_)))|exact to_));(·(first|exact ybf|(refine .inl ?_;(first|exact fun _ s => Hd.sub s (Le.refl _) (fun r hr => by rw [List.mem_singleton.1 hr];exact tm_)|exact fun _ s => Hd.sub s hle (fun r hr => by rw [List.mem_singleton.1 hr];exact tm_)))|exact to_)))|refine t1_ ?_|(refine ta_ ?_;intro _)|((fail_if_success (refine ybi rfl ?_));refine ybj rfl ?_ ?_<;>(intro ht;rw [ht];first|replace ht := oet_ ht|replace ht := oef_ ht|skip))|(refine ych ?_;first|(refine ybw rfl ?_ ?_<;>intro ht)|(refine ybx rfl ?_ ?_<;>intro ht)))
  exact nx_ret1 rfl (rv_cells rfl (yaz 0 rfl) hrl) (fun w' s' => ⟨rfl, s'.nil⟩)
theorem same27_sp (x y : Vl) (h : View) (hx : Vr h x) (hy : Vr h y) (bx : Bytes x.b) (bY : Bytes y.b) (lx : x.l.length ≤ 4611686018427387904) (ly : y.l.length ≤ 4611686018427387904) (w : World) (s : St ⟨w, h, []⟩ h [] w) :
    Calls Tryz.prog 17 [.agg (vlc x).toArray, .agg (vlc y).toArray].toArray w fun e w' => e = .returned (.bool (decide (x.t = y.t))) ∧ St ⟨w, h, []⟩ h [] w' := by
  have e : decide (x.t = y.t) = (decide (x.d = y.d) && (decide (x.ep = y.ep) && ((x.gone == y.gone) && (decide (x.b = y.b) && (decide (x.u = y.u) && decide (x.l = y.l)))))) := by
    rw [Bool.eq_iff_iff]
    simp only [decide_eq_true_eq, Bool.and_eq_true, beq_iff_eq, Vl.t, Prod.mk.injEq]
    constructor
    · rintro ⟨a, b, c, d, e, f⟩; exact ⟨a, d, e, f, b, c⟩
    · rintro ⟨a, d, e, f, b, c⟩; exact ⟨a, b, c, d, e, f⟩
  rw [e]
  have hxl := vlc_len x
  have hyl := vlc_len y
  have hxo := hx.one
  have hyo := hy.one
  have D1 := dot_eq x.d y.d
  have S1 := bstr_eqC bx bY
  have C1 := refSame_sp (cxv x.u x.mv) (cxv y.u y.mv) x.u y.u x.l y.l h ⟨x.hu, _, rfl, hx.ds⟩ ⟨y.hu, _, rfl, hy.ds⟩ lx ly
  generalize decide (x.d = y.d) = b1 at D1 ⊢
  generalize decide (x.b = y.b) = b4 at S1 ⊢
  refine calls_enter Tryz.func17 rfl Tryz.ntmps17 rfl s ?_
  iterate 4 (first|(refine ycf ?_;apply ybk;(·first|(first|(apply yad;(·rfl);(·exact vl_dot (yaz 0 rfl));(·rfl))|(apply yad;(·rfl);(·exact vl_past (yaz 0 rfl));(·exact ycj v.hu))|(refine qv_str_bs rfl hbs2)|(apply yax (cs := vlc v.r);(·rfl);(·exact hfz)))|(apply yae;(·rfl);(·(first|exact vl_ep (yaz 0 rfl)|exact vl_gone (yaz 0 rfl)|exact vl_bv (yaz 0 rfl) hbv))));(·rfl);(·rfl))|(refine ybg 0 rfl rfl rfl (by show (vlc v.r).toArray.size = 22;rw [List.size_toArray, hrl]) (by show 0 + (vlc v.r).toArray.size ≤ 22;rw [List.size_toArray, hrl];omega) hro (ybh (by show (vlc v.r).length = 22;rw [hrl])) rfl rfl ?_ ?_ ?_;(·(first|exact ybf|(refine .inl ?_;(first|exact fun _ s => Hd.sub s (Le.refl _) (fun r hr => by rw [List.mem_singleton.1 hr];exact tm_)|exact fun _ s => Hd.sub s hle (fun r hr => by rw [List.mem_singleton.1 hr];exact tm_)))|exact to_));(·(first|exact ybf|(refine .inl ?_;(first|exact fun _ s => Hd.sub s (Le.refl _) (fun r hr => by rw [List.mem_singleton.1 hr];exact tm_)|exact fun _ s => Hd.sub s hle (fun r hr => by rw [List.mem_singleton.1 hr];exact tm_)))|exact to_)))|refine t1_ ?_|(refine ta_ ?_;intro _)|((fail_if_success (refine ybi rfl ?_));refine ybj rfl ?_ ?_<;>(intro ht;rw [ht];first|replace ht := oet_ ht|replace ht := oef_ ht|skip))|(refine ych ?_;first|(refine ybw rfl ?_ ?_<;>intro ht)|(refine ybx rfl ?_ ?_<;>intro ht)))
  rename_i b2 b3
  refine rx_perm (L' := [Res.blk b3 (.cells (vlc y).toArray 67 (0, 0)), Res.blk b2 (.cells (vlc x).toArray 67 (0, 0))]) (.refl _) ?_
  cases b1
  · repeat' (first|(refine ycf ?_;apply ybk;(·first|(first|(apply yad;(·rfl);(·exact vl_dot (yaz 1 rfl));(·rfl))|(apply yad;(·rfl);(·exact vl_dot (yaz 0 rfl));(·rfl))|(apply yad;(·rfl);(·exact vl_past (yaz 1 rfl));(·exact ycj x.hu))|(apply yad;(·rfl);(·exact vl_past (yaz 0 rfl));(·exact ycj y.hu))|(refine qv_eql_agg rfl rfl D1)|(refine qv_eql_str rfl rfl S1)|(refine qv_eql_bool rfl rfl rfl)|exact tk_)|(apply yae;(·rfl);(·(first|exact vl_ep (yaz 1 rfl)|exact vl_ep (yaz 0 rfl)|exact vl_gone (yaz 1 rfl)|exact vl_gone (yaz 0 rfl)|exact vl_bv (yaz 1 rfl) hx.bs|exact vl_bv (yaz 0 rfl) hy.bs))));(·rfl);(·rfl))|(refine ybg 0 rfl rfl rfl (by show (vlc v.r).toArray.size = 22;rw [List.size_toArray, hrl]) (by show 0 + (vlc v.r).toArray.size ≤ 22;rw [List.size_toArray, hrl];omega) hro (ybh (by show (vlc v.r).length = 22;rw [hrl])) rfl rfl ?_ ?_ ?_;(·(first|exact ybf|(refine .inl ?_;(first|exact fun _ s => Hd.sub s (Le.refl _) (fun r hr => by rw [List.mem_singleton.1 hr];exact tm_)|exact fun _ s => Hd.sub s hle (fun r hr => by rw [List.mem_singleton.1 hr];exact tm_)))|exact to_));(·(first|exact ybf|(refine .inl ?_;(first|exact fun _ s => Hd.sub s (Le.refl _) (fun r hr => by rw [List.mem_singleton.1 hr];exact tm_)|exact fun _ s => Hd.sub s hle (fun r hr => by rw [List.mem_singleton.1 hr];exact tm_)))|exact to_)))|refine t1_ ?_|(refine ta_ ?_;intro _)|((fail_if_success (refine ybi rfl ?_));refine ybj rfl ?_ ?_<;>(intro ht;rw [ht];first|replace ht := oet_ ht|replace ht := oef_ ht|skip))|(refine ych ?_;first|(refine ybw rfl ?_ ?_<;>intro ht)|(refine ybx rfl ?_ ?_<;>intro ht)))
    exact nx_ret1 rfl (rv_tmp rfl) (fun w' s' => ⟨rfl, s'.nil⟩)
  by_cases hep : x.ep = y.ep
  · rw [decide_eq_true hep]
    cases hg : (x.gone == y.gone)
    · repeat' (first|(refine ycf ?_;apply ybk;(·first|(first|(apply yad;(·rfl);(·exact vl_dot (yaz 1 rfl));(·rfl))|(apply yad;(·rfl);(·exact vl_dot (yaz 0 rfl));(·rfl))|(refine qv_eql_agg rfl rfl D1)|(refine qv_eql_bool rfl rfl hg)|exact tk_)|(apply yae;(·rfl);(·(first|exact vl_ep (yaz 1 rfl)|exact vl_ep (yaz 0 rfl)|exact vl_gone (yaz 1 rfl)|exact vl_gone (yaz 0 rfl)|exact vl_bv (yaz 1 rfl) hx.bs|exact vl_bv (yaz 0 rfl) hy.bs))));(·rfl);(·rfl))|(refine ybg 0 rfl rfl rfl (by show (vlc v.r).toArray.size = 22;rw [List.size_toArray, hrl]) (by show 0 + (vlc v.r).toArray.size ≤ 22;rw [List.size_toArray, hrl];omega) hro (ybh (by show (vlc v.r).length = 22;rw [hrl])) rfl rfl ?_ ?_ ?_;(·(first|exact ybf|(refine .inl ?_;(first|exact fun _ s => Hd.sub s (Le.refl _) (fun r hr => by rw [List.mem_singleton.1 hr];exact tm_)|exact fun _ s => Hd.sub s hle (fun r hr => by rw [List.mem_singleton.1 hr];exact tm_)))|exact to_));(·(first|exact ybf|(refine .inl ?_;(first|exact fun _ s => Hd.sub s (Le.refl _) (fun r hr => by rw [List.mem_singleton.1 hr];exact tm_)|exact fun _ s => Hd.sub s hle (fun r hr => by rw [List.mem_singleton.1 hr];exact tm_)))|exact to_)))|refine t1_ ?_|(refine ta_ ?_;intro _)|((fail_if_success (refine ybi rfl ?_));refine ybj rfl ?_ ?_<;>(intro ht;rw [ht];first|replace ht := oet_ ht|replace ht := oef_ ht|skip))|(refine ych ?_;first|(refine ybw rfl ?_ ?_<;>intro ht)|(refine ybx rfl ?_ ?_<;>intro ht)))
      exact nx_ret1 rfl (rv_tmp rfl) (fun w' s' => ⟨rfl, s'.nil⟩)
    cases b4
    · repeat' (first|(refine ycf ?_;apply ybk;(·first|(first|(apply yad;(·rfl);(·exact vl_dot (yaz 1 rfl));(·rfl))|(apply yad;(·rfl);(·exact vl_dot (yaz 0 rfl));(·rfl))|(refine qv_eql_agg rfl rfl D1)|(refine qv_eql_str rfl rfl S1)|(refine qv_eql_bool rfl rfl hg)|exact tk_)|(apply yae;(·rfl);(·(first|exact vl_ep (yaz 1 rfl)|exact vl_ep (yaz 0 rfl)|exact vl_gone (yaz 1 rfl)|exact vl_gone (yaz 0 rfl)|exact vl_bv (yaz 1 rfl) hx.bs|exact vl_bv (yaz 0 rfl) hy.bs))));(·rfl);(·rfl))|(refine ybg 0 rfl rfl rfl (by show (vlc v.r).toArray.size = 22;rw [List.size_toArray, hrl]) (by show 0 + (vlc v.r).toArray.size ≤ 22;rw [List.size_toArray, hrl];omega) hro (ybh (by show (vlc v.r).length = 22;rw [hrl])) rfl rfl ?_ ?_ ?_;(·(first|exact ybf|(refine .inl ?_;(first|exact fun _ s => Hd.sub s (Le.refl _) (fun r hr => by rw [List.mem_singleton.1 hr];exact tm_)|exact fun _ s => Hd.sub s hle (fun r hr => by rw [List.mem_singleton.1 hr];exact tm_)))|exact to_));(·(first|exact ybf|(refine .inl ?_;(first|exact fun _ s => Hd.sub s (Le.refl _) (fun r hr => by rw [List.mem_singleton.1 hr];exact tm_)|exact fun _ s => Hd.sub s hle (fun r hr => by rw [List.mem_singleton.1 hr];exact tm_)))|exact to_)))|refine t1_ ?_|(refine ta_ ?_;intro _)|((fail_if_success (refine ybi rfl ?_));refine ybj rfl ?_ ?_<;>(intro ht;rw [ht];first|replace ht := oet_ ht|replace ht := oef_ ht|skip))|(refine ych ?_;first|(refine ybw rfl ?_ ?_<;>intro ht)|(refine ybx rfl ?_ ?_<;>intro ht)))
      exact nx_ret1 rfl (rv_tmp rfl) (fun w' s' => ⟨rfl, s'.nil⟩)
    repeat' (first|(refine ycf ?_;apply ybk;(·first|(first|(apply yad;(·rfl);(·exact vl_dot (yaz 1 rfl));(·rfl))|(apply yad;(·rfl);(·exact vl_dot (yaz 0 rfl));(·rfl))|(apply yad;(·rfl);(·exact vl_past (yaz 1 rfl));(·exact ycj x.hu))|(apply yad;(·rfl);(·exact vl_past (yaz 0 rfl));(·exact ycj y.hu))|(refine qv_eql_agg rfl rfl D1)|(refine qv_eql_str rfl rfl S1)|(refine qv_eql_bool rfl rfl hg)|exact tk_)|(apply yae;(·rfl);(·(first|exact vl_ep (yaz 1 rfl)|exact vl_ep (yaz 0 rfl)|exact vl_gone (yaz 1 rfl)|exact vl_gone (yaz 0 rfl)|exact vl_bv (yaz 1 rfl) hx.bs|exact vl_bv (yaz 0 rfl) hy.bs))));(·rfl);(·rfl))|(refine ybg 0 rfl rfl rfl (by show (vlc v.r).toArray.size = 22;rw [List.size_toArray, hrl]) (by show 0 + (vlc v.r).toArray.size ≤ 22;rw [List.size_toArray, hrl];omega) hro (ybh (by show (vlc v.r).length = 22;rw [hrl])) rfl rfl ?_ ?_ ?_;(·(first|exact ybf|(refine .inl ?_;(first|exact fun _ s => Hd.sub s (Le.refl _) (fun r hr => by rw [List.mem_singleton.1 hr];exact tm_)|exact fun _ s => Hd.sub s hle (fun r hr => by rw [List.mem_singleton.1 hr];exact tm_)))|exact to_));(·(first|exact ybf|(refine .inl ?_;(first|exact fun _ s => Hd.sub s (Le.refl _) (fun r hr => by rw [List.mem_singleton.1 hr];exact tm_)|exact fun _ s => Hd.sub s hle (fun r hr => by rw [List.mem_singleton.1 hr];exact tm_)))|exact to_)))|refine t1_ ?_|(refine ta_ ?_;intro _)|((fail_if_success (refine ybi rfl ?_));refine ybj rfl ?_ ?_<;>(intro ht;rw [ht];first|replace ht := oet_ ht|replace ht := oef_ ht|skip))|(refine ych ?_;first|(refine ybw rfl ?_ ?_<;>intro ht)|(refine ybx rfl ?_ ?_<;>intro ht)))
    (refine ycn (ycp Tryz.func30 rfl (by kernel_rfl) rfl) (C1) rfl rfl rfl ?_ ?_;(·(first|exact ybf|(refine .inl ?_;(first|exact fun _ s => Hd.sub s (Le.refl _) (fun r hr => by rw [List.mem_singleton.1 hr];exact tm_)|exact fun _ s => Hd.sub s hle (fun r hr => by rw [List.mem_singleton.1 hr];exact tm_)))|exact to_)))
    repeat' (first|(refine ycf ?_;apply ybk;(·first|(first|(apply yad;(·rfl);(·exact vl_dot (yaz 1 rfl));(·rfl))|(apply yad;(·rfl);(·exact vl_dot (yaz 0 rfl));(·rfl))|(apply yad;(·rfl);(·exact vl_past (yaz 1 rfl));(·exact ycj x.hu))|(apply yad;(·rfl);(·exact vl_past (yaz 0 rfl));(·exact ycj y.hu))|(refine qv_eql_agg rfl rfl D1)|(refine qv_eql_str rfl rfl S1)|(refine qv_eql_bool rfl rfl hg)|exact tk_)|(apply yae;(·rfl);(·(first|exact vl_ep (yaz 1 rfl)|exact vl_ep (yaz 0 rfl)|exact vl_gone (yaz 1 rfl)|exact vl_gone (yaz 0 rfl)|exact vl_bv (yaz 1 rfl) hx.bs|exact vl_bv (yaz 0 rfl) hy.bs))));(·rfl);(·rfl))|(refine ybg 0 rfl rfl rfl (by show (vlc v.r).toArray.size = 22;rw [List.size_toArray, hrl]) (by show 0 + (vlc v.r).toArray.size ≤ 22;rw [List.size_toArray, hrl];omega) hro (ybh (by show (vlc v.r).length = 22;rw [hrl])) rfl rfl ?_ ?_ ?_;(·(first|exact ybf|(refine .inl ?_;(first|exact fun _ s => Hd.sub s (Le.refl _) (fun r hr => by rw [List.mem_singleton.1 hr];exact tm_)|exact fun _ s => Hd.sub s hle (fun r hr => by rw [List.mem_singleton.1 hr];exact tm_)))|exact to_));(·(first|exact ybf|(refine .inl ?_;(first|exact fun _ s => Hd.sub s (Le.refl _) (fun r hr => by rw [List.mem_singleton.1 hr];exact tm_)|exact fun _ s => Hd.sub s hle (fun r hr => by rw [List.mem_singleton.1 hr];exact tm_)))|exact to_)))|refine t1_ ?_|(refine ta_ ?_;intro _)|((fail_if_success (refine ybi rfl ?_));refine ybj rfl ?_ ?_<;>(intro ht;rw [ht];first|replace ht := oet_ ht|replace ht := oef_ ht|skip))|(refine ych ?_;first|(refine ybw rfl ?_ ?_<;>intro ht)|(refine ybx rfl ?_ ?_<;>intro ht)))
    exact nx_ret1 rfl (rv_tmp rfl) (fun w' s' => ⟨rfl, s'.nil⟩)
  · rw [decide_eq_false hep]
    repeat' (first|(refine ycf ?_;apply ybk;(·first|(first|(apply yad;(·rfl);(·exact vl_dot (yaz 1 rfl));(·rfl))|(apply yad;(·rfl);(·exact vl_dot (yaz 0 rfl));(·rfl))|(apply yad;(·rfl);(·exact vl_past (yaz 1 rfl));(·exact ycj x.hu))|(apply yad;(·rfl);(·exact vl_past (yaz 0 rfl));(·exact ycj y.hu))|(refine qv_eql_agg rfl rfl D1)|(refine qv_eql_str rfl rfl S1)|(refine qv_eql_bool rfl rfl hg)|exact tk_)|(apply yae;(·rfl);(·(first|exact vl_ep (yaz 1 rfl)|exact vl_ep (yaz 0 rfl)|exact vl_gone (yaz 1 rfl)|exact vl_gone (yaz 0 rfl)|exact vl_bv (yaz 1 rfl) hx.bs|exact vl_bv (yaz 0 rfl) hy.bs))));(·rfl);(·rfl))|(refine ybg 0 rfl rfl rfl (by show (vlc v.r).toArray.size = 22;rw [List.size_toArray, hrl]) (by show 0 + (vlc v.r).toArray.size ≤ 22;rw [List.size_toArray, hrl];omega) hro (ybh (by show (vlc v.r).length = 22;rw [hrl])) rfl rfl ?_ ?_ ?_;(·(first|exact ybf|(refine .inl ?_;(first|exact fun _ s => Hd.sub s (Le.refl _) (fun r hr => by rw [List.mem_singleton.1 hr];exact tm_)|exact fun _ s => Hd.sub s hle (fun r hr => by rw [List.mem_singleton.1 hr];exact tm_)))|exact to_));(·(first|exact ybf|(refine .inl ?_;(first|exact fun _ s => Hd.sub s (Le.refl _) (fun r hr => by rw [List.mem_singleton.1 hr];exact tm_)|exact fun _ s => Hd.sub s hle (fun r hr => by rw [List.mem_singleton.1 hr];exact tm_)))|exact to_)))|refine t1_ ?_|(refine ta_ ?_;intro _)|((fail_if_success (refine ybi rfl ?_));refine ybj rfl ?_ ?_<;>(intro ht;rw [ht];first|replace ht := oet_ ht|replace ht := oef_ ht|skip))|(refine ych ?_;first|(refine ybw rfl ?_ ?_<;>intro ht)|(refine ybx rfl ?_ ?_<;>intro ht)))
    exact nx_ret1 rfl (rv_tmp rfl) (fun w' s' => ⟨rfl, s'.nil⟩)
end Go.Proofs.YtaofgcahmfailaaGreatDoor
end

section
namespace Go.Proofs.YtaofgcahmfailaaGreatDoor
open Go Go.Ck
set_option maxHeartbeats 1000000
instance ckuWlT : TyU Tryz.prog 52 (.pointer 58) := ⟨Tryz.underlying52⟩
theorem acc_oneT {h : View} {x : ActD} (a : Av h x) : (Value.agg (acc x).toArray).cells.toList.all Value.oneCell' = true := by
  show (acc x).all Value.oneCell' = true
  obtain ⟨_, _, _, e1, _⟩ := a.vs
  obtain ⟨_, _, _, e2, _⟩ := a.ds
  obtain ⟨_, _, _, e3, _⟩ := a.is
  obtain ⟨_, _, _, e4, _⟩ := a.rs.1
  have h1 : x.vv.oneCell' = true := by rw [e1]; rfl
  have h2 : x.mv.oneCell' = true := by rw [e2]; rfl
  have h3 : x.wv.oneCell' = true := by rw [e3]; rfl
  have h4 : x.rv.oneCell' = true := by rw [e4]; rfl
  have h5 : (cxc x.u x.mv).all Value.oneCell' = true := cxc_one h2
  simp only [acc, List.all_append, h1, h3, h4, h5, List.all_cons, List.all_nil, Bool.and_true]
  rfl
theorem ac_pastT {h : View} {L : List Res} {b : Nat} {x : ActD} (c : Cells h L ⟨b, 0, none⟩ (acc x)) : Cells h L ⟨b, 0 + 5, none⟩ (cxc x.u x.mv) := by
  have h1 := (c.drop 5).take 17
  have hc := ycj (mv := x.mv) x.hu
  have h2 : ((acc x).drop 5).take 17 = cxc x.u x.mv := by
    show (cxc x.u x.mv ++ [x.wv, .int .i64 x.by', x.rv]).take 17 = _
    rw [List.take_left' hc]
  rw [h2] at h1
  exact h1
theorem ac_moreT {h : View} {L : List Res} {b : Nat} {x : ActD} {v : Value} (c : Cells h L ⟨b, 0, none⟩ (acc x)) (e : x.mv = v) : CellAt h L b (0 + 5 + 16) v := by
  subst e
  refine c.cell (j := 21) ?_
  have hu := up_len x.u
  show (cxc x.u x.mv ++ [x.wv, .int .i64 x.by', x.rv])[16]? = _
  rw [cxc, List.append_assoc, List.getElem?_append_right (by rw [hu, x.hu]; exact Nat.le_refl _), hu, x.hu]
  rfl
theorem tm3T {A B C r : Res} {L : List Res} (h : r ∈ [A, B, C]) : r ∈ A :: B :: C :: L := by
  simp only [List.mem_cons, List.not_mem_nil, or_false] at h ⊢
  rcases h with h | h | h
  · exact .inl h
  · exact .inr (.inl h)
  · exact .inr (.inr (.inl h))
theorem spl_vlT (v : Vl) (x : Value) (b : List Int) (hx : x.cells.toList = [x]) : spl (vlc v).toArray.toList (0 + 21) x.cells.toList = vlc ⟨v.d, v.ep, v.u, v.hu, v.l, v.mv, v.gone, b, x⟩ := by
  rw [hx]
  obtain ⟨a0, a1, a2, a3, a4, a5, a6, a7, a8, a9, a10, a11, a12, a13, a14, a15, hu⟩ := list16 v.u v.hu
  show spl (dcs v.d ++ (.int .i64 v.ep :: (cxc v.u v.mv ++ [.bool v.gone, v.bv]))) 21 [x] = dcs v.d ++ (.int .i64 v.ep :: (cxc v.u v.mv ++ [.bool v.gone, x]))
  rw [hu]
  rfl
theorem ac_whichT {h : View} {L : List Res} {b o : Nat} {x : ActD} (c : Cells h L ⟨b, o, none⟩ (acc x)) {v : Value} (e : x.wv = v) : CellAt h L b (o + 22) v := by
  subst e
  refine c.cell ?_
  show ([.int .i64 x.what, .int .i64 x.who, .int .i64 x.name, x.vv, .bool x.del] ++ (cxc x.u x.mv ++ [x.wv, .int .i64 x.by', x.rv]))[22]? = _
  rw [List.getElem?_append_right (by simp), List.getElem?_append_right (by rw [ycj x.hu]; simp), ycj x.hu]
  rfl
theorem ac_byT {h : View} {L : List Res} {b o : Nat} {x : ActD} (c : Cells h L ⟨b, o, none⟩ (acc x)) : CellAt h L b (o + 23) (.int .i64 x.by') := by
  refine c.cell ?_
  show ([.int .i64 x.what, .int .i64 x.who, .int .i64 x.name, x.vv, .bool x.del] ++ (cxc x.u x.mv ++ [x.wv, .int .i64 x.by', x.rv]))[23]? = _
  rw [List.getElem?_append_right (by simp), List.getElem?_append_right (by rw [ycj x.hu]; simp), ycj x.hu]
  rfl
theorem ac_rawT {h : View} {L : List Res} {b o : Nat} {x : ActD} (c : Cells h L ⟨b, o, none⟩ (acc x)) {v : Value} (e : x.rv = v) : CellAt h L b (o + 24) v := by
  subst e
  refine c.cell ?_
  show ([.int .i64 x.what, .int .i64 x.who, .int .i64 x.name, x.vv, .bool x.del] ++ (cxc x.u x.mv ++ [x.wv, .int .i64 x.by', x.rv]))[24]? = _
  rw [List.getElem?_append_right (by simp), List.getElem?_append_right (by rw [ycj x.hu]; simp), ycj x.hu]
  rfl
end Go.Proofs.YtaofgcahmfailaaGreatDoor
end

section
namespace Go.Proofs.YtaofgcahmfailaaGreatDoor
open Go Go.Ck
set_option maxHeartbeats 1000000
theorem ESeal_long (bv : Nat) (nm : List Int) (vn vv pv : Value) (q : Hdr) (del : Bool) (hnl : 64 < nm.length) (h : View) (hsn : Bs8 h vn nm) (hsp : Bs8 h pv q.past) (w : World) (s : St ⟨w, h, []⟩ h [] w) :
    Calls Tryz.prog 25 [.pointer (some ⟨bv, 0, none⟩), vn, .agg (hdc q pv).toArray, vv, .bool del].toArray w fun e w' => e = .returned (.tuple #[.agg zEnv, .int .i64 1]) ∧ St ⟨w, h, []⟩ h [] w' := by
  obtain ⟨_, adn, capn, rfl, hcapn, _⟩ := id hsn
  obtain ⟨_, adp, capp, rfl, hcapp, _⟩ := id hsp
  have HN := name_sp _ nm h hsn
  rw [decide_eq_false (show ¬ (1 ≤ nm.length ∧ nm.length ≤ 64) by omega)] at HN
  refine calls_enter Tryz.func25 rfl Tryz.ntmps25 rfl s ?_
  repeat' (first|(refine ycf ?_;apply ybk;(·first|(first|exact tk_|(apply qv_eql_pnil<;>rfl)|(apply qv_nilCheck;rfl)));(·rfl);(·rfl))|refine t1_ ?_|(refine ta_ ?_;intro _)|((fail_if_success (refine ybi rfl ?_));refine ybj rfl ?_ ?_<;>(intro ht;rw [ht];first|replace ht := oet_ ht|replace ht := oef_ ht|skip))|(refine ych ?_;first|(refine ybw rfl ?_ ?_<;>intro ht)|(refine ybx rfl ?_ ?_<;>intro ht)))
  (refine ycn (ycp Tryz.func34 rfl (by kernel_rfl) rfl) (HN) rfl rfl rfl ?_ ?_; (· (exact to_)))
  repeat' (first|(refine ycf ?_;apply ybk;(·first|(first|exact tk_|(apply yax (cs := zEnv.toList)<;>rfl)));(·rfl);(·rfl))|(refine ybg 0 rfl rfl rfl rfl (Nat.le_of_ble_eq_true rfl) rfl (ybh (z := zEnv.toList) rfl) rfl rfl ?_ ?_ ?_;(·(exact to_));(·(exact to_)))|refine t1_ ?_|(refine ta_ ?_;intro _)|((fail_if_success (refine ybi rfl ?_));refine ybj rfl ?_ ?_<;>(intro ht;rw [ht];first|replace ht := oet_ ht|replace ht := oef_ ht|skip))|(refine ych ?_;first|(refine ybw rfl ?_ ?_<;>intro ht)|(refine ybx rfl ?_ ?_<;>intro ht)))
  exact nx_ret2 rfl (rv_cells rfl (yaz 0 rfl) rfl) (rv_tmp rfl) (fun w' s' => ⟨rfl, s'.nil⟩)
theorem CWrite_long (b : Nat) (id : Int) (bv : Nat) (ep ct : Int) (bm : Nat) (K : List (ByteArray × Value)) (nm : List Int) (n : Int) (del : Bool) (u : List Int) (l : List Dt) (vn vv cv : Value)
    (hid : 1 ≤ id ∧ id ≤ 16) (hn0 : 0 ≤ n ∧ n < 1000000) (hct : 0 ≤ ct ∧ ct < 1000000) (hK : numK K nm n) (hhd : headE u l (id, n + 1) = 0) (hnl : 64 < nm.length)
    (h : View) (hsn : Bs8 h vn nm) (hc : Cx h cv u l) (w : World) (s : St ⟨w, h, doms [clR b id bv ep ct bm, cmR bm K]⟩ h [clR b id bv ep ct bm, cmR bm K] w) :
    Calls Tryz.prog 9 [.pointer (some ⟨b, 0, none⟩), vn, vv, .bool del, cv].toArray w fun e w' => ∃ h' : View, e = .returned (.tuple #[.agg (bcs (List.replicate 32 0)).toArray, sbv zSb, .int .i64 1]) ∧
      St ⟨w, h, doms [clR b id bv ep ct bm, cmR bm K]⟩ h' [clR b id bv ep ct bm, cmR bm K] w' ∧ True := by
  have hk0 : checkC u l = 0 := by
    unfold headE at hhd
    split at hhd
    · assumption
    · exact hhd
  have hcl : l.length ≤ 32 := (check_right hk0).2.1
  have hc' := hc
  obtain ⟨hu, mv, rfl, hs⟩ := hc
  have H1 := head_sp b id bv ep ct bm K nm n u l vn _ hid hn0 hct hK (by omega) h hsn hc'
  rw [hhd] at H1
  simp only [↓reduceIte, true_implies] at H1
  obtain ⟨q, eq⟩ : ∃ q : Hdr, q = ⟨ep, ct + 1, id, n + 1, encW u l⟩ := ⟨_, rfl⟩
  have q4 : q.past = encW u l := by rw [eq]
  rw [← eq] at H1
  refine calls_enter Tryz.func9 rfl Tryz.ntmps9 rfl s ?_
  repeat' (first|(refine ycf ?_;apply ybk;(·first|(first|exact tk_|(apply qv_eql_pnil<;>rfl)|(apply qv_nilCheck;rfl)|(apply yad;(·rfl);(·exact yaz 2 rfl);(·exact ycj hu))));(·rfl);(·rfl))|(refine ybg 0 rfl rfl rfl rfl (Nat.le_of_ble_eq_true rfl) rfl (ybh (z := zEnv.toList) rfl) rfl rfl ?_ ?_ ?_;(·(exact to_));(·(exact to_)))|refine t1_ ?_|(refine ta_ ?_;intro _)|((fail_if_success (refine ybi rfl ?_));refine ybj rfl ?_ ?_<;>(intro ht;rw [ht];first|replace ht := oet_ ht|replace ht := oef_ ht|skip))|(refine ych ?_;first|(refine ybw rfl ?_ ?_<;>intro ht)|(refine ybx rfl ?_ ?_<;>intro ht)))
  rename_i b9 b10 b11
  refine rx_call_l (ycp Tryz.func24 rfl (by kernel_rfl) rfl) (pick2 3 3 rfl rfl) H1 rfl rfl rfl ybf (fun _ _ _ => ybf) ?_
  rintro ⟨h1, vp⟩ hvp hle1
  dsimp only at hvp hle1 ⊢
  have hvp : Bs8 h1 vp q.past := by rw [q4]; exact hvp
  have hle1 : Le h h1 := hle1
  repeat' (first|(refine ycf ?_;apply ybk;(·first|(exact tk_));(·rfl);(·rfl)) | (refine ybg 0 rfl rfl rfl rfl (by show 0 + 5 ≤ 5;omega) (by obtain ⟨_, adp, capp, rfl, _⟩ := hvp;rfl) (ybh rfl) rfl rfl ?_ ?_ ?_;(·(exact to_));(·(exact to_))) | refine t1_ ?_ | (refine ta_ ?_;intro _) | ((fail_if_success (refine ybi rfl ?_));refine ybj rfl ?_ ?_<;>(intro ht;rw [ht];first|replace ht := oet_ ht | replace ht := oef_ ht | skip)) | (refine ych ?_;first|(refine ybw rfl ?_ ?_<;>intro ht) | (refine ybx rfl ?_ ?_<;>intro ht)))
  rename_i b13
  have E1 := ESeal_long bv nm vn vv vp q del hnl h1 (hsn.mono hle1) hvp
  refine cx_perm (L' := [Res.blk b13 (.cells (hdc q vp).toArray 86 (0, 0)), clR b id bv ep ct bm, cmR bm K, Res.blk b11 (.cells (sbc zSb).toArray 47 (0, 0)), Res.blk b10 (.cells (bcs (List.replicate 32 0)).toArray 43 (0, 0)), Res.blk b9 (.cells (cxc u mv).toArray 42 (0, 0))]) (.refl _) ?_
  refine cx_cut (X := Nat) (fun y => [(0, .pointer (some ⟨b, 0, none⟩)), (1, vn), (9, .pointer (some ⟨b9, 0, none⟩)), (10, .pointer (some ⟨b10, 0, none⟩)), (11, .pointer (some ⟨b11, 0, none⟩)), (12, .int .i64 0), (13, .pointer (some ⟨b13, 0, none⟩)), (14, .int .i64 1), (15, .pointer (some ⟨y, 0, none⟩))]) (fun _ => h1)
    (fun y => [Res.blk y (.cells zEnv 90 (0, 0)), clR b id bv ep ct bm, cmR bm K, Res.blk b10 (.cells (bcs (List.replicate 32 0)).toArray 43 (0, 0)), Res.blk b11 (.cells (sbc zSb).toArray 47 (0, 0))]) (fun _ => True) ?_ ?_
  · refine cx_region_floX [Res.blk b13 (.cells (hdc q vp).toArray 86 (0, 0)), clR b id bv ep ct bm] [8, 12, 13, 14] [0, 1, 2, 3, 4, 5, 6, 7] [8, 9, 10, 11] 12 [13, 14] rfl (by kernel_rfl) ?_
    repeat' (refine ycf ?_;(first|(first|(apply ybm;(·(first|(first|exact tk_|(apply qv_nilCheck;rfl)|(apply yad;(·rfl);(·exact yaz 0 rfl);(·rfl)))|(apply yae;(·rfl);(·(first|exact yay 1 rfl rfl)))|exact tq_));(·rfl);(·rfl);(·(first|exact hd_two tmm_ tmm_|exact hd_two' hle tmm_ tmm_)))|refine ybl rfl rfl ?_|((fail_if_success (refine ybi rfl ?_));refine ybj rfl ?_ ?_<;>(intro ht;rw [ht];first|replace ht := oet_ ht|replace ht := oef_ ht|skip))|(refine tb_ ?_ ?_ ?_;(·(first|exact ybf|(refine .inl ?_;(first|exact hd_two tmm_ tmm_|exact hd_two' hle tmm_ tmm_))|exact to_));(·intro _;(first|exact ybf|(refine .inl ?_;(first|exact hd_two tmm_ tmm_|exact hd_two' hle tmm_ tmm_))|exact to_));intro _)|(first|(refine tqs_ ?_ ?_ ?_;(·(first|exact ybf|(refine .inl ?_;(first|exact hd_two tmm_ tmm_|exact hd_two' hle tmm_ tmm_))|exact to_));(·(first|exact ybf|(refine .inl ?_;(first|exact hd_two tmm_ tmm_|exact hd_two' hle tmm_ tmm_))|exact to_))))|(apply ybn;(·(first|(first|exact tk_|(apply qv_nilCheck;rfl)|(apply yad;(·rfl);(·exact yaz 0 rfl);(·rfl)))|(apply yae;(·rfl);(·(first|exact yay 1 rfl rfl)))|exact tq_));(·rfl);(·rfl);(·rfl);(·(first|exact ybf|(refine .inl ?_;(first|exact hd_two tmm_ tmm_|exact hd_two' hle tmm_ tmm_))|exact to_))))|refine ycg ?_))
    refine nx_flo 8 [9, 10, 11] [] (by kernel_rfl) ?_ ?_
    · (refine ycn (ycp Tryz.func25 rfl (by kernel_rfl) rfl) (E1) rfl rfl rfl ?_ ?_;(·(first|exact ybf|(refine .inl ?_;(first|exact hd_two tmm_ tmm_|exact hd_two' hle tmm_ tmm_))|exact to_)))
      repeat' (refine ycf ?_;(first|(first|(apply ybm;(·(first|(first|exact tk_|(apply qv_nilCheck;rfl)|(apply yad;(·rfl);(·exact yaz 0 rfl);(·rfl)))|(apply yae;(·rfl);(·(first|exact yay 1 rfl rfl)))|exact tq_));(·rfl);(·rfl);(·(first|exact hd_two tmm_ tmm_|exact hd_two' hle tmm_ tmm_)))|refine ybl rfl rfl ?_|((fail_if_success (refine ybi rfl ?_));refine ybj rfl ?_ ?_<;>(intro ht;rw [ht];first|replace ht := oet_ ht|replace ht := oef_ ht|skip))|(refine tb_ ?_ ?_ ?_;(·(first|exact ybf|(refine .inl ?_;(first|exact hd_two tmm_ tmm_|exact hd_two' hle tmm_ tmm_))|exact to_));(·intro _;(first|exact ybf|(refine .inl ?_;(first|exact hd_two tmm_ tmm_|exact hd_two' hle tmm_ tmm_))|exact to_));intro _)|(first|(refine tqs_ ?_ ?_ ?_;(·(first|exact ybf|(refine .inl ?_;(first|exact hd_two tmm_ tmm_|exact hd_two' hle tmm_ tmm_))|exact to_));(·(first|exact ybf|(refine .inl ?_;(first|exact hd_two tmm_ tmm_|exact hd_two' hle tmm_ tmm_))|exact to_))))|(apply ybn;(·(first|(first|exact tk_|(apply qv_nilCheck;rfl)|(apply yad;(·rfl);(·exact yaz 0 rfl);(·rfl)))|(apply yae;(·rfl);(·(first|exact yay 1 rfl rfl)))|exact tq_));(·rfl);(·rfl);(·rfl);(·(first|exact ybf|(refine .inl ?_;(first|exact hd_two tmm_ tmm_|exact hd_two' hle tmm_ tmm_))|exact to_))))|refine ycg ?_))
      refine nx_flo_end ?_
      repeat' (refine ycf ?_;(first|(first|(apply ybm;(·(first|(first|exact tk_|(apply qv_nilCheck;rfl)|(apply yad;(·rfl);(·exact yaz 0 rfl);(·rfl)))|(apply yae;(·rfl);(·(first|exact yay 1 rfl rfl)))|exact tq_));(·rfl);(·rfl);(·(first|exact hd_two tmm_ tmm_|exact hd_two' hle tmm_ tmm_)))|refine ybl rfl rfl ?_|((fail_if_success (refine ybi rfl ?_));refine ybj rfl ?_ ?_<;>(intro ht;rw [ht];first|replace ht := oet_ ht|replace ht := oef_ ht|skip))|(refine tb_ ?_ ?_ ?_;(·(first|exact ybf|(refine .inl ?_;(first|exact hd_two tmm_ tmm_|exact hd_two' hle tmm_ tmm_))|exact to_));(·intro _;(first|exact ybf|(refine .inl ?_;(first|exact hd_two tmm_ tmm_|exact hd_two' hle tmm_ tmm_))|exact to_));intro _)|(first|(refine ybg 0 rfl rfl rfl rfl (nble rfl) rfl (ybh (z := zEnv.toList) rfl) rfl rfl ?_ ?_ ?_;(·(first|exact ybf|(refine .inl ?_;(first|exact hd_two tmm_ tmm_|exact hd_two' hle tmm_ tmm_))|exact to_));(·(first|exact ybf|(refine .inl ?_;(first|exact hd_two tmm_ tmm_|exact hd_two' hle tmm_ tmm_))|exact to_)))|(refine tqs_ ?_ ?_ ?_;(·(first|exact ybf|(refine .inl ?_;(first|exact hd_two tmm_ tmm_|exact hd_two' hle tmm_ tmm_))|exact to_));(·(first|exact ybf|(refine .inl ?_;(first|exact hd_two tmm_ tmm_|exact hd_two' hle tmm_ tmm_))|exact to_))))|(apply ybn;(·(first|(first|exact tk_|(apply qv_nilCheck;rfl)|(apply yad;(·rfl);(·exact yaz 0 rfl);(·rfl)))|(apply yae;(·rfl);(·(first|exact yay 1 rfl rfl)))|exact tq_));(·rfl);(·rfl);(·rfl);(·(first|exact ybf|(refine .inl ?_;(first|exact hd_two tmm_ tmm_|exact hd_two' hle tmm_ tmm_))|exact to_))))|refine ycg ?_))
      rename_i b15
      refine nx_cut b15 trivial ts_ (fun w' s' => ?_)
      exact s'.picks [0, 1, 1, 2, 1]
    · repeat' (refine ycf ?_;(first|(first|(apply ybm;(·(first|(first|exact tk_|(apply qv_nilCheck;rfl)|(apply yad;(·rfl);(·exact yaz 0 rfl);(·rfl)))|(apply yae;(·rfl);(·(first|exact yay 1 rfl rfl)))|exact tq_));(·rfl);(·rfl);(·(first|exact hd_two tmm_ tmm_|exact hd_two' hle tmm_ tmm_)))|refine ybl rfl rfl ?_|((fail_if_success (refine ybi rfl ?_));refine ybj rfl ?_ ?_<;>(intro ht;rw [ht];first|replace ht := oet_ ht|replace ht := oef_ ht|skip))|(refine tb_ ?_ ?_ ?_;(·(first|exact ybf|(refine .inl ?_;(first|exact hd_two tmm_ tmm_|exact hd_two' hle tmm_ tmm_))|exact to_));(·intro _;(first|exact ybf|(refine .inl ?_;(first|exact hd_two tmm_ tmm_|exact hd_two' hle tmm_ tmm_))|exact to_));intro _)|(first|(refine tqs_ ?_ ?_ ?_;(·(first|exact ybf|(refine .inl ?_;(first|exact hd_two tmm_ tmm_|exact hd_two' hle tmm_ tmm_))|exact to_));(·(first|exact ybf|(refine .inl ?_;(first|exact hd_two tmm_ tmm_|exact hd_two' hle tmm_ tmm_))|exact to_))))|(apply ybn;(·(first|(first|exact tk_|(apply qv_nilCheck;rfl)|(apply yad;(·rfl);(·exact yaz 0 rfl);(·rfl)))|(apply yae;(·rfl);(·(first|exact yay 1 rfl rfl)))|exact tq_));(·rfl);(·rfl);(·rfl);(·(first|exact ybf|(refine .inl ?_;(first|exact hd_two tmm_ tmm_|exact hd_two' hle tmm_ tmm_))|exact to_))))|refine ycg ?_))
      rename_i b15
      (refine ycn (ycp Tryz.func25 rfl (by kernel_rfl) rfl) (E1) rfl rfl rfl ?_ ?_;(·(first|exact ybf|(refine .inl ?_;(first|exact hd_two tmm_ tmm_|exact hd_two' hle tmm_ tmm_))|exact to_)))
      repeat' (refine ycf ?_;(first|(first|(apply ybm;(·(first|(first|exact tk_|(apply qv_nilCheck;rfl)|(apply yad;(·rfl);(·exact yaz 0 rfl);(·rfl)))|(apply yae;(·rfl);(·(first|exact yay 1 rfl rfl)))|exact tq_));(·rfl);(·rfl);(·(first|exact hd_two tmm_ tmm_|exact hd_two' hle tmm_ tmm_)))|refine ybl rfl rfl ?_|((fail_if_success (refine ybi rfl ?_));refine ybj rfl ?_ ?_<;>(intro ht;rw [ht];first|replace ht := oet_ ht|replace ht := oef_ ht|skip))|(refine tb_ ?_ ?_ ?_;(·(first|exact ybf|(refine .inl ?_;(first|exact hd_two tmm_ tmm_|exact hd_two' hle tmm_ tmm_))|exact to_));(·intro _;(first|exact ybf|(refine .inl ?_;(first|exact hd_two tmm_ tmm_|exact hd_two' hle tmm_ tmm_))|exact to_));intro _)|(first|(refine ybg 0 rfl rfl rfl rfl (nble rfl) rfl (ybh (z := zEnv.toList) rfl) rfl rfl ?_ ?_ ?_;(·(first|exact ybf|(refine .inl ?_;(first|exact hd_two tmm_ tmm_|exact hd_two' hle tmm_ tmm_))|exact to_));(·(first|exact ybf|(refine .inl ?_;(first|exact hd_two tmm_ tmm_|exact hd_two' hle tmm_ tmm_))|exact to_)))|(refine tqs_ ?_ ?_ ?_;(·(first|exact ybf|(refine .inl ?_;(first|exact hd_two tmm_ tmm_|exact hd_two' hle tmm_ tmm_))|exact to_));(·(first|exact ybf|(refine .inl ?_;(first|exact hd_two tmm_ tmm_|exact hd_two' hle tmm_ tmm_))|exact to_))))|(apply ybn;(·(first|(first|exact tk_|(apply qv_nilCheck;rfl)|(apply yad;(·rfl);(·exact yaz 0 rfl);(·rfl)))|(apply yae;(·rfl);(·(first|exact yay 1 rfl rfl)))|exact tq_));(·rfl);(·rfl);(·rfl);(·(first|exact ybf|(refine .inl ?_;(first|exact hd_two tmm_ tmm_|exact hd_two' hle tmm_ tmm_))|exact to_))))|refine ycg ?_))
      refine nx_cut b15 trivial ts_ (fun w' s' => ?_)
      exact s'.picks [0, 1, 1, 2, 1]
  rintro b15 _
  refine yby ?_
  repeat' (first|(refine ycf ?_;apply ybk;(·first|(first|exact tk_|(exact qv_build_arr (cs := bcs (List.replicate 32 0)) rfl rfl)|(apply yax (cs := sbc zSb)<;>rfl)));(·rfl);(·rfl))|refine t1_ ?_|(refine ta_ ?_;intro _)|((fail_if_success (refine ybi rfl ?_));refine ybj rfl ?_ ?_<;>(intro ht;rw [ht];first|replace ht := oet_ ht|replace ht := oef_ ht|skip))|(refine ych ?_;first|(refine ybw rfl ?_ ?_<;>intro ht)|(refine ybx rfl ?_ ?_<;>intro ht)))
  exact nx_ret3 rfl (rv_cells rfl (yaz 3 rfl) rfl) (rv_cells rfl (yaz 4 rfl) rfl) (rv_tmp rfl) (fun w' s' => ⟨h1, rfl, s'.picks [1, 1], trivial⟩)
end Go.Proofs.YtaofgcahmfailaaGreatDoor
end

section
namespace Go.Proofs.YtaofgcahmfailaaGreatDoor
open Go Go.Ck
set_option maxHeartbeats 1000000
structure W2 where
  hh : View
  bl : List Int
  g : Sb
  er : Int
  ct : Int
  K : List (ByteArray × Value)
  N : List (List Int)
  U : List UseK
  T : Tab
def W2Ok (key nm val : List Int) (id ep ct : Int) (K : List (ByteArray × Value)) (N : List (List Int)) (U : List UseK) (T : Tab) (del : Bool) (u : List Int) (l : List Dt) (y : W2) : Prop :=
  y.bl.length = 32 ∧ Sv y.hh y.g ∧ ((y.er ≠ 0 ∧ y.ct = ct ∧ y.K = K ∧ y.N = N ∧ y.U = U ∧ y.T = T) ∨ (y.er = 0 ∧ checkC u l = 0 ∧ y.ct = ct + 1 ∧ y.N = addN N nm ∧ y.U = U ++ [(id, ct + 1)] ∧
    ∃ (n : Int) (tv : Value) (se : List Int), (0 ≤ n ∧ n < 1000) ∧ (⟨ep, ct + 1, id, n + 1, encW u l⟩ : Hdr).ok ∧ y.K = mput K (bstr nm) (.int .i64 (n + 1)) ∧ numK K nm n ∧
      y.T = T ++ [((id, ct + 1, ep, bstr (boundF (blindF key N nm) ⟨ep, ct + 1, id, n + 1, encW u l⟩), bstr se), tv, padW (inF del val))] ∧ Bs8 y.hh tv (padW (inF del val)) ∧
      y.g.d = (id, n + 1) ∧ y.g.u = u ∧ y.g.l = l ∧ 0 < y.g.b.length ∧ y.g.b.length ≤ 900000))
theorem CWriteT_sp (c : Nat) (id : Int) (bv : Nat) (ep ct : Int) (bm : Nat) (K : List (ByteArray × Value)) (key : List Int) (bn bu bt : Nat) (N : List (List Int)) (U : List UseK) (T : Tab) (nm val : List Int) (del : Bool) (u : List Int) (l : List Dt) (vn vv cv : Value)
    (hid : 1 ≤ id ∧ id ≤ 16) (hep : 1 ≤ ep ∧ ep ≤ 1048576) (hct : 0 ≤ ct ∧ ct < 1000) (hK : ∀ nm, ∃ n : Int, numK K nm n ∧ 0 ≤ n ∧ n < 1000) (hk : Bytes key) (hk32 : key.length = 32) (hN : Names N) (hNl : N.length < 900000) (hU : U.length < 900000) (hT : Held U T) (hnew : (id, ct + 1) ∉ U)
    (hnm : Bytes nm) (hnl : 1 ≤ nm.length) (yv : Bytes val) (hvl : val.length ≤ 3999) (hl : l.length ≤ 1000000)
    (h : View) (hv : Vb h bv true key bn bu bt) (hsn : Bs8 h vn nm) (hsv : Bs8 h vv val) (hc : Cx h cv u l) (w : World) (s : St ⟨w, h, doms [clR c id bv ep ct bm, cmR bm K, nmR bn N, usR bu U, tbR bt T]⟩ h [clR c id bv ep ct bm, cmR bm K, nmR bn N, usR bu U, tbR bt T] w) :
    Calls Tryz.prog 9 [.pointer (some ⟨c, 0, none⟩), vn, vv, .bool del, cv].toArray w fun e w' => ∃ y : W2, e = .returned (.tuple #[.agg (bcs y.bl).toArray, sbv y.g, .int .i64 y.er]) ∧
      St ⟨w, h, doms [clR c id bv ep ct bm, cmR bm K, nmR bn N, usR bu U, tbR bt T]⟩ y.hh [clR c id bv ep y.ct bm, cmR bm y.K, nmR bn y.N, usR bu y.U, tbR bt y.T] w' ∧ W2Ok key nm val id ep ct K N U T del u l y := by
  have zs : ∀ h, Sv h zSb := fun h => ⟨Sc.nil _ _ _ _, Sc.nil _ _ _ _, fun x hx => by cases hx⟩
  obtain ⟨n, hKn, hn⟩ := hK nm
  by_cases hhd : headE u l (id, n + 1) = 0
  · by_cases hn6 : nm.length ≤ 64
    · have hk0 : checkC u l = 0 := by
        unfold headE at hhd
        split at hhd
        · assumption
        · exact hhd
      have hcl : l.length ≤ 32 := (check_right hk0).2.1
      obtain ⟨hu, _⟩ := (show Cx h cv u l from hc)
      have hl2 : (encW u l).length = 129 + 16 * l.length := encW_lenC u l hu
      have hq : (⟨ep, ct + 1, id, n + 1, encW u l⟩ : Hdr).ok := by
        refine ⟨hep, ⟨?_, ?_⟩, hid, ⟨?_, ?_⟩, ?_⟩ <;> dsimp only <;> omega
      refine (CWrite_sp true sealC_true c id bv ep ct bm K key bn bu bt N U T nm val n del u l vn vv cv hid hep (by omega) (by omega) hKn hhd hk hk32 hN hNl hU hT hnm ⟨hnl, hn6⟩ hnew yv (fun _ => hvl) h hv hsn hsv hc (fun e => by cases e) w s).mono fun e w' he => ?_
      obtain ⟨⟨h2, g, tv, se⟩, rfl, st, htv, hgv, hse, hga⟩ := he
      dsimp only at htv hgv hse hga st
      have hsl : se.length = (padW (inF del val)).length + 16 := by rw [hse]; exact sealX_len _ _ _ _ _ _ _ _
      have hpl : (padW (inF del val)).length ≤ 4096 := by
        rw [padW_len (inF_len fun _ => hvl)]
        have := inF_len (del := del) (val := val) fun _ => hvl
        have := sizeF_bd (n := ((inF del val).length : Int)) (by omega) (by omega)
        omega
      have hnl2 := nameX_len true key N nm
      have hgb : g.b.length = (boundF (nameX true key N nm) ⟨ep, ct + 1, id, n + 1, encW u l⟩).length + 4 + se.length := by
        have e1 : g.b = g.a.2.2.2 := rfl
        rw [e1, hga]
        show (encE _ _ se).length = _
        simp only [encE, List.length_append, num4_len]
      rw [boundF_len hnl2] at hgb
      dsimp only at hgb
      refine ⟨⟨h2, nameX true key N nm, g, 0, ct + 1, mput K (bstr nm) (.int .i64 (n + 1)), addX true N nm, U ++ [(id, ct + 1)], _⟩, rfl, st, (show (nameX true key N nm).length = 32 from nameX_len true key N nm), hgv, .inr ⟨rfl, hk0, rfl, rfl, rfl, n, tv, se, hn, hq, rfl, hKn, rfl, htv, ?_, ?_, ?_, ?_, ?_⟩⟩
      · exact congrArg (fun a : Ab => a.1) hga
      · exact congrArg (fun a : Ab => a.2.1) hga
      · exact congrArg (fun a : Ab => a.2.2.1) hga
      · show 0 < g.b.length; omega
      · show g.b.length ≤ _; omega
    · refine (calls_frame (Li := [clR c id bv ep ct bm, cmR bm K]) (Lr := [nmR bn N, usR bu U, tbR bt T]) (.refl _) (CWrite_long c id bv ep ct bm K nm n del u l vn vv cv hid (by omega) (by omega) hKn hhd (by omega) h hsn hc) s).mono fun e w' he => ?_
      obtain ⟨h2, rfl, st, _⟩ := he
      exact ⟨⟨h2, List.replicate 32 0, zSb, 1, ct, K, N, U, T⟩, rfl, st, rfl, zs _, .inl ⟨by show (1 : Int) ≠ 0; decide, rfl, rfl, rfl, rfl, rfl⟩⟩
  · refine (calls_frame (Li := [clR c id bv ep ct bm, cmR bm K]) (Lr := [nmR bn N, usR bu U, tbR bt T]) (.refl _) (CWrite_no c id bv ep ct bm K nm n del u l vn vv cv hid (by omega) (by omega) hKn hhd (by omega) h hsn hc) s).mono fun e w' he => ?_
    obtain ⟨h2, rfl, st, _⟩ := he
    exact ⟨⟨h2, List.replicate 32 0, zSb, headE u l (id, n + 1), ct, K, N, U, T⟩, rfl, st, rfl, zs _, .inl ⟨hhd, rfl, rfl, rfl, rfl, rfl⟩⟩
def idK (k : Bool) : Int := if k then 3 else 1
def upK' {α : Type} (f : Bool → α) (k : Bool) (x : α) : Bool → α := fun j => if j = k then x else f j
theorem upK_same {α : Type} (f : Bool → α) (k : Bool) (x : α) : upK' f k x k = x := if_pos rfl
structure TrS where
  hh : View
  e : Bool → Int
  t : Bool → Int
  K : Bool → List (ByteArray × Value)
  N : List (List Int)
  U : List UseK
  T : Tab
  LL : List Sb
  AA : List Vl
  MM : List (List Int)
structure TrOk (key : List Int) (i : Nat) (y : TrS) : Prop where
  eb : ∀ k, 1 ≤ y.e k ∧ y.e k ≤ i + 1
  tb : ∀ k, 0 ≤ y.t k ∧ y.t k ≤ i
  kb : ∀ k nm, ∃ n : Int, numK (y.K k) nm n ∧ 0 ≤ n ∧ n ≤ i
  nm : Names y.N
  nl : y.N.length ≤ i
  ul : y.U.length ≤ i
  us : ∀ x ∈ y.U, ∃ k, x.1 = idK k ∧ x.2 ≤ y.t k
  ht : Held y.U y.T
  tk : TbOk y.hh y.T
  ty : ∀ x ∈ y.T, x.2.2.length ≤ 900000 ∧ Bytes x.2.2
  ll : y.LL.length ≤ i
  lv : ∀ s ∈ y.LL, Rv y.hh s ∧ 0 < s.b.length ∧ s.b.length ≤ 900000 ∧ s.l.length ≤ 34
  al : y.AA.length = y.MM.length
  an : y.AA.length ≤ i
  av : ∀ v ∈ y.AA, Vr y.hh v ∧ Bytes v.b ∧ v.l.length ≤ 34
  my : ∀ m ∈ y.MM, Bytes m ∧ m.length ≤ 100
  td : Told key y.N y.T (y.AA.map Vl.t) y.MM
theorem trOk0 (key : List Int) (h : View) : TrOk key 0 ⟨h, fun _ => 1, fun _ => 0, fun _ => [], [], [], [], [], [], []⟩ where
  eb := fun k => ⟨Int.le_refl _, Int.le_refl _⟩
  tb := fun k => ⟨Int.le_refl _, Int.le_refl _⟩
  kb := fun k nm => ⟨0, rfl, Int.le_refl _, Int.le_refl _⟩
  nm := fun x hx => by cases hx
  nl := Nat.le_refl _
  ul := Nat.le_refl _
  us := fun x hx => by cases hx
  ht := fun x hx => by cases hx
  tk := fun x hx => by cases hx
  ty := fun x hx => by cases hx
  ll := Nat.le_refl _
  lv := fun x hx => by cases hx
  al := rfl
  an := Nat.le_refl _
  av := fun x hx => by cases hx
  my := fun x hx => by cases hx
  td := fun x hx => by cases hx
theorem TrOk.stay {key : List Int} {i : Nat} {y : TrS} (s : TrOk key i y) {h : View} (hl : Le y.hh h) : TrOk key (i + 1) { y with hh := h } where
  eb := fun k => by have := s.eb k; dsimp only; omega
  tb := fun k => by have := s.tb k; dsimp only; omega
  kb := fun k nm => by obtain ⟨n, h1, h2⟩ := s.kb k nm; exact ⟨n, h1, by omega⟩
  nm := s.nm
  nl := by have := s.nl; dsimp only; omega
  ul := by have := s.ul; dsimp only; omega
  us := s.us
  ht := s.ht
  tk := s.tk.mono hl
  ty := s.ty
  ll := by have := s.ll; dsimp only; omega
  lv := fun x hx => by obtain ⟨h1, h2⟩ := s.lv x hx; exact ⟨h1.mono hl, h2⟩
  al := s.al
  an := by have := s.an; dsimp only; omega
  av := fun x hx => by obtain ⟨h1, h2⟩ := s.av x hx; exact ⟨h1.mono hl, h2⟩
  my := s.my
  td := s.td
theorem TrOk.rot {key : List Int} {i : Nat} {y : TrS} (s : TrOk key i y) (k : Bool) : TrOk key (i + 1) { y with e := upK' y.e k (y.e k + 1) } := by
  have s2 := s.stay (Le.refl y.hh)
  exact { eb := fun j => by
            have h1 := s.eb k
            have h2 := s2.eb j
            dsimp only [upK'] at h2 ⊢
            split
            · omega
            · exact h2
          tb := s2.tb, kb := s2.kb, nm := s2.nm, nl := s2.nl, ul := s2.ul, us := s2.us, ht := s2.ht, tk := s2.tk, ty := s2.ty, ll := s2.ll, lv := s2.lv, al := s2.al, an := s2.an, av := s2.av, my := s2.my, td := s2.td }
theorem TrOk.new {key : List Int} {i : Nat} {y : TrS} (s : TrOk key i y) (k : Bool) : (idK k, y.t k + 1) ∉ y.U := fun hx => by
  obtain ⟨j, h1, h2⟩ := s.us _ hx
  dsimp only at h1 h2
  have : j = k := by cases j<;>cases k<;>first|rfl|(exact absurd h1 (by decide))
  subst this
  omega
theorem numK_put {K : List (ByteArray × Value)} {nm : List Int} {m : Int} {i : Nat} (h : ∀ nm, ∃ n : Int, numK K nm n ∧ 0 ≤ n ∧ n ≤ i) (hm : 0 ≤ m ∧ m ≤ i + 1) (nm' : List Int) : ∃ n : Int, numK (mput K (bstr nm) (.int .i64 m)) nm' n ∧ 0 ≤ n ∧ n ≤ ((i + 1 : Nat) : Int) := by
  unfold numK
  rw [mget_put]
  split
  · exact ⟨m, rfl, by omega⟩
  · obtain ⟨n, h1, h2⟩ := h nm'
    exact ⟨n, h1, by omega⟩
theorem TrOk.add {key : List Int} {i : Nat} {y : TrS} (s : TrOk key i y) (k : Bool) {h : View} (hl : Le y.hh h) {nm val se : List Int} {n : Int} {u : List Int} {l : List Dt} {del : Bool} {tv : Value} {sb : Sb} {v : Vl}
    (hnm : Bytes nm) (hnl : nm.length ≤ 100) (hn : numK (y.K k) nm n) (hq : (⟨y.e k, y.t k + 1, idK k, n + 1, encW u l⟩ : Hdr).ok) (hu : u.length = 16) (hc : checkC u l = 0) (hv : Bytes val) (hvl : val.length ≤ 3999) (htv : Bs8 h tv (padW (inF del val)))
    (hs : Rv h sb ∧ 0 < sb.b.length ∧ sb.b.length ≤ 900000 ∧ sb.l.length ≤ 34) (ha : Vr h v ∧ Bytes v.b ∧ v.l.length ≤ 34) (ht : v.t = ((idK k, n + 1), u, l, y.e k, del, if del then [] else val)) :
    TrOk key (i + 1) ⟨h, y.e, upK' y.t k (y.t k + 1), upK' y.K k (mput (y.K k) (bstr nm) (.int .i64 (n + 1))), addN y.N nm, y.U ++ [(idK k, y.t k + 1)],
      y.T ++ [((idK k, y.t k + 1, y.e k, bstr (boundF (blindF key y.N nm) ⟨y.e k, y.t k + 1, idK k, n + 1, encW u l⟩), bstr se), tv, padW (inF del val))], y.LL ++ [sb], y.AA ++ [v], y.MM ++ [nm]⟩ := by
  have s2 := s.stay hl
  have hpl : (padW (inF del val)).length ≤ 4096 := by
    rw [padW_len (inF_len fun _ => hvl)]
    have := inF_len (del := del) (val := val) fun _ => hvl
    have := sizeF_bd (n := ((inF del val).length : Int)) (by omega) (by omega)
    omega
  refine { eb := s2.eb, tb := fun j => ?_, kb := fun j nm' => ?_, nm := fun x hx => ?_, nl := ?_, ul := ?_, us := fun x hx => ?_, ht := fun x hx => ?_, tk := fun x hx => ?_, ty := fun x hx => ?_, ll := ?_, lv := fun x hx => ?_, al := ?_, an := ?_, av := fun x hx => ?_, my := fun x hx => ?_, td := ?_ }
  · have h1 := s.tb k
    have h2 := s2.tb j
    dsimp only [upK'] at h2 ⊢
    split
    · omega
    · exact h2
  · dsimp only [upK']
    split
    · refine numK_put (s.kb k) ?_ nm'
      obtain ⟨m, q1, q2⟩ := s.kb k nm
      have : m = n := by
        unfold numK at q1 hn
        rw [q1] at hn
        exact Value.int.inj hn |>.2
      omega
    · exact s2.kb j nm'
  · unfold addN at hx
    split at hx
    · exact s.nm x hx
    · rcases List.mem_append.1 hx with hx | hx
      · exact s.nm x hx
      · rw [List.mem_singleton.1 hx]; exact hnm
  · have := s.nl
    dsimp only
    unfold addN
    split
    · omega
    · rw [List.length_append, List.length_singleton]; omega
  · have := s.ul
    dsimp only
    rw [List.length_append, List.length_singleton]; omega
  · rcases List.mem_append.1 hx with hx | hx
    · obtain ⟨j, q1, q2⟩ := s.us x hx
      refine ⟨j, q1, ?_⟩
      dsimp only [upK']
      split
      · rename_i e; subst e; omega
      · exact q2
    · rw [List.mem_singleton.1 hx]
      exact ⟨k, rfl, by dsimp only; rw [upK_same]; exact Int.le_refl _⟩
  · rcases List.mem_append.1 hx with hx | hx
    · exact List.mem_append_left _ (s.ht x hx)
    · rw [List.mem_singleton.1 hx]
      exact List.mem_append_right _ (List.mem_singleton.2 rfl)
  · rcases List.mem_append.1 hx with hx | hx
    · exact s2.tk x hx
    · rw [List.mem_singleton.1 hx]
      exact htv
  · rcases List.mem_append.1 hx with hx | hx
    · exact s.ty x hx
    · rw [List.mem_singleton.1 hx]
      exact ⟨by dsimp only; omega, padW_by (inF_by hv)⟩
  · have := s.ll
    dsimp only
    rw [List.length_append, List.length_singleton]; omega
  · rcases List.mem_append.1 hx with hx | hx
    · exact s2.lv x hx
    · rw [List.mem_singleton.1 hx]; exact hs
  · dsimp only
    rw [List.length_append, List.length_append, s.al]; rfl
  · have := s.an
    dsimp only
    rw [List.length_append, List.length_singleton]; omega
  · rcases List.mem_append.1 hx with hx | hx
    · exact s2.av x hx
    · rw [List.mem_singleton.1 hx]; exact ha
  · rcases List.mem_append.1 hx with hx | hx
    · exact s.my x hx
    · rw [List.mem_singleton.1 hx]; exact ⟨hnm, hnl⟩
  · dsimp only
    rw [List.map_append, show [v].map Vl.t = [v.t] by rfl, ht]
    exact Told.add s.td (by rw [List.length_map]; exact s.al) (q := ⟨y.e k, y.t k + 1, idK k, n + 1, encW u l⟩) hq hu hc rfl hv hvl
end Go.Proofs.YtaofgcahmfailaaGreatDoor
end

section
namespace Go.Ck
open Go
def cReg (id : Nat) : Code → Option Code
  | .region i o d => if Nat.beq i id then some (.region i o d) else none
  | .seq a b => match cReg id a with | some c => some c | none => cReg id b
  | .cond _ a b => match cReg id a with | some c => some c | none => cReg id b
  | .loop a => cReg id a
  | .block _ a => cReg id a
  | _ => none
def cBlk (id : Nat) : Code → Option Code
  | .block i a => if Nat.beq i id then some (.block i a) else cBlk id a
  | .seq a b => match cBlk id a with | some c => some c | none => cBlk id b
  | .cond _ a b => match cBlk id a with | some c => some c | none => cBlk id b
  | .loop a => cBlk id a
  | _ => none
def cGet : Option Code → Code
  | some c => c
  | none => .skip
section
variable {P : Program} {n : Nat} {K : Bs} {F F' : List (Nat × Value)} {h : View} {L L' : List Res} {Q : Exit → Act → World → Prop}
def PEnds {X : Type} (n : Nat) (K : Bs) (FI : X → List (Nat × Value)) (hI : X → View) (LI : X → List Res) (p : X → Prop) : Exit → Act → World → Prop := fun e a w => match e with | .normal => ∃ y, p y ∧ Fr n (FI y) a ∧ St K (hI y) (LI y) w | _ => False
theorem cx_piece {X : Type} {x : Code} {FI : X → List (Nat × Value)} {hI : X → View} {LI : X → List Res} {p : X → Prop} (h1 : CX P n K x F' h L' (PEnds n K FI hI LI p)) (hF : Sub F' F) (hS : ∀ w, St K h L w → St K h L' w)
    (h2 : ∀ y, p y → NX n K .normal (FI y) (hI y) (LI y) Q) : CX P n K x F h L Q := by
  unfold CX at *
  unfold NX at h2
  intro a w f s
  refine wp_mono (h1 a w (f.sub hF) (hS w s)) fun e a w hq => ?_
  cases e with
  | normal => obtain ⟨y, hy, fy, sy⟩ := hq; exact h2 y hy a w fy sy
  | _ => exact hq.elim
theorem nx_ends {X : Type} {FI : X → List (Nat × Value)} {hI : X → View} {LI : X → List Res} {p : X → Prop} (y : X) (hp : p y) (hF : Sub (FI y) F) (hS : ∀ w, St K h L w → St K (hI y) (LI y) w) : NX n K .normal F h L (PEnds n K FI hI LI p) := by
  unfold NX
  exact fun a w f s => ⟨y, hp, f.sub hF, hS w s⟩
end
end Go.Ck
end

section
namespace Go.Proofs.YtaofgcahmfailaaGreatDoor
open Go Go.Ck
set_option maxHeartbeats 1000000
theorem CRead_long (b : Nat) (nm : List Int) (vn vl : Value) (hnl : 64 < nm.length) (h : View) (hsn : Bs8 h vn nm) (w : World) (s : St ⟨w, h, []⟩ h [] w) :
    Calls Tryz.prog 16 [.pointer (some ⟨b, 0, none⟩), vn, vl].toArray w fun e w' => e = .returned (.tuple #[.slice none 0 0, .int .i64 0, .int .i64 1]) ∧ St ⟨w, h, []⟩ h [] w' := by
  obtain ⟨_, adn, capn, rfl, hcapn, _⟩ := (show Bs8 _ _ _ from hsn)
  refine calls_enter Tryz.func16 rfl Tryz.ntmps16 rfl s ?_
  repeat' (first|(refine ycf ?_;apply ybk;(·first|(first|exact tk_|(apply qv_eql_pnil<;>rfl)|(apply qv_nilCheck;rfl)));(·rfl);(·rfl))|refine t1_ ?_|(refine ta_ ?_;intro _)|((fail_if_success (refine ybi rfl ?_));refine ybj rfl ?_ ?_<;>(intro ht;rw [ht];first|replace ht := oet_ ht|replace ht := oef_ ht|skip))|(refine ych ?_;first|(refine ybw rfl ?_ ?_<;>intro ht)|(refine ybx rfl ?_ ?_<;>intro ht)))
  exact nx_ret3 rfl (rv_tmp rfl) (rv_tmp rfl) (rv_tmp rfl) (fun w' s' => ⟨rfl, s'⟩)
def ccK (c1 c2 : Nat) (k : Bool) : Nat := if k then c2 else c1
def kkI (k : Bool) : Int := if k then 1 else 0
theorem wl_cl {h : View} {L : List Res} {b : Nat} {bv c1 c2 d1 d2 : Nat} {lv : Value} (c : Cells h L ⟨b, 0, none⟩ (wlc bv c1 c2 d1 d2 lv)) (k : Bool) {i : Nat} (hi : i = 1 + (kkI k).toNat) : CellAt h L b i (.pointer (some ⟨ccK c1 c2 k, 0, none⟩)) := by
  subst hi
  cases k
  · exact c.cell (j := 1) rfl
  · exact c.cell (j := 2) rfl
end Go.Proofs.YtaofgcahmfailaaGreatDoor
end

section
namespace Go.Ck
open Go
set_option maxHeartbeats 1000000
section
variable {P : Program} {ops : Array Oper} {S : World → Prop} {bar : Nat → Bool}
def floatOkL (ops : Array Oper) (lo : Nat → Bool) (ord : List Nat) (fl : Nat → Bool) : Bool :=
  lexOkR ops (masks ops) (lo) (barOf ops) (rkOf ord) (fun j i => lo j && fl i) && flOk ops (lo) (barOf ops) fl (rkOf ord) &&
  ((List.range ops.size).all fun i => ord.contains i) && ord.length == ops.size && (ord.all fun i => decide (i < ops.size)) && decide (ord.Pairwise fun i j => rkOf ord i < rkOf ord j)
theorem wp_region_floatL {lo : Nat → Bool} {id : Nat} {Q : Exit → Act → World → Prop} {a : Act} {w : World} (ord : List Nat) (fl : Nat → Bool) (hm : P.follows .mixedOrders = true) (hB : floatOkL ops lo ord fl = true)
    (h : wpG P ops S (lo) (barOf ops) fl (Q .normal) (pickL ops.toList ord).length (pickL ops.toList ord) a w.drew) : (Code.region id ops true).wp P Q a w := by
  simp only [floatOkL, Bool.and_eq_true] at hB
  obtain ⟨⟨⟨⟨⟨b1, b2⟩, b3⟩, b4⟩, b5⟩, b6⟩ := hB
  have b4 : ord.length = ops.size := by simpa using b4
  have b6 := oet_ b6
  refine wp_region_any hm (float_any (rk := rkOf ord) b1 (fun i o y oy hi hy hli hfy hlj => ?_) _ (pickL ops.toList ord) _ a _ ?_ ⟨?_, ?_, ?_, ?_, ?_⟩ h)
  · have hil := (Array.getElem?_eq_some_iff.1 hi).1
    have hyl := (Array.getElem?_eq_some_iff.1 hy).1
    have h1 := List.all_eq_true.1 b2 y (List.mem_range.2 hyl)
    simp only [hfy, Bool.not_true, Bool.false_or, Bool.and_eq_true] at h1
    have h2 := List.all_eq_true.1 h1.2 i (List.mem_range.2 hil)
    obtain ⟨j, hj1, hj2, hj3⟩ := hlj
    have hnot : ((List.range ops.size).all fun j => !lo j || !decide (rkOf ord j < rkOf ord i)) = false := by
      rw [List.all_eq_false]
      exact ⟨j, List.mem_range.2 hj1, by simp [hj2, hj3]⟩
    simp only [hli, hnot, Bool.false_or, hi, hy, Bool.and_eq_true] at h2
    have hsel := lexOkR_sel b1
    exact ⟨h2.2, by rw [hli]; rfl, by simpa using h2.1, by simpa using h1.1.1, fun cs b => Region.noSelect_spec hsel i o cs b hi, fun cs b => Region.noSelect_spec hsel y oy cs b hy⟩
  · rw [pickL_length]; omega
  · intro p hp
    obtain ⟨h1, h2⟩ := pickL_mem.1 hp
    have hlt : p.1 < ops.size := by simpa using List.all_eq_true.1 b5 _ h1
    have := nthO_ok ops.toList p.1 (by simpa using hlt)
    rw [h2]; simpa using this
  · exact pickL_pair b6
  · intro i hi
    simp only [Array.getD_eq_getD_getElem?, Array.getElem?_replicate, hi, if_true, Option.getD_some, true_iff]
    have := List.all_eq_true.1 b3 i (List.mem_range.2 hi)
    exact ⟨nthO ops.toList i, (pickL_mem (p := (i, nthO ops.toList i))).2 ⟨by simpa using this, rfl⟩⟩
  · intro i o ho hl
    simp only [Array.getD_eq_getD_getElem?, Array.getElem?_replicate] at hl
    split at hl <;> simp at hl
  · simp
end
section
variable {P : Program} {n : Nat} {K : Bs} {F : List (Nat × Value)} {h h' : View} {L : List Res} {Q : Exit → Act → World → Prop}
theorem cx_region_floatV {id : Nat} {ops : Array Oper} (LS : List Res) (lou : List Nat) (pre : List Nat) (fy : List (Nat × Nat × (Nat → Value) × Obj)) (post : List Nat) (hm : P.follows .mixedOrders = true) (hB : floatOkL ops (fun i => lou.contains i) (pre ++ (fy.map (·.1) ++ post)) (flY (mkY ops fy)) = true)
    (hx : ∀ D ys, Fl (mkY ops fy) D ys → GX P n K ⟨ops, Hd h LS, fun i => lou.contains i, barOf ops⟩ (mkY ops fy) (pickL ops.toList pre ++ (prY ys ++ pickL ops.toList post)) (F ++ FDy D) h (L ++ LDy D) Q) : CX P n K (.region id ops true) F h L Q := by
  unfold CX
  intro a w f s
  have h1 := hx [] (mkY ops fy) (List.Perm.refl _)
  have e1 : F ++ FDy [] = F := List.append_nil _
  have e2 : L ++ LDy [] = L := List.append_nil _
  rw [e1, e2] at h1
  refine wp_region_floatL (S := Hd h LS) (pre ++ (fy.map (·.1) ++ post)) (flY (mkY ops fy)) hm hB ?_
  have he : pickL ops.toList (pre ++ (fy.map (·.1) ++ post)) = pickL ops.toList pre ++ (prY (mkY ops fy) ++ pickL ops.toList post) := by
    rw [pickL_append, pickL_append]
    congr 2
    clear hx h1 hB
    induction fy with
    | nil => rfl
    | cons x fy ih => simp only [List.map_cons, pickL, mkY, prY] at ih ⊢; rw [ih]
  rw [he]
  exact h1 a w.drew ⟨f.size, f.dfs, f.get⟩ s.drew
end
end Go.Ck
end

section
namespace Go.Ck
open Go
section
variable {P : Program} {n : Nat} {K : Bs} {F : List (Nat × Value)} {h : View} {L : List Res} {Q : Exit → Act → World → Prop}
theorem cx_less {c : Code} (F' : List (Nat × Value)) (hs : Sub F' F) (hx : CX P n K c F' h L Q) : CX P n K c F h L Q := by
  unfold CX at *
  exact fun a w f s => hx a w (f.sub hs) s
end
end Go.Ck
end

section
namespace Go.Ck
open Go
theorem hd_l {h h' : View} {L LS : List Res} (hl : Le h h') (hs : ∀ r ∈ LS, r ∈ L) : ∀ w, Hd h' L w → Hd h LS w := fun w s => Hd.sub s hl hs
end Go.Ck
namespace Go.Proofs.YtaofgcahmfailaaGreatDoor
open Go Go.Ck
set_option maxHeartbeats 1000000
end Go.Proofs.YtaofgcahmfailaaGreatDoor
end
