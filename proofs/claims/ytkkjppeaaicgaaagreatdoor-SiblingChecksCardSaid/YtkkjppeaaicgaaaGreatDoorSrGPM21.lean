/-
  Part 21 of a proof: SrF SrH SbY SbRb SbZ SbRd MgA.
  Conditions: each theorem states its own.
-/
import Derived.Test.YtkkjppeaaicgaaaGreatDoorSrGPM20
section
namespace Go.Proofs.YtkkjppeaaicgaaaGreatDoor
open Go Go.Ck
set_option maxRecDepth 100000
set_option maxHeartbeats 4000000
set_option linter.unusedVariables false
theorem bytes_app {a b : List Int} (ha : Bytes a) (hb : Bytes b) : Bytes (a ++ b) := fun x hx => (List.mem_append.1 hx).elim (ha x) (hb x)
theorem bytes_flat {α : Type} {f : α → List Int} {l : List α} (h : ∀ a ∈ l, Bytes (f a)) : Bytes (l.flatMap f) := fun x hx => by
  obtain ⟨a, ha, hx⟩ := List.mem_flatMap.1 hx
  exact h a ha x hx
theorem encW_by (u : List Int) (l : List Dt) : Bytes (encW u l) :=
  bytes_app (bytes_app (bytes_flat fun a _ => putLow_bytes' 8 a) (putLow_bytes' 1 _)) (bytes_flat fun d _ => bytes_app (putLow_bytes' 8 _) (putLow_bytes' 8 _))
theorem encA_by {a : Ab} (h : Bytes a.2.2.2) : Bytes (encA a) :=
  bytes_app (bytes_app (bytes_app (putLow_bytes' 8 _) (putLow_bytes' 8 _)) (bytes_app (putLow_bytes' 4 _) (encW_by _ _))) (bytes_app (putLow_bytes' 4 _) h)
theorem rWrite_sp (v : Value) (l : List Sb) (h : View) (hs : Rs h v l) (fl : Fits l) (hk0 : checkA (l.map Sb.a) = 0) (hsz : (encS (l.map Sb.a)).length ≤ 900000) (w : World) (s : St ⟨w, h, []⟩ h [] w) :
    Calls Tryz.prog 17 [v].toArray w fun e w' => e = .returned (.string (bstr (encS (l.map Sb.a)))) ∧ St ⟨w, h, []⟩ h [] w' := by
  obtain ⟨_, ad, cap, rfl, _, _⟩ := id hs.1
  obtain ⟨c64, cR, _, _⟩ := checkA_ok hk0
  rw [List.length_map] at c64
  refine calls_enter Tryz.func17 rfl Tryz.ntmps17 rfl s ?_
  repeat' (first|refine tw_ ?_|(refine ta_ ?_;intro _)|((fail_if_success (refine ybi rfl ?_));refine ybj rfl ?_ ?_<;>(intro ht;rw [ht];first|replace ht := oet_ ht|replace ht := oef_ ht|skip))|(refine ych ?_;first|(refine ybw rfl ?_ ?_<;>intro ht)|(refine ybx rfl ?_ ?_<;>intro ht)))
  (refine ycn (ycp Tryz.func46 rfl (by kernel_rfl) rfl) (refSmall_sp l.length (by omega) (by omega) h) rfl rfl rfl ?_ ?_; (· (exact to_)))
  have hb1 : Bytes (num1 (l.length : Int)) := putLow_bytes' 1 _
  refine rx_bytes_s rfl (bstr_bcs hb1) (by rw [bstr_size, num1_len]; unfold maxLen; omega) rfl rfl rfl ybf (fun _ => ybf) ?_
  intro v0
  rw [bcs_len]
  repeat' (first|refine tw_ ?_|(refine ta_ ?_;intro _)|((fail_if_success (refine ybi rfl ?_));refine ybj rfl ?_ ?_<;>(intro ht;rw [ht];first|replace ht := oet_ ht|replace ht := oef_ ht|skip))|(refine ych ?_;first|(refine ybw rfl ?_ ?_<;>intro ht)|(refine ybx rfl ?_ ?_<;>intro ht)))
  have hszs : ((l.map Sb.a).flatMap encA).length ≤ 900000 := by
    have e : (encS (l.map Sb.a)).length = 1 + ((l.map Sb.a).flatMap encA).length := by unfold encS; rw [List.length_append, num1_len]
    omega
  refine cx_loop (X := Nat × Value) (fun y => [(0, .slice ad l.length cap), (3, y.2), (4, .int .i64 (y.1 : Nat))]) (fun _ => h) (fun y => [srB y.2 (num1 l.length ++ ((l.map Sb.a).take y.1).flatMap encA)])
    (fun y => y.1 ≤ l.length) (fun y => l.length - y.1) (0, v0) (Nat.zero_le _) ts_ (fun _ s => ?_) ?_
  · dsimp only
    rw [List.take_zero, List.flatMap_nil, List.append_nil]
    exact s
  rintro ⟨k, v⟩ hk
  replace hk : k ≤ l.length := hk
  dsimp only
  have hpl : (num1 l.length ++ ((l.map Sb.a).take k).flatMap encA).length ≤ 900001 := by
    have := flat_le (l := l.map Sb.a) k
    rw [List.length_append, num1_len]
    omega
  by_cases hkl : k < l.length
  · obtain ⟨bs, o, rfl⟩ := hs.1.ad (by omega) (by omega)
    have hel : ∀ L, Cells h L ⟨bs, o + k * 20, none⟩ (sbc l[k]) := fun L => hs.1.elem sbc_len k hkl
    have hxm := List.getElem_mem hkl
    have vx := hs.2 _ hxm
    obtain ⟨r1, r2, _, r4⟩ := rightA_ok (cR _ (List.mem_map_of_mem hxm))
    have hstep : ((l.map Sb.a).take (k + 1)).flatMap encA = ((l.map Sb.a).take k).flatMap encA ++ encA (l[k].a) := by
      rw [encA_flat _ (by rw [List.length_map]; exact hkl), List.getElem_map]
    have hsl : (((l.map Sb.a).take k).flatMap encA).length + (encA (l[k].a)).length ≤ 900000 := by
      rw [← List.length_append, ← hstep]
      exact Nat.le_trans (flat_le _) hszs
    generalize l[k] = x0 at hel vx r1 r2 r4 hstep hsl
    have hx0 := sbc_len x0
    have hu := x0.hu
    have hbv := vx.bs
    have ea : encA x0.a = num8 x0.d.1 ++ num8 x0.d.2 ++ (num4 (encW x0.u x0.l).length ++ encW x0.u x0.l) ++ (num4 x0.b.length ++ x0.b) := rfl
    have hal : (encA x0.a).length = 24 + (encW x0.u x0.l).length + x0.b.length := encA_len x0.a
    have hby : Bytes (encA x0.a) := encA_by vx.by8
    have r2 : checkC x0.u x0.l = 0 := r2
    have r4 : x0.b.length ≤ 16384 := r4
    have hd4 : 1 ≤ x0.d.1 ∧ x0.d.1 ≤ 16 ∧ 1 ≤ x0.d.2 ∧ x0.d.2 ≤ 1099511627776 := right_of r1
    have W1 := refWrite_sp (cxv x0.u x0.mv) x0.u x0.l h ⟨hu, _, rfl, vx.ds⟩ r2
    have B1 := rBytes_sp (encW x0.u x0.l) (by omega) h
    have B2 := rBytes_sp x0.b (by omega) h
    have hcat1 : bstr (num8 x0.d.1) ++ bstr (num8 x0.d.2) = bstr (num8 x0.d.1 ++ num8 x0.d.2) := bstr_app _ _
    have hcat2 : bstr (num8 x0.d.1 ++ num8 x0.d.2) ++ bstr (num4 (encW x0.u x0.l).length ++ encW x0.u x0.l) = bstr (num8 x0.d.1 ++ num8 x0.d.2 ++ (num4 (encW x0.u x0.l).length ++ encW x0.u x0.l)) := bstr_app _ _
    have hcat3 : bstr (num8 x0.d.1 ++ num8 x0.d.2 ++ (num4 (encW x0.u x0.l).length ++ encW x0.u x0.l)) ++ bstr (num4 x0.b.length ++ x0.b) = bstr (encA x0.a) := by rw [ea]; exact bstr_app _ _
    have hs1 : (bstr (num8 x0.d.1)).size + (bstr (num8 x0.d.2)).size < 1000000 := by rw [bstr_size, bstr_size, num8_len, num8_len]; omega
    have hs2 : (bstr (num8 x0.d.1 ++ num8 x0.d.2)).size + (bstr (num4 (encW x0.u x0.l).length ++ encW x0.u x0.l)).size < 1000000 := by
      rw [bstr_size, bstr_size]
      simp only [List.length_append, num8_len, num4_len]
      omega
    have hs3 : (bstr (num8 x0.d.1 ++ num8 x0.d.2 ++ (num4 (encW x0.u x0.l).length ++ encW x0.u x0.l))).size + (bstr (num4 x0.b.length ++ x0.b)).size < 1000000 := by
      rw [bstr_size, bstr_size]
      simp only [List.length_append, num8_len, num4_len]
      omega
    repeat' (first|(refine ycf ?_;apply ybk;(·first|(first|exact tk_|(apply yad;(·rfl);(·exact sb_past (hel _));(·exact ycj hu))|(refine qv_str_add rfl rfl hcat1 hs1)|(refine qv_str_add rfl rfl hcat2 hs2)|(refine qv_str_add rfl rfl hcat3 hs3))|(apply yae;(·rfl);(·(first|exact sb_cl (hel _)|exact sb_nu (hel _)|exact sb_body' (hel _) hbv))));(·rfl);(·rfl))|refine t1_ ?_|(refine ta_ ?_;intro _)|((fail_if_success (refine ybi rfl ?_));refine ybj rfl ?_ ?_<;>(intro ht;rw [ht];first|replace ht := oet_ ht|replace ht := oef_ ht|skip))|(refine ych ?_;first|(refine ybw rfl ?_ ?_<;>intro ht)|(refine ybx rfl ?_ ?_<;>intro ht)))
    refine cx_region_draw [] rfl (by kernel_rfl) ?_
    repeat' (refine ycf ?_;(first|(first|(apply ybm;(·(first|(first|exact tk_|(apply yad;(·rfl);(·exact sb_past (hel _));(·exact ycj hu))|(refine qv_str_add rfl rfl hcat1 hs1)|(refine qv_str_add rfl rfl hcat2 hs2)|(refine qv_str_add rfl rfl hcat3 hs3))|(apply yae;(·rfl);(·(first|exact sb_cl (hel _)|exact sb_nu (hel _)|exact sb_body' (hel _) hbv)))|exact tq_));(·rfl);(·rfl);(·(exact fun _ s => Hd.sub s (Le.refl h) (fun r hr => by cases hr))))|refine ybl rfl rfl ?_|((fail_if_success (refine ybi rfl ?_));refine ybj rfl ?_ ?_<;>(intro ht;rw [ht];first|replace ht := oet_ ht|replace ht := oef_ ht|skip))|(refine tb_ ?_ ?_ ?_;(·(first|exact ybf|(refine .inl ?_;(exact fun _ s => Hd.sub s (Le.refl h) (fun r hr => by cases hr)))|exact to_));(·intro _;(first|exact ybf|(refine .inl ?_;(exact fun _ s => Hd.sub s (Le.refl h) (fun r hr => by cases hr)))|exact to_));intro _)|(first|(refine tqs_ ?_ ?_ ?_;(·(first|exact ybf|(refine .inl ?_;(exact fun _ s => Hd.sub s (Le.refl h) (fun r hr => by cases hr)))|exact to_));(·(first|exact ybf|(refine .inl ?_;(exact fun _ s => Hd.sub s (Le.refl h) (fun r hr => by cases hr)))|exact to_))))|(apply ybn;(·(first|(first|exact tk_|(apply yad;(·rfl);(·exact sb_past (hel _));(·exact ycj hu))|(refine qv_str_add rfl rfl hcat1 hs1)|(refine qv_str_add rfl rfl hcat2 hs2)|(refine qv_str_add rfl rfl hcat3 hs3))|(apply yae;(·rfl);(·(first|exact sb_cl (hel _)|exact sb_nu (hel _)|exact sb_body' (hel _) hbv)))|exact tq_));(·rfl);(·rfl);(·rfl);(·(first|exact ybf|(refine .inl ?_;(exact fun _ s => Hd.sub s (Le.refl h) (fun r hr => by cases hr)))|exact to_))))|refine ycg ?_))
    (refine ycn (ycp Tryz.func47 rfl (by kernel_rfl) rfl) (refNum_sp x0.d.1 (by omega) (by omega) h) rfl rfl rfl ?_ ?_;(·(first|exact ybf|(refine .inl ?_;(exact fun _ s => Hd.sub s (Le.refl h) (fun r hr => by cases hr)))|exact to_)))
    repeat' (refine ycf ?_;(first|(first|(apply ybm;(·(first|(first|exact tk_|(apply yad;(·rfl);(·exact sb_past (hel _));(·exact ycj hu))|(refine qv_str_add rfl rfl hcat1 hs1)|(refine qv_str_add rfl rfl hcat2 hs2)|(refine qv_str_add rfl rfl hcat3 hs3))|(apply yae;(·rfl);(·(first|exact sb_cl (hel _)|exact sb_nu (hel _)|exact sb_body' (hel _) hbv)))|exact tq_));(·rfl);(·rfl);(·(exact fun _ s => Hd.sub s (Le.refl h) (fun r hr => by cases hr))))|refine ybl rfl rfl ?_|((fail_if_success (refine ybi rfl ?_));refine ybj rfl ?_ ?_<;>(intro ht;rw [ht];first|replace ht := oet_ ht|replace ht := oef_ ht|skip))|(refine tb_ ?_ ?_ ?_;(·(first|exact ybf|(refine .inl ?_;(exact fun _ s => Hd.sub s (Le.refl h) (fun r hr => by cases hr)))|exact to_));(·intro _;(first|exact ybf|(refine .inl ?_;(exact fun _ s => Hd.sub s (Le.refl h) (fun r hr => by cases hr)))|exact to_));intro _)|(first|(refine tqs_ ?_ ?_ ?_;(·(first|exact ybf|(refine .inl ?_;(exact fun _ s => Hd.sub s (Le.refl h) (fun r hr => by cases hr)))|exact to_));(·(first|exact ybf|(refine .inl ?_;(exact fun _ s => Hd.sub s (Le.refl h) (fun r hr => by cases hr)))|exact to_))))|(apply ybn;(·(first|(first|exact tk_|(apply yad;(·rfl);(·exact sb_past (hel _));(·exact ycj hu))|(refine qv_str_add rfl rfl hcat1 hs1)|(refine qv_str_add rfl rfl hcat2 hs2)|(refine qv_str_add rfl rfl hcat3 hs3))|(apply yae;(·rfl);(·(first|exact sb_cl (hel _)|exact sb_nu (hel _)|exact sb_body' (hel _) hbv)))|exact tq_));(·rfl);(·rfl);(·rfl);(·(first|exact ybf|(refine .inl ?_;(exact fun _ s => Hd.sub s (Le.refl h) (fun r hr => by cases hr)))|exact to_))))|refine ycg ?_))
    (refine ycn (ycp Tryz.func47 rfl (by kernel_rfl) rfl) (refNum_sp x0.d.2 (by omega) (by omega) h) rfl rfl rfl ?_ ?_;(·(first|exact ybf|(refine .inl ?_;(exact fun _ s => Hd.sub s (Le.refl h) (fun r hr => by cases hr)))|exact to_)))
    repeat' (refine ycf ?_;(first|(first|(apply ybm;(·(first|(first|exact tk_|(apply yad;(·rfl);(·exact sb_past (hel _));(·exact ycj hu))|(refine qv_str_add rfl rfl hcat1 hs1)|(refine qv_str_add rfl rfl hcat2 hs2)|(refine qv_str_add rfl rfl hcat3 hs3))|(apply yae;(·rfl);(·(first|exact sb_cl (hel _)|exact sb_nu (hel _)|exact sb_body' (hel _) hbv)))|exact tq_));(·rfl);(·rfl);(·(exact fun _ s => Hd.sub s (Le.refl h) (fun r hr => by cases hr))))|refine ybl rfl rfl ?_|((fail_if_success (refine ybi rfl ?_));refine ybj rfl ?_ ?_<;>(intro ht;rw [ht];first|replace ht := oet_ ht|replace ht := oef_ ht|skip))|(refine tb_ ?_ ?_ ?_;(·(first|exact ybf|(refine .inl ?_;(exact fun _ s => Hd.sub s (Le.refl h) (fun r hr => by cases hr)))|exact to_));(·intro _;(first|exact ybf|(refine .inl ?_;(exact fun _ s => Hd.sub s (Le.refl h) (fun r hr => by cases hr)))|exact to_));intro _)|(first|(refine tqs_ ?_ ?_ ?_;(·(first|exact ybf|(refine .inl ?_;(exact fun _ s => Hd.sub s (Le.refl h) (fun r hr => by cases hr)))|exact to_));(·(first|exact ybf|(refine .inl ?_;(exact fun _ s => Hd.sub s (Le.refl h) (fun r hr => by cases hr)))|exact to_))))|(apply ybn;(·(first|(first|exact tk_|(apply yad;(·rfl);(·exact sb_past (hel _));(·exact ycj hu))|(refine qv_str_add rfl rfl hcat1 hs1)|(refine qv_str_add rfl rfl hcat2 hs2)|(refine qv_str_add rfl rfl hcat3 hs3))|(apply yae;(·rfl);(·(first|exact sb_cl (hel _)|exact sb_nu (hel _)|exact sb_body' (hel _) hbv)))|exact tq_));(·rfl);(·rfl);(·rfl);(·(first|exact ybf|(refine .inl ?_;(exact fun _ s => Hd.sub s (Le.refl h) (fun r hr => by cases hr)))|exact to_))))|refine ycg ?_))
    (refine ycn (ycp Tryz.func49 rfl (by kernel_rfl) rfl) (W1) rfl rfl rfl ?_ ?_;(·(first|exact ybf|(refine .inl ?_;(exact fun _ s => Hd.sub s (Le.refl h) (fun r hr => by cases hr)))|exact to_)))
    repeat' (refine ycf ?_;(first|(first|(apply ybm;(·(first|(first|exact tk_|(apply yad;(·rfl);(·exact sb_past (hel _));(·exact ycj hu))|(refine qv_str_add rfl rfl hcat1 hs1)|(refine qv_str_add rfl rfl hcat2 hs2)|(refine qv_str_add rfl rfl hcat3 hs3))|(apply yae;(·rfl);(·(first|exact sb_cl (hel _)|exact sb_nu (hel _)|exact sb_body' (hel _) hbv)))|exact tq_));(·rfl);(·rfl);(·(exact fun _ s => Hd.sub s (Le.refl h) (fun r hr => by cases hr))))|refine ybl rfl rfl ?_|((fail_if_success (refine ybi rfl ?_));refine ybj rfl ?_ ?_<;>(intro ht;rw [ht];first|replace ht := oet_ ht|replace ht := oef_ ht|skip))|(refine tb_ ?_ ?_ ?_;(·(first|exact ybf|(refine .inl ?_;(exact fun _ s => Hd.sub s (Le.refl h) (fun r hr => by cases hr)))|exact to_));(·intro _;(first|exact ybf|(refine .inl ?_;(exact fun _ s => Hd.sub s (Le.refl h) (fun r hr => by cases hr)))|exact to_));intro _)|(first|(refine tqs_ ?_ ?_ ?_;(·(first|exact ybf|(refine .inl ?_;(exact fun _ s => Hd.sub s (Le.refl h) (fun r hr => by cases hr)))|exact to_));(·(first|exact ybf|(refine .inl ?_;(exact fun _ s => Hd.sub s (Le.refl h) (fun r hr => by cases hr)))|exact to_))))|(apply ybn;(·(first|(first|exact tk_|(apply yad;(·rfl);(·exact sb_past (hel _));(·exact ycj hu))|(refine qv_str_add rfl rfl hcat1 hs1)|(refine qv_str_add rfl rfl hcat2 hs2)|(refine qv_str_add rfl rfl hcat3 hs3))|(apply yae;(·rfl);(·(first|exact sb_cl (hel _)|exact sb_nu (hel _)|exact sb_body' (hel _) hbv)))|exact tq_));(·rfl);(·rfl);(·rfl);(·(first|exact ybf|(refine .inl ?_;(exact fun _ s => Hd.sub s (Le.refl h) (fun r hr => by cases hr)))|exact to_))))|refine ycg ?_))
    (refine ycn (ycp Tryz.func48 rfl (by kernel_rfl) rfl) (B1) rfl rfl rfl ?_ ?_;(·(first|exact ybf|(refine .inl ?_;(exact fun _ s => Hd.sub s (Le.refl h) (fun r hr => by cases hr)))|exact to_)))
    repeat' (refine ycf ?_;(first|(first|(apply ybm;(·(first|(first|exact tk_|(apply yad;(·rfl);(·exact sb_past (hel _));(·exact ycj hu))|(refine qv_str_add rfl rfl hcat1 hs1)|(refine qv_str_add rfl rfl hcat2 hs2)|(refine qv_str_add rfl rfl hcat3 hs3))|(apply yae;(·rfl);(·(first|exact sb_cl (hel _)|exact sb_nu (hel _)|exact sb_body' (hel _) hbv)))|exact tq_));(·rfl);(·rfl);(·(exact fun _ s => Hd.sub s (Le.refl h) (fun r hr => by cases hr))))|refine ybl rfl rfl ?_|((fail_if_success (refine ybi rfl ?_));refine ybj rfl ?_ ?_<;>(intro ht;rw [ht];first|replace ht := oet_ ht|replace ht := oef_ ht|skip))|(refine tb_ ?_ ?_ ?_;(·(first|exact ybf|(refine .inl ?_;(exact fun _ s => Hd.sub s (Le.refl h) (fun r hr => by cases hr)))|exact to_));(·intro _;(first|exact ybf|(refine .inl ?_;(exact fun _ s => Hd.sub s (Le.refl h) (fun r hr => by cases hr)))|exact to_));intro _)|(first|(refine tqs_ ?_ ?_ ?_;(·(first|exact ybf|(refine .inl ?_;(exact fun _ s => Hd.sub s (Le.refl h) (fun r hr => by cases hr)))|exact to_));(·(first|exact ybf|(refine .inl ?_;(exact fun _ s => Hd.sub s (Le.refl h) (fun r hr => by cases hr)))|exact to_))))|(apply ybn;(·(first|(first|exact tk_|(apply yad;(·rfl);(·exact sb_past (hel _));(·exact ycj hu))|(refine qv_str_add rfl rfl hcat1 hs1)|(refine qv_str_add rfl rfl hcat2 hs2)|(refine qv_str_add rfl rfl hcat3 hs3))|(apply yae;(·rfl);(·(first|exact sb_cl (hel _)|exact sb_nu (hel _)|exact sb_body' (hel _) hbv)))|exact tq_));(·rfl);(·rfl);(·rfl);(·(first|exact ybf|(refine .inl ?_;(exact fun _ s => Hd.sub s (Le.refl h) (fun r hr => by cases hr)))|exact to_))))|refine ycg ?_))
    (refine ycn (ycp Tryz.func48 rfl (by kernel_rfl) rfl) (B2) rfl rfl rfl ?_ ?_;(·(first|exact ybf|(refine .inl ?_;(exact fun _ s => Hd.sub s (Le.refl h) (fun r hr => by cases hr)))|exact to_)))
    repeat' (refine ycf ?_;(first|(first|(apply ybm;(·(first|(first|exact tk_|(apply yad;(·rfl);(·exact sb_past (hel _));(·exact ycj hu))|(refine qv_str_add rfl rfl hcat1 hs1)|(refine qv_str_add rfl rfl hcat2 hs2)|(refine qv_str_add rfl rfl hcat3 hs3))|(apply yae;(·rfl);(·(first|exact sb_cl (hel _)|exact sb_nu (hel _)|exact sb_body' (hel _) hbv)))|exact tq_));(·rfl);(·rfl);(·(exact fun _ s => Hd.sub s (Le.refl h) (fun r hr => by cases hr))))|refine ybl rfl rfl ?_|((fail_if_success (refine ybi rfl ?_));refine ybj rfl ?_ ?_<;>(intro ht;rw [ht];first|replace ht := oet_ ht|replace ht := oef_ ht|skip))|(refine tb_ ?_ ?_ ?_;(·(first|exact ybf|(refine .inl ?_;(exact fun _ s => Hd.sub s (Le.refl h) (fun r hr => by cases hr)))|exact to_));(·intro _;(first|exact ybf|(refine .inl ?_;(exact fun _ s => Hd.sub s (Le.refl h) (fun r hr => by cases hr)))|exact to_));intro _)|(first|(refine tqs_ ?_ ?_ ?_;(·(first|exact ybf|(refine .inl ?_;(exact fun _ s => Hd.sub s (Le.refl h) (fun r hr => by cases hr)))|exact to_));(·(first|exact ybf|(refine .inl ?_;(exact fun _ s => Hd.sub s (Le.refl h) (fun r hr => by cases hr)))|exact to_))))|(apply ybn;(·(first|(first|exact tk_|(apply yad;(·rfl);(·exact sb_past (hel _));(·exact ycj hu))|(refine qv_str_add rfl rfl hcat1 hs1)|(refine qv_str_add rfl rfl hcat2 hs2)|(refine qv_str_add rfl rfl hcat3 hs3))|(apply yae;(·rfl);(·(first|exact sb_cl (hel _)|exact sb_nu (hel _)|exact sb_body' (hel _) hbv)))|exact tq_));(·rfl);(·rfl);(·rfl);(·(first|exact ybf|(refine .inl ?_;(exact fun _ s => Hd.sub s (Le.refl h) (fun r hr => by cases hr)))|exact to_))))|refine ycg ?_))
    refine rx_append_b (news := bcs (encA x0.a)) 0 rfl rfl rfl (src_str (m := (encA x0.a).length) (bstr_size _) (bstr_bcs hby)) (.inr rfl) (bcs_one _) rfl (by unfold maxLen; rw [List.length_append, num1_len]; omega) (by rw [List.length_append, num1_len]; omega) rfl rfl rfl ?_ ?_ ?_
    · (first|exact ybf|(refine .inl ?_;(exact fun _ s => Hd.sub s (Le.refl h) (fun r hr => by cases hr)))|exact to_)
    · intro v';(first|exact ybf|(refine .inl ?_;(exact fun _ s => Hd.sub s (Le.refl h) (fun r hr => by cases hr)))|exact to_)
    intro v2
    repeat' (refine ycf ?_;(first|(first|(apply ybm;(·(first|(first|exact tk_|(apply yad;(·rfl);(·exact sb_past (hel _));(·exact ycj hu))|(refine qv_str_add rfl rfl hcat1 hs1)|(refine qv_str_add rfl rfl hcat2 hs2)|(refine qv_str_add rfl rfl hcat3 hs3))|(apply yae;(·rfl);(·(first|exact sb_cl (hel _)|exact sb_nu (hel _)|exact sb_body' (hel _) hbv)))|exact tq_));(·rfl);(·rfl);(·(exact fun _ s => Hd.sub s (Le.refl h) (fun r hr => by cases hr))))|refine ybl rfl rfl ?_|((fail_if_success (refine ybi rfl ?_));refine ybj rfl ?_ ?_<;>(intro ht;rw [ht];first|replace ht := oet_ ht|replace ht := oef_ ht|skip))|(refine tb_ ?_ ?_ ?_;(·(first|exact ybf|(refine .inl ?_;(exact fun _ s => Hd.sub s (Le.refl h) (fun r hr => by cases hr)))|exact to_));(·intro _;(first|exact ybf|(refine .inl ?_;(exact fun _ s => Hd.sub s (Le.refl h) (fun r hr => by cases hr)))|exact to_));intro _)|(first|(refine tqs_ ?_ ?_ ?_;(·(first|exact ybf|(refine .inl ?_;(exact fun _ s => Hd.sub s (Le.refl h) (fun r hr => by cases hr)))|exact to_));(·(first|exact ybf|(refine .inl ?_;(exact fun _ s => Hd.sub s (Le.refl h) (fun r hr => by cases hr)))|exact to_))))|(apply ybn;(·(first|(first|exact tk_|(apply yad;(·rfl);(·exact sb_past (hel _));(·exact ycj hu))|(refine qv_str_add rfl rfl hcat1 hs1)|(refine qv_str_add rfl rfl hcat2 hs2)|(refine qv_str_add rfl rfl hcat3 hs3))|(apply yae;(·rfl);(·(first|exact sb_cl (hel _)|exact sb_nu (hel _)|exact sb_body' (hel _) hbv)))|exact tq_));(·rfl);(·rfl);(·rfl);(·(first|exact ybf|(refine .inl ?_;(exact fun _ s => Hd.sub s (Le.refl h) (fun r hr => by cases hr)))|exact to_))))|refine ycg ?_))
    repeat' (first|(refine ycf ?_;apply ybk;(·first|(exact tk_));(·rfl);(·rfl))|refine t1_ ?_|(refine ta_ ?_;intro _)|((fail_if_success (refine ybi rfl ?_));refine ybj rfl ?_ ?_<;>(intro ht;rw [ht];first|replace ht := oet_ ht|replace ht := oef_ ht|skip))|(refine ych ?_;first|(refine ybw rfl ?_ ?_<;>intro ht)|(refine ybx rfl ?_ ?_<;>intro ht)))
    refine nx_round (k + 1, v2) (by show k + 1 ≤ _; omega) (by show l.length - (k + 1) < l.length - k; omega) ts_ (fun _ s => ?_)
    dsimp only
    rw [hstep, ← List.append_assoc]
    revert s
    generalize num1 (l.length : Int) ++ ((l.map Sb.a).take k).flatMap encA = A
    intro s
    unfold srB
    rw [List.length_append, bcs_app]
    exact s
  · have ek : k = l.length := by omega
    subst ek
    repeat' (first|(refine ycf ?_;apply ybk;(·first|(exact tk_));(·rfl);(·rfl))|refine t1_ ?_|(refine ta_ ?_;intro _)|((fail_if_success (refine ybi rfl ?_));refine ybj rfl ?_ ?_<;>(intro ht;rw [ht];first|replace ht := oet_ ht|replace ht := oef_ ht|skip))|(refine ych ?_;first|(refine ybw rfl ?_ ?_<;>intro ht)|(refine ybx rfl ?_ ?_<;>intro ht)))
    refine rx_persist_s rfl fun h1 hle1 hsp => ?_
    have e : encS (l.map Sb.a) = num1 l.length ++ ((l.map Sb.a).take l.length).flatMap encA := by
      unfold encS
      rw [List.length_map, List.take_of_length_le (by rw [List.length_map]; exact Nat.le_refl _)]
    have hbs : Bs8 h1 v (encS (l.map Sb.a)) := by rw [e]; exact hsp
    repeat' (first|(refine ycf ?_;apply ybk;(·first|(exact qv_str_bs rfl hbs));(·rfl);(·rfl))|refine t1_ ?_|(refine ta_ ?_;intro _)|((fail_if_success (refine ybi rfl ?_));refine ybj rfl ?_ ?_<;>(intro ht;rw [ht];first|replace ht := oet_ ht|replace ht := oef_ ht|skip))|(refine ych ?_;first|(refine ybw rfl ?_ ?_<;>intro ht)|(refine ybx rfl ?_ ?_<;>intro ht)))
    exact nx_ret1 rfl (rv_tmp rfl) (fun w' s' => ⟨rfl, s'.nil.base⟩)
theorem rDigest_sp (v : Value) (l : List Sb) (h : View) (hs : Rs h v l) (fl : Fits l) (hk0 : checkA (l.map Sb.a) = 0) (hsz : (encS (l.map Sb.a)).length ≤ 900000) (w : World) (s : St ⟨w, h, []⟩ h [] w) :
    Calls Tryz.prog 18 [v].toArray w fun e w' => e = .returned (.string (bstr (shaF (encS (l.map Sb.a))))) ∧ St ⟨w, h, []⟩ h [] w' := by
  have hby : Bytes (encS (l.map Sb.a)) := bytes_app (putLow_bytes' 1 _) (bytes_flat fun a ha => by
    obtain ⟨x, hx, rfl⟩ := List.mem_map.1 ha
    exact encA_by (hs.2 x hx).by8)
  refine calls_enter Tryz.func18 rfl Tryz.ntmps18 rfl s ?_
  repeat' (first|(refine ycf ?_;apply ybk;(·first|(exact qv_str_bs rfl hbs));(·rfl);(·rfl))|refine t1_ ?_|(refine ta_ ?_;intro _)|((fail_if_success (refine ybi rfl ?_));refine ybj rfl ?_ ?_<;>(intro ht;rw [ht];first|replace ht := oet_ ht|replace ht := oef_ ht|skip))|(refine ych ?_;first|(refine ybw rfl ?_ ?_<;>intro ht)|(refine ybx rfl ?_ ?_<;>intro ht)))
  (refine ycn (ycp Tryz.func17 rfl (by kernel_rfl) rfl) (rWrite_sp v l h hs fl hk0 hsz) rfl rfl rfl ?_ ?_; (· (exact to_)))
  repeat' (first|(refine ycf ?_;apply ybk;(·first|(exact qv_str_bs rfl hbs));(·rfl);(·rfl))|refine t1_ ?_|(refine ta_ ?_;intro _)|((fail_if_success (refine ybi rfl ?_));refine ybj rfl ?_ ?_<;>(intro ht;rw [ht];first|replace ht := oet_ ht|replace ht := oef_ ht|skip))|(refine ych ?_;first|(refine ybw rfl ?_ ?_<;>intro ht)|(refine ybx rfl ?_ ?_<;>intro ht)))
  (refine ycn (ycp Tryz.func50 rfl (by kernel_rfl) rfl) (rSum_sp _ hby hsz h) rfl rfl rfl ?_ ?_; (· (exact to_)))
  repeat' (first|(refine ycf ?_;apply ybk;(·first|(exact qv_str_bs rfl hbs));(·rfl);(·rfl))|refine t1_ ?_|(refine ta_ ?_;intro _)|((fail_if_success (refine ybi rfl ?_));refine ybj rfl ?_ ?_<;>(intro ht;rw [ht];first|replace ht := oet_ ht|replace ht := oef_ ht|skip))|(refine ych ?_;first|(refine ybw rfl ?_ ?_<;>intro ht)|(refine ybx rfl ?_ ?_<;>intro ht)))
  exact nx_ret1 rfl (rv_tmp rfl) (fun w' s' => ⟨rfl, s'.nil⟩)
theorem shaF_len (b : List Int) : (shaF b).length = 32 := by
  unfold shaF
  have : ∀ l : List W32, (l.flatMap fun x => num4 x.toNat).length = 4 * l.length := fun l => by
    induction l with
    | nil => rfl
    | cons a l ih => rw [List.flatMap_cons, List.length_append, num4_len, ih, List.length_cons]; omega
  rw [this, blocksF_len]
theorem b_sz {l : List Int} {n : Nat} (h : l.length = n) : (Value.agg (bcs l).toArray).cells.size = n := by
  show (bcs l).toArray.size = n
  simp [bcs_len, h]
theorem b_fit {l : List Int} {cs : Array Value} {n : Nat} (h : l.length = n) (hc : cs.size = n) : 0 + (Value.agg (bcs l).toArray).cells.size ≤ cs.size := by rw [b_sz h, hc]; omega
theorem b_all {l : List Int} {cs : List Value} {n : Nat} (h : l.length = n) (hc : cs.length = n) : (Value.agg (bcs l).toArray).cells.toList.length = cs.length := by
  rw [hc]
  show (bcs l).length = n
  rw [bcs_len, h]
theorem b_one (l : List Int) : (Value.agg (bcs l).toArray).cells.toList.all Value.oneCell' = true := List.all_eq_true.2 (bcs_one l)
theorem sDigest_sp (v : Value) (l : List Sb) (h : View) (hs : Ss h v l) (fl : Fits l) (hsz : (encS (l.map Sb.a)).length ≤ 900000) (hg : ShG h) (w : World) (s : St ⟨w, h, []⟩ h [] w) :
    Calls Tryz.prog 8 [v].toArray w fun e w' => ∃ x : View, e = .returned (.tuple #[.agg (bcs (if checkA (l.map Sb.a) = 0 then shaF (encS (l.map Sb.a)) else List.replicate 32 0)).toArray, .int .i64 (checkA (l.map Sb.a))]) ∧ St ⟨w, h, []⟩ x [] w' ∧ True := by
  have hby : Bytes (encS (l.map Sb.a)) := bytes_app (putLow_bytes' 1 _) (bytes_flat fun a ha => by
    obtain ⟨x, hx, rfl⟩ := List.mem_map.1 ha
    exact encA_by (hs.2 x hx).by8)
  refine calls_enter Tryz.func8 rfl Tryz.ntmps8 rfl s ?_
  repeat' (first|(refine ycf ?_;apply ybk;(·first|(exact qv_str_bs rfl hbs));(·rfl);(·rfl))|refine t1_ ?_|(refine ta_ ?_;intro _)|((fail_if_success (refine ybi rfl ?_));refine ybj rfl ?_ ?_<;>(intro ht;rw [ht];first|replace ht := oet_ ht|replace ht := oef_ ht|skip))|(refine ych ?_;first|(refine ybw rfl ?_ ?_<;>intro ht)|(refine ybx rfl ?_ ?_<;>intro ht)))
  (refine yco (ycp Tryz.func7 rfl (by kernel_rfl) rfl) (sWrite_sp v l h hs fl hsz) rfl rfl rfl ?_ ?_ ?_; (· (exact to_)); (· intro _ _ hle; (exact to_)); intro x px hle)
  obtain ⟨h1, v1⟩ := x
  have hle1 : Le h h1 := hle
  clear hle
  have hg1 := hg.mono hle1
  dsimp only at px
  obtain ⟨_, ad1, cap1, rfl, _, _⟩ := id px
  by_cases hz : checkA (l.map Sb.a) = 0
  · rw [hz, if_pos rfl] at px ⊢
    generalize encS (l.map Sb.a) = E at hby hsz px ⊢
    have px : Bs8 h1 (.slice ad1 E.length cap1) E := px
    repeat' (first|(refine ycf ?_;apply ybk;(·first|(exact tk_));(·rfl);(·rfl))|refine t1_ ?_|(refine ta_ ?_;intro _)|((fail_if_success (refine ybi rfl ?_));refine ybj rfl ?_ ?_<;>(intro ht;rw [ht];first|replace ht := oet_ ht|replace ht := oef_ ht|skip))|(refine ych ?_;first|(refine ybw rfl ?_ ?_<;>intro ht)|(refine ybx rfl ?_ ?_<;>intro ht)))
    rename_i b2 b9
    refine rx_rowOf 1 1 1 (by omega) (by unfold maxLen; omega) rfl ?_
    refine rx_persist rfl fun h2 hle2 hs2 => ?_
    have hs2 : Sc h2 1 (.slice (some ⟨b9, 0, none⟩) 1 1) 1 [.slice ad1 E.length cap1] := hs2
    have hfl : flatB [(Value.slice ad1 E.length cap1, E)] 1 = E := by simp [flatB]
    have SS := shaSum_sp _ [(.slice ad1 E.length cap1, E)] h2 hs2 (fun p hp => by rw [List.mem_singleton.1 hp]; exact px.mono hle2) (fun p hp => by rw [List.mem_singleton.1 hp]; exact hby) (by show (flatB _ 1).length ≤ _; rw [hfl]; exact hsz) (by simp) (hg1.mono hle2)
    rw [show flatB [(Value.slice ad1 E.length cap1, E)] [(Value.slice ad1 E.length cap1, E)].length = E from hfl] at SS
    (refine ycn (ycp Tryz.func27 rfl (by kernel_rfl) rfl) (SS) rfl rfl rfl ?_ ?_; (· (exact to_)))
    have hl32 := shaF_len E
    generalize shaF E = out at hl32 ⊢
    have hol : (bcs out).length = 32 := by rw [bcs_len]; omega
    repeat' (first|(refine ycf ?_;apply ybk;(·first|(exact tk_));(·rfl);(·rfl))|(refine ybg 0 rfl rfl rfl (b_sz hl32) (b_fit hl32 (by rfl)) (b_one out) (ybh (b_all hl32 (by rfl))) rfl rfl ?_ ?_ ?_;(·(exact to_));(·(exact to_)))|refine t1_ ?_|(refine ta_ ?_;intro _)|((fail_if_success (refine ybi rfl ?_));refine ybj rfl ?_ ?_<;>(intro ht;rw [ht];first|replace ht := oet_ ht|replace ht := oef_ ht|skip))|(refine ych ?_;first|(refine ybw rfl ?_ ?_<;>intro ht)|(refine ybx rfl ?_ ?_<;>intro ht)))
    exact nx_ret2 rfl (rv_cells rfl (yaz 0 rfl) (b_sz hl32)) (rv_tmp rfl) (fun w' s' => ⟨h2, rfl, s'.nil, trivial⟩)
  · rw [if_neg hz, if_neg hz]
    generalize checkA (l.map Sb.a) = cz at hz ⊢
    repeat' (first|(refine ycf ?_;apply ybk;(·first|(first|exact tk_|(apply qv_build_arr;(·rfl);(·rfl))));(·rfl);(·rfl))|(refine ybg 0 rfl rfl rfl (b_sz hl32) (b_fit hl32 (by rfl)) (b_one out) (ybh (b_all hl32 (by rfl))) rfl rfl ?_ ?_ ?_;(·(exact to_));(·(exact to_)))|refine t1_ ?_|(refine ta_ ?_;intro _)|((fail_if_success (refine ybi rfl ?_));refine ybj rfl ?_ ?_<;>(intro ht;rw [ht];first|replace ht := oet_ ht|replace ht := oef_ ht|skip))|(refine ych ?_;first|(refine ybw rfl ?_ ?_<;>intro ht)|(refine ybx rfl ?_ ?_<;>intro ht)))
    exact nx_ret2 rfl (rv_cells rfl (yaz 0 rfl) rfl) (rv_tmp rfl) (fun w' s' => ⟨h1, rfl, s'.nil, trivial⟩)
end Go.Proofs.YtkkjppeaaicgaaaGreatDoor
end

section
namespace Go.Proofs.YtkkjppeaaicgaaaGreatDoor
open Go Go.Ck
set_option maxRecDepth 100000
set_option maxHeartbeats 2000000
set_option linter.unusedVariables false
theorem byC_put {b r : List Int} {most : Int} (hl : (b.length : Int) ≤ most) (h4 : b.length < 4294967296) : byC (num4 (b.length : Int) ++ b ++ r, 0) most = (b, (r, 0)) := by
  have h1 : lookC (num4 (b.length : Int) ++ b ++ r) 4 most = ((b.length : Int), 0) := by
    have := numC_put (size := 4) (x := (b.length : Int)) (most := most) (r := b ++ r) (by omega) hl (by
      have e : (256 : Int) ^ 4 = 4294967296 := by decide
      rw [e]; omega)
    unfold numC at this
    rw [if_neg (by simp)] at this
    dsimp only at this
    rw [show (putLow 4 (b.length : Int)).reverse ++ (b ++ r) = num4 (b.length : Int) ++ b ++ r by rw [List.append_assoc]; rfl] at this
    split at this
    · rename_i hz
      have e1 := congrArg Prod.fst this
      dsimp only at e1
      exact Prod.ext e1 hz
    · rename_i hz
      have e2 := congrArg (fun p => p.2.2) this
      exact absurd e2 hz
  have hlen : (num4 (b.length : Int) ++ b ++ r).length = 4 + b.length + r.length := by simp only [List.length_append, num4_len]
  have hd : (num4 (b.length : Int) ++ b ++ r).drop 4 = b ++ r := by
    rw [List.append_assoc, List.drop_append_of_le_length (by rw [num4_len]; exact Nat.le_refl _), List.drop_of_length_le (by rw [num4_len]; exact Nat.le_refl _), List.nil_append]
  unfold byC
  rw [if_neg (by simp)]
  dsimp only
  rw [h1, if_neg (by simp)]
  dsimp only
  rw [hlen, Int.toNat_natCast, if_neg (by omega), hd]
  rw [List.take_left, List.drop_left]
theorem encS_put {L : List Ab} (hw : ∀ a ∈ L, a.2.1.length = 16) (hr : ∀ a ∈ L, rightA a = true) : ∀ (k : Nat) (r : List Int), k ≤ L.length → sbsC k (L.flatMap encA ++ r, 0) = ((L.take k, true), ((L.drop k).flatMap encA ++ r, 0))
  | 0, r, _ => by simp [sbsC]
  | k + 1, r, hk => by
    have ih := encS_put hw hr k r (by omega)
    have hkl : k < L.length := by omega
    have hm := List.getElem_mem hkl
    obtain ⟨h1, h2, _, h4⟩ := rightA_ok (hr _ hm)
    have h16 := hw _ hm
    have hdr : L.drop k = L[k] :: L.drop (k + 1) := List.drop_eq_getElem_cons hkl
    have htk : L.take (k + 1) = L.take k ++ [L[k]] := List.take_succ_eq_append_getElem hkl
    show (((sbsC k (L.flatMap encA ++ r, 0)).1.1 ++ [sbA (sbsC k (L.flatMap encA ++ r, 0)).2], (sbsC k (L.flatMap encA ++ r, 0)).1.2 && (sb4 (sbsC k (L.flatMap encA ++ r, 0)).2).1), (sb5 (sbsC k (L.flatMap encA ++ r, 0)).2).2) = _
    rw [ih, hdr, List.flatMap_cons, htk]
    generalize L[k] = a at h1 h2 h4 h16
    obtain ⟨d, u, m, b⟩ := a
    dsimp only at h1 h2 h4 h16 ⊢
    have hd4 := right_of h1
    obtain ⟨rp1, rp2⟩ := rd_put h16 h2
    generalize hR : (L.drop (k + 1)).flatMap encA ++ r = R
    have e0 : encA (d, u, m, b) ++ (L.drop (k + 1)).flatMap encA ++ r = num8 d.1 ++ (num8 d.2 ++ (num4 (encW u m).length ++ encW u m ++ (num4 b.length ++ b ++ R))) := by
      rw [← hR]
      simp only [encA, List.append_assoc]
    rw [e0]
    have s1 : sb1 (num8 d.1 ++ (num8 d.2 ++ (num4 (encW u m).length ++ encW u m ++ (num4 b.length ++ b ++ R))), 0) = (d.1, (num8 d.2 ++ (num4 (encW u m).length ++ encW u m ++ (num4 b.length ++ b ++ R)), 0)) := numC_num8 ⟨by omega, by omega⟩
    generalize hS : (num8 d.1 ++ (num8 d.2 ++ (num4 (encW u m).length ++ encW u m ++ (num4 b.length ++ b ++ R))), (0 : Int)) = S at s1
    have s2 : sb2 S = (d.2, (num4 (encW u m).length ++ encW u m ++ (num4 b.length ++ b ++ R), 0)) := by
      unfold sb2
      rw [s1]
      exact numC_num8 ⟨by omega, by omega⟩
    have s3 : sb3 S = (encW u m, (num4 b.length ++ b ++ R, 0)) := by
      unfold sb3
      rw [s2]
      exact byC_put (by omega) (by omega)
    have s4 : sb4 S = (true, u, m) := by
      unfold sb4
      rw [s3]
      dsimp only
      unfold rdS
      rw [rp1]
      exact if_pos ⟨rfl, h2⟩
    have s5 : sb5 S = (b, (R, 0)) := by
      unfold sb5
      rw [s3]
      exact byC_put (by omega) (by omega)
    unfold sbA
    rw [s1, s2, s4, s5]
    rfl
theorem srS_put {L : List Ab} (hw : ∀ a ∈ L, a.2.1.length = 16) (hc : checkA L = 0) : srS (encS L) = (true, L) := by
  obtain ⟨c64, cR, _, _⟩ := checkA_ok hc
  have e1 : smS (encS L) = ((L.length : Int), (L.flatMap encA, 0)) := by
    unfold smS encS
    exact numC_put (size := 1) (by omega) (by omega) (by
      have e : (256 : Int) ^ 1 = 256 := by decide
      rw [e]; omega)
  have e2 : srC (encS L) = ((L, true), ([], 0)) := by
    unfold srC
    rw [e1]
    have := encS_put hw cR L.length [] (Nat.le_refl _)
    rw [List.append_nil, List.take_length, List.drop_length, List.flatMap_nil, List.append_nil] at this
    dsimp only
    rw [Int.toNat_natCast]
    exact this
  unfold srS
  rw [e2]
  exact if_pos ⟨rfl, rfl, hc⟩
end Go.Proofs.YtkkjppeaaicgaaaGreatDoor
end

section
namespace Go.Proofs.YtkkjppeaaicgaaaGreatDoor
open Go Go.Ck
set_option maxRecDepth 100000
set_option maxHeartbeats 2000000
set_option linter.unusedVariables false
theorem bstr_list (l : List Int) : (bstr l).toList = l.map fun n => UInt8.ofNat n.toNat := by
  rw [ByteArray.toList_eq]
  simp [bstr]
theorem bstr_eq {a b : List Int} (ha : Bytes a) (hb : Bytes b) : ((bstr a).toList == (bstr b).toList) = decide (a = b) := by
  rw [bstr_list, bstr_list]
  rw [Bool.eq_iff_iff, decide_eq_true_iff, beq_iff_eq]
  refine ⟨fun h => ?_, fun h => by rw [h]⟩
  have h1 := congrArg (List.map fun x : UInt8 => (x.toNat : Int)) h
  have h2 : ∀ l : List Int, Bytes l → List.map (fun x : UInt8 => (x.toNat : Int)) (l.map fun n => UInt8.ofNat n.toNat) = l := fun l hl => by
    rw [List.map_map]
    have : l.map ((fun x : UInt8 => (x.toNat : Int)) ∘ fun n : Int => UInt8.ofNat n.toNat) = l.map id := List.map_congr_left fun x hx => by
      have := hl x hx
      simp
      omega
    rw [this, List.map_id]
  rwa [h2 a ha, h2 b hb] at h1
theorem map_ne_len {a b : List Sb} (h : a.length ≠ b.length) : a.map Sb.a ≠ b.map Sb.a := fun e => h (by simpa using congrArg List.length e)
end Go.Proofs.YtkkjppeaaicgaaaGreatDoor
end

section
namespace Go.Proofs.YtkkjppeaaicgaaaGreatDoor
open Go Go.Ck
set_option maxRecDepth 100000
set_option maxHeartbeats 4000000
set_option linter.unusedVariables false
theorem rsame_sp (va vb : Value) (a b : List Sb) (h : View) (ha : Rs h va a) (hb : Rs h vb b) (hl : a.length ≤ 4611686018427387904) (hm : b.length ≤ 4611686018427387904) (lla : ∀ x ∈ a, x.l.length ≤ 4611686018427387904) (llb : ∀ x ∈ b, x.l.length ≤ 4611686018427387904) (w : World) (s : St ⟨w, h, []⟩ h [] w) :
    Calls Tryz.prog 14 [va, vb].toArray w fun e w' => e = .returned (.bool (decide (a.map Sb.a = b.map Sb.a))) ∧ St ⟨w, h, []⟩ h [] w' := by
  obtain ⟨hs, hsv⟩ := ha
  obtain ⟨hs2, hsv2⟩ := hb
  obtain ⟨_, ad, cap, rfl, hcap, _⟩ := id hs
  obtain ⟨_, ad2, cap2, rfl, hcap2, _⟩ := id hs2
  refine calls_enter Tryz.func14 rfl Tryz.ntmps14 rfl s ?_
  by_cases hlm : a.length = b.length
  · repeat' (first|(refine ycf ?_;apply ybk;(·first|(exact tk_));(·rfl);(·rfl))|refine t1_ ?_|(refine ta_ ?_;intro _)|((fail_if_success (refine ybi rfl ?_));refine ybj rfl ?_ ?_<;>(intro ht;rw [ht];first|replace ht := oet_ ht|replace ht := oef_ ht|skip))|(refine ych ?_;first|(refine ybw rfl ?_ ?_<;>intro ht)|(refine ybx rfl ?_ ?_<;>intro ht)))
    refine cx_loop (X := Nat) (fun k => [(0, .slice ad a.length cap), (1, .slice ad2 b.length cap2), (5, .int .i64 k)]) (fun _ => h) (fun _ => []) (fun k => k ≤ a.length ∧ (a.take k).map Sb.a = (b.take k).map Sb.a) (fun k => a.length - k) 0 ⟨by omega, by simp⟩ ts_ (fun _ s => s) ?_
    rintro k ⟨hk, hek⟩
    by_cases hkl : k < a.length
    · have hkm : k < b.length := by omega
      obtain ⟨bs, o, rfl⟩ := hs.ad (by omega) (by omega)
      obtain ⟨bs2, o2, rfl⟩ := hs2.ad (by omega) (by omega)
      have hel : ∀ L, Cells h L ⟨bs, o + k * 20, none⟩ (sbc a[k]) := fun L => hs.elem sbc_len k hkl
      have hel2 : ∀ L, Cells h L ⟨bs2, o2 + k * 20, none⟩ (sbc b[k]) := fun L => hs2.elem sbc_len k hkm
      have hx := hsv _ (List.getElem_mem hkl)
      have hy := hsv2 _ (List.getElem_mem hkm)
      have hlx := lla _ (List.getElem_mem hkl)
      have hly := llb _ (List.getElem_mem hkm)
      have ta : a.take (k + 1) = a.take k ++ [a[k]] := List.take_succ_eq_append_getElem hkl
      have tb : b.take (k + 1) = b.take k ++ [b[k]] := List.take_succ_eq_append_getElem hkm
      have hne : a[k].a ≠ b[k].a → a.map Sb.a ≠ b.map Sb.a := fun hn e => hn (by
        have := congrArg (fun l : List Ab => l[k]?) e
        simpa [hkl, hkm] using this)
      have C1 := refSame_sp _ _ a[k].u b[k].u a[k].l b[k].l h ⟨a[k].hu, _, rfl, hx.ds⟩ ⟨b[k].hu, _, rfl, hy.ds⟩ (by omega) (by omega)
      generalize a[k] = x1 at hel ta hne hx C1
      generalize b[k] = y1 at hel2 tb hne hy C1
      have hbe := bstr_eq hx.by8 hy.by8
      have hu1 := x1.hu
      have hu2 := y1.hu
      by_cases hd : x1.d = y1.d
      · have hde : decide (x1.d = y1.d) = true := decide_eq_true hd
        by_cases hp : x1.u = y1.u ∧ x1.l = y1.l
        · rw [decide_eq_true hp.1, decide_eq_true hp.2, Bool.true_and] at C1
          by_cases hb : x1.b = y1.b
          ·
            repeat' (first|(refine ycf ?_;apply ybk;(·first|(first|exact tk_|(refine qv_neq_agg (t := true) rfl rfl (fun w => by rw [← hde];exact dot_eq _ _ w))|(apply yad;(·rfl);(·exact sb_dot (hel _));(·rfl))|(apply yad;(·rfl);(·exact sb_dot (hel2 _));(·rfl))|(apply yad;(·rfl);(·exact sb_past (hel _));(·exact ycj hu1))|(apply yad;(·rfl);(·exact sb_past (hel2 _));(·exact ycj hu2))|(apply qv_neq_str (t := false);(·rfl);(·rfl);(·rw [hbe, decide_eq_true hb];rfl)))|(apply yae;(·rfl);(·(first|exact sb_body' (hel _) hx.bs|exact sb_body' (hel2 _) hy.bs))));(·rfl);(·rfl))|refine t1_ ?_|(refine ta_ ?_;intro _)|((fail_if_success (refine ybi rfl ?_));refine ybj rfl ?_ ?_<;>(intro ht;rw [ht];first|replace ht := oet_ ht|replace ht := oef_ ht|skip))|(refine ych ?_;first|(refine ybw rfl ?_ ?_<;>intro ht)|(refine ybx rfl ?_ ?_<;>intro ht)))
            refine cx_region_draw' rfl (by kernel_rfl) ?_
            repeat' (refine ycf ?_;(first|(first|(apply ybm;(·(first|(first|exact tk_|(refine qv_neq_agg (t := true) rfl rfl (fun w => by rw [← hde];exact dot_eq _ _ w))|(apply yad;(·rfl);(·exact sb_dot (hel _));(·rfl))|(apply yad;(·rfl);(·exact sb_dot (hel2 _));(·rfl))|(apply yad;(·rfl);(·exact sb_past (hel _));(·exact ycj hu1))|(apply yad;(·rfl);(·exact sb_past (hel2 _));(·exact ycj hu2))|(apply qv_neq_str (t := false);(·rfl);(·rfl);(·rw [hbe, decide_eq_true hb];rfl)))|(apply yae;(·rfl);(·(first|exact sb_body' (hel _) hx.bs|exact sb_body' (hel2 _) hy.bs)))|exact tq_));(·rfl);(·rfl);(·(exact th_)))|refine ybl rfl rfl ?_|((fail_if_success (refine ybi rfl ?_));refine ybj rfl ?_ ?_<;>(intro ht;rw [ht];first|replace ht := oet_ ht|replace ht := oef_ ht|skip))|(refine tb_ ?_ ?_ ?_;(·(exact to_));(·intro _;(exact to_));intro _)|(first|(refine tqs_ ?_ ?_ ?_;(·(exact to_));(·(exact to_))))|(apply ybn;(·(first|(first|exact tk_|(refine qv_neq_agg (t := true) rfl rfl (fun w => by rw [← hde];exact dot_eq _ _ w))|(apply yad;(·rfl);(·exact sb_dot (hel _));(·rfl))|(apply yad;(·rfl);(·exact sb_dot (hel2 _));(·rfl))|(apply yad;(·rfl);(·exact sb_past (hel _));(·exact ycj hu1))|(apply yad;(·rfl);(·exact sb_past (hel2 _));(·exact ycj hu2))|(apply qv_neq_str (t := false);(·rfl);(·rfl);(·rw [hbe, decide_eq_true hb];rfl)))|(apply yae;(·rfl);(·(first|exact sb_body' (hel _) hx.bs|exact sb_body' (hel2 _) hy.bs)))|exact tq_));(·rfl);(·rfl);(·rfl);(·(exact to_))))|refine ycg ?_))
            (refine ycn (ycp Tryz.func13 rfl (by kernel_rfl) rfl) (C1) rfl rfl rfl ?_ ?_; (· (exact to_)))
            repeat' (refine ycf ?_;(first|(first|(apply ybm;(·(first|(first|exact tk_|(refine qv_neq_agg (t := true) rfl rfl (fun w => by rw [← hde];exact dot_eq _ _ w))|(apply yad;(·rfl);(·exact sb_dot (hel _));(·rfl))|(apply yad;(·rfl);(·exact sb_dot (hel2 _));(·rfl))|(apply yad;(·rfl);(·exact sb_past (hel _));(·exact ycj hu1))|(apply yad;(·rfl);(·exact sb_past (hel2 _));(·exact ycj hu2))|(apply qv_neq_str (t := false);(·rfl);(·rfl);(·rw [hbe, decide_eq_true hb];rfl)))|(apply yae;(·rfl);(·(first|exact sb_body' (hel _) hx.bs|exact sb_body' (hel2 _) hy.bs)))|exact tq_));(·rfl);(·rfl);(·(exact th_)))|refine ybl rfl rfl ?_|((fail_if_success (refine ybi rfl ?_));refine ybj rfl ?_ ?_<;>(intro ht;rw [ht];first|replace ht := oet_ ht|replace ht := oef_ ht|skip))|(refine tb_ ?_ ?_ ?_;(·(exact to_));(·intro _;(exact to_));intro _)|(first|(refine tqs_ ?_ ?_ ?_;(·(exact to_));(·(exact to_))))|(apply ybn;(·(first|(first|exact tk_|(refine qv_neq_agg (t := true) rfl rfl (fun w => by rw [← hde];exact dot_eq _ _ w))|(apply yad;(·rfl);(·exact sb_dot (hel _));(·rfl))|(apply yad;(·rfl);(·exact sb_dot (hel2 _));(·rfl))|(apply yad;(·rfl);(·exact sb_past (hel _));(·exact ycj hu1))|(apply yad;(·rfl);(·exact sb_past (hel2 _));(·exact ycj hu2))|(apply qv_neq_str (t := false);(·rfl);(·rfl);(·rw [hbe, decide_eq_true hb];rfl)))|(apply yae;(·rfl);(·(first|exact sb_body' (hel _) hx.bs|exact sb_body' (hel2 _) hy.bs)))|exact tq_));(·rfl);(·rfl);(·rfl);(·(exact to_))))|refine ycg ?_))
            repeat' (first|(refine ycf ?_;apply ybk;(·first|(first|exact tk_|(refine qv_neq_agg (t := true) rfl rfl (fun w => by rw [← hde];exact dot_eq _ _ w))|(apply yad;(·rfl);(·exact sb_dot (hel _));(·rfl))|(apply yad;(·rfl);(·exact sb_dot (hel2 _));(·rfl))|(apply yad;(·rfl);(·exact sb_past (hel _));(·exact ycj hu1))|(apply yad;(·rfl);(·exact sb_past (hel2 _));(·exact ycj hu2))|(apply qv_neq_str (t := false);(·rfl);(·rfl);(·rw [hbe, decide_eq_true hb];rfl)))|(apply yae;(·rfl);(·(first|exact sb_body' (hel _) hx.bs|exact sb_body' (hel2 _) hy.bs))));(·rfl);(·rfl))|refine t1_ ?_|(refine ta_ ?_;intro _)|((fail_if_success (refine ybi rfl ?_));refine ybj rfl ?_ ?_<;>(intro ht;rw [ht];first|replace ht := oet_ ht|replace ht := oef_ ht|skip))|(refine ych ?_;first|(refine ybw rfl ?_ ?_<;>intro ht)|(refine ybx rfl ?_ ?_<;>intro ht)))
            refine nx_round (k + 1) ⟨by omega, ?_⟩ (by omega) ts_ (fun _ s => s)
            rw [ta, tb, List.map_append, List.map_append, hek]
            congr 1
            show [x1.a] = [y1.a]
            show [(x1.d, x1.u, x1.l, x1.b)] = [(y1.d, y1.u, y1.l, y1.b)]
            rw [hd, hp.1, hp.2, hb]
          ·
            repeat' (first|(refine ycf ?_;apply ybk;(·first|(first|exact tk_|(refine qv_neq_agg (t := true) rfl rfl (fun w => by rw [← hde];exact dot_eq _ _ w))|(apply yad;(·rfl);(·exact sb_dot (hel _));(·rfl))|(apply yad;(·rfl);(·exact sb_dot (hel2 _));(·rfl))|(apply yad;(·rfl);(·exact sb_past (hel _));(·exact ycj hu1))|(apply yad;(·rfl);(·exact sb_past (hel2 _));(·exact ycj hu2))|(apply qv_neq_str (t := true);(·rfl);(·rfl);(·rw [hbe, decide_eq_false hb];rfl)))|(apply yae;(·rfl);(·(first|exact sb_body' (hel _) hx.bs|exact sb_body' (hel2 _) hy.bs))));(·rfl);(·rfl))|refine t1_ ?_|(refine ta_ ?_;intro _)|((fail_if_success (refine ybi rfl ?_));refine ybj rfl ?_ ?_<;>(intro ht;rw [ht];first|replace ht := oet_ ht|replace ht := oef_ ht|skip))|(refine ych ?_;first|(refine ybw rfl ?_ ?_<;>intro ht)|(refine ybx rfl ?_ ?_<;>intro ht)))
            refine cx_region_draw' rfl (by kernel_rfl) ?_
            repeat' (refine ycf ?_;(first|(first|(apply ybm;(·(first|(first|exact tk_|(refine qv_neq_agg (t := true) rfl rfl (fun w => by rw [← hde];exact dot_eq _ _ w))|(apply yad;(·rfl);(·exact sb_dot (hel _));(·rfl))|(apply yad;(·rfl);(·exact sb_dot (hel2 _));(·rfl))|(apply yad;(·rfl);(·exact sb_past (hel _));(·exact ycj hu1))|(apply yad;(·rfl);(·exact sb_past (hel2 _));(·exact ycj hu2))|(apply qv_neq_str (t := true);(·rfl);(·rfl);(·rw [hbe, decide_eq_false hb];rfl)))|(apply yae;(·rfl);(·(first|exact sb_body' (hel _) hx.bs|exact sb_body' (hel2 _) hy.bs)))|exact tq_));(·rfl);(·rfl);(·(exact th_)))|refine ybl rfl rfl ?_|((fail_if_success (refine ybi rfl ?_));refine ybj rfl ?_ ?_<;>(intro ht;rw [ht];first|replace ht := oet_ ht|replace ht := oef_ ht|skip))|(refine tb_ ?_ ?_ ?_;(·(exact to_));(·intro _;(exact to_));intro _)|(first|(refine tqs_ ?_ ?_ ?_;(·(exact to_));(·(exact to_))))|(apply ybn;(·(first|(first|exact tk_|(refine qv_neq_agg (t := true) rfl rfl (fun w => by rw [← hde];exact dot_eq _ _ w))|(apply yad;(·rfl);(·exact sb_dot (hel _));(·rfl))|(apply yad;(·rfl);(·exact sb_dot (hel2 _));(·rfl))|(apply yad;(·rfl);(·exact sb_past (hel _));(·exact ycj hu1))|(apply yad;(·rfl);(·exact sb_past (hel2 _));(·exact ycj hu2))|(apply qv_neq_str (t := true);(·rfl);(·rfl);(·rw [hbe, decide_eq_false hb];rfl)))|(apply yae;(·rfl);(·(first|exact sb_body' (hel _) hx.bs|exact sb_body' (hel2 _) hy.bs)))|exact tq_));(·rfl);(·rfl);(·rfl);(·(exact to_))))|refine ycg ?_))
            (refine ycn (ycp Tryz.func13 rfl (by kernel_rfl) rfl) (C1) rfl rfl rfl ?_ ?_; (· (exact to_)))
            repeat' (refine ycf ?_;(first|(first|(apply ybm;(·(first|(first|exact tk_|(refine qv_neq_agg (t := true) rfl rfl (fun w => by rw [← hde];exact dot_eq _ _ w))|(apply yad;(·rfl);(·exact sb_dot (hel _));(·rfl))|(apply yad;(·rfl);(·exact sb_dot (hel2 _));(·rfl))|(apply yad;(·rfl);(·exact sb_past (hel _));(·exact ycj hu1))|(apply yad;(·rfl);(·exact sb_past (hel2 _));(·exact ycj hu2))|(apply qv_neq_str (t := true);(·rfl);(·rfl);(·rw [hbe, decide_eq_false hb];rfl)))|(apply yae;(·rfl);(·(first|exact sb_body' (hel _) hx.bs|exact sb_body' (hel2 _) hy.bs)))|exact tq_));(·rfl);(·rfl);(·(exact th_)))|refine ybl rfl rfl ?_|((fail_if_success (refine ybi rfl ?_));refine ybj rfl ?_ ?_<;>(intro ht;rw [ht];first|replace ht := oet_ ht|replace ht := oef_ ht|skip))|(refine tb_ ?_ ?_ ?_;(·(exact to_));(·intro _;(exact to_));intro _)|(first|(refine tqs_ ?_ ?_ ?_;(·(exact to_));(·(exact to_))))|(apply ybn;(·(first|(first|exact tk_|(refine qv_neq_agg (t := true) rfl rfl (fun w => by rw [← hde];exact dot_eq _ _ w))|(apply yad;(·rfl);(·exact sb_dot (hel _));(·rfl))|(apply yad;(·rfl);(·exact sb_dot (hel2 _));(·rfl))|(apply yad;(·rfl);(·exact sb_past (hel _));(·exact ycj hu1))|(apply yad;(·rfl);(·exact sb_past (hel2 _));(·exact ycj hu2))|(apply qv_neq_str (t := true);(·rfl);(·rfl);(·rw [hbe, decide_eq_false hb];rfl)))|(apply yae;(·rfl);(·(first|exact sb_body' (hel _) hx.bs|exact sb_body' (hel2 _) hy.bs)))|exact tq_));(·rfl);(·rfl);(·rfl);(·(exact to_))))|refine ycg ?_))
            repeat' (first|(refine ycf ?_;apply ybk;(·first|(first|exact tk_|(refine qv_neq_agg (t := true) rfl rfl (fun w => by rw [← hde];exact dot_eq _ _ w))|(apply yad;(·rfl);(·exact sb_dot (hel _));(·rfl))|(apply yad;(·rfl);(·exact sb_dot (hel2 _));(·rfl))|(apply yad;(·rfl);(·exact sb_past (hel _));(·exact ycj hu1))|(apply yad;(·rfl);(·exact sb_past (hel2 _));(·exact ycj hu2))|(apply qv_neq_str (t := true);(·rfl);(·rfl);(·rw [hbe, decide_eq_false hb];rfl)))|(apply yae;(·rfl);(·(first|exact sb_body' (hel _) hx.bs|exact sb_body' (hel2 _) hy.bs))));(·rfl);(·rfl))|refine t1_ ?_|(refine ta_ ?_;intro _)|((fail_if_success (refine ybi rfl ?_));refine ybj rfl ?_ ?_<;>(intro ht;rw [ht];first|replace ht := oet_ ht|replace ht := oef_ ht|skip))|(refine ych ?_;first|(refine ybw rfl ?_ ?_<;>intro ht)|(refine ybx rfl ?_ ?_<;>intro ht)))
            refine nx_ret1 rfl (rv_tmp rfl) (fun w' s' => ⟨?_, s'.nil⟩)
            rw [decide_eq_false (hne fun e => hb (congrArg (·.2.2.2) e))]
        · have hpf : (decide (x1.u = y1.u) && decide (x1.l = y1.l)) = false := by
            rw [← Bool.decide_and]; exact decide_eq_false hp
          rw [hpf] at C1
          repeat' (first|(refine ycf ?_;apply ybk;(·first|(first|exact tk_|(refine qv_neq_agg (t := true) rfl rfl (fun w => by rw [← hde];exact dot_eq _ _ w))|(apply yad;(·rfl);(·exact sb_dot (hel _));(·rfl))|(apply yad;(·rfl);(·exact sb_dot (hel2 _));(·rfl))|(apply yad;(·rfl);(·exact sb_past (hel _));(·exact ycj hu1))|(apply yad;(·rfl);(·exact sb_past (hel2 _));(·exact ycj hu2)))|(apply yae;(·rfl);(·(first|exact sb_body' (hel _) hx.bs|exact sb_body' (hel2 _) hy.bs))));(·rfl);(·rfl))|refine t1_ ?_|(refine ta_ ?_;intro _)|((fail_if_success (refine ybi rfl ?_));refine ybj rfl ?_ ?_<;>(intro ht;rw [ht];first|replace ht := oet_ ht|replace ht := oef_ ht|skip))|(refine ych ?_;first|(refine ybw rfl ?_ ?_<;>intro ht)|(refine ybx rfl ?_ ?_<;>intro ht)))
          refine cx_region_draw' rfl (by kernel_rfl) ?_
          repeat' (refine ycf ?_;(first|(first|(apply ybm;(·(first|(first|exact tk_|(refine qv_neq_agg (t := true) rfl rfl (fun w => by rw [← hde];exact dot_eq _ _ w))|(apply yad;(·rfl);(·exact sb_dot (hel _));(·rfl))|(apply yad;(·rfl);(·exact sb_dot (hel2 _));(·rfl))|(apply yad;(·rfl);(·exact sb_past (hel _));(·exact ycj hu1))|(apply yad;(·rfl);(·exact sb_past (hel2 _));(·exact ycj hu2)))|(apply yae;(·rfl);(·(first|exact sb_body' (hel _) hx.bs|exact sb_body' (hel2 _) hy.bs)))|exact tq_));(·rfl);(·rfl);(·(exact th_)))|refine ybl rfl rfl ?_|((fail_if_success (refine ybi rfl ?_));refine ybj rfl ?_ ?_<;>(intro ht;rw [ht];first|replace ht := oet_ ht|replace ht := oef_ ht|skip))|(refine tb_ ?_ ?_ ?_;(·(exact to_));(·intro _;(exact to_));intro _)|(first|(refine tqs_ ?_ ?_ ?_;(·(exact to_));(·(exact to_))))|(apply ybn;(·(first|(first|exact tk_|(refine qv_neq_agg (t := true) rfl rfl (fun w => by rw [← hde];exact dot_eq _ _ w))|(apply yad;(·rfl);(·exact sb_dot (hel _));(·rfl))|(apply yad;(·rfl);(·exact sb_dot (hel2 _));(·rfl))|(apply yad;(·rfl);(·exact sb_past (hel _));(·exact ycj hu1))|(apply yad;(·rfl);(·exact sb_past (hel2 _));(·exact ycj hu2)))|(apply yae;(·rfl);(·(first|exact sb_body' (hel _) hx.bs|exact sb_body' (hel2 _) hy.bs)))|exact tq_));(·rfl);(·rfl);(·rfl);(·(exact to_))))|refine ycg ?_))
          (refine ycn (ycp Tryz.func13 rfl (by kernel_rfl) rfl) (C1) rfl rfl rfl ?_ ?_; (· (exact to_)))
          repeat' (refine ycf ?_;(first|(first|(apply ybm;(·(first|(first|exact tk_|(refine qv_neq_agg (t := true) rfl rfl (fun w => by rw [← hde];exact dot_eq _ _ w))|(apply yad;(·rfl);(·exact sb_dot (hel _));(·rfl))|(apply yad;(·rfl);(·exact sb_dot (hel2 _));(·rfl))|(apply yad;(·rfl);(·exact sb_past (hel _));(·exact ycj hu1))|(apply yad;(·rfl);(·exact sb_past (hel2 _));(·exact ycj hu2)))|(apply yae;(·rfl);(·(first|exact sb_body' (hel _) hx.bs|exact sb_body' (hel2 _) hy.bs)))|exact tq_));(·rfl);(·rfl);(·(exact th_)))|refine ybl rfl rfl ?_|((fail_if_success (refine ybi rfl ?_));refine ybj rfl ?_ ?_<;>(intro ht;rw [ht];first|replace ht := oet_ ht|replace ht := oef_ ht|skip))|(refine tb_ ?_ ?_ ?_;(·(exact to_));(·intro _;(exact to_));intro _)|(first|(refine tqs_ ?_ ?_ ?_;(·(exact to_));(·(exact to_))))|(apply ybn;(·(first|(first|exact tk_|(refine qv_neq_agg (t := true) rfl rfl (fun w => by rw [← hde];exact dot_eq _ _ w))|(apply yad;(·rfl);(·exact sb_dot (hel _));(·rfl))|(apply yad;(·rfl);(·exact sb_dot (hel2 _));(·rfl))|(apply yad;(·rfl);(·exact sb_past (hel _));(·exact ycj hu1))|(apply yad;(·rfl);(·exact sb_past (hel2 _));(·exact ycj hu2)))|(apply yae;(·rfl);(·(first|exact sb_body' (hel _) hx.bs|exact sb_body' (hel2 _) hy.bs)))|exact tq_));(·rfl);(·rfl);(·rfl);(·(exact to_))))|refine ycg ?_))
          repeat' (first|(refine ycf ?_;apply ybk;(·first|(first|exact tk_|(refine qv_neq_agg (t := true) rfl rfl (fun w => by rw [← hde];exact dot_eq _ _ w))|(apply yad;(·rfl);(·exact sb_dot (hel _));(·rfl))|(apply yad;(·rfl);(·exact sb_dot (hel2 _));(·rfl))|(apply yad;(·rfl);(·exact sb_past (hel _));(·exact ycj hu1))|(apply yad;(·rfl);(·exact sb_past (hel2 _));(·exact ycj hu2)))|(apply yae;(·rfl);(·(first|exact sb_body' (hel _) hx.bs|exact sb_body' (hel2 _) hy.bs))));(·rfl);(·rfl))|refine t1_ ?_|(refine ta_ ?_;intro _)|((fail_if_success (refine ybi rfl ?_));refine ybj rfl ?_ ?_<;>(intro ht;rw [ht];first|replace ht := oet_ ht|replace ht := oef_ ht|skip))|(refine ych ?_;first|(refine ybw rfl ?_ ?_<;>intro ht)|(refine ybx rfl ?_ ?_<;>intro ht)))
          refine nx_ret1 rfl (rv_tmp rfl) (fun w' s' => ⟨?_, s'.nil⟩)
          rw [decide_eq_false (hne fun e => hp ⟨congrArg (·.2.1) e, congrArg (·.2.2.1) e⟩)]
      · have hde : decide (x1.d = y1.d) = false := decide_eq_false hd
        repeat' (first|(refine ycf ?_;apply ybk;(·first|(first|exact tk_|(refine qv_neq_agg (t := false) rfl rfl (fun w => by rw [← hde];exact dot_eq _ _ w))|(apply yad;(·rfl);(·exact sb_dot (hel _));(·rfl))|(apply yad;(·rfl);(·exact sb_dot (hel2 _));(·rfl)))|(apply yae;(·rfl);(·(first|exact sb_body' (hel _) hx.bs|exact sb_body' (hel2 _) hy.bs))));(·rfl);(·rfl))|refine t1_ ?_|(refine ta_ ?_;intro _)|((fail_if_success (refine ybi rfl ?_));refine ybj rfl ?_ ?_<;>(intro ht;rw [ht];first|replace ht := oet_ ht|replace ht := oef_ ht|skip))|(refine ych ?_;first|(refine ybw rfl ?_ ?_<;>intro ht)|(refine ybx rfl ?_ ?_<;>intro ht)))
        refine cx_region_draw' rfl (by kernel_rfl) ?_
        repeat' (refine ycf ?_;(first|(first|(apply ybm;(·(first|(first|exact tk_|(refine qv_neq_agg (t := false) rfl rfl (fun w => by rw [← hde];exact dot_eq _ _ w))|(apply yad;(·rfl);(·exact sb_dot (hel _));(·rfl))|(apply yad;(·rfl);(·exact sb_dot (hel2 _));(·rfl)))|(apply yae;(·rfl);(·(first|exact sb_body' (hel _) hx.bs|exact sb_body' (hel2 _) hy.bs)))|exact tq_));(·rfl);(·rfl);(·(exact th_)))|refine ybl rfl rfl ?_|((fail_if_success (refine ybi rfl ?_));refine ybj rfl ?_ ?_<;>(intro ht;rw [ht];first|replace ht := oet_ ht|replace ht := oef_ ht|skip))|(refine tb_ ?_ ?_ ?_;(·(exact to_));(·intro _;(exact to_));intro _)|(first|(refine tqs_ ?_ ?_ ?_;(·(exact to_));(·(exact to_))))|(apply ybn;(·(first|(first|exact tk_|(refine qv_neq_agg (t := false) rfl rfl (fun w => by rw [← hde];exact dot_eq _ _ w))|(apply yad;(·rfl);(·exact sb_dot (hel _));(·rfl))|(apply yad;(·rfl);(·exact sb_dot (hel2 _));(·rfl)))|(apply yae;(·rfl);(·(first|exact sb_body' (hel _) hx.bs|exact sb_body' (hel2 _) hy.bs)))|exact tq_));(·rfl);(·rfl);(·rfl);(·(exact to_))))|refine ycg ?_))
        repeat' (first|(refine ycf ?_;apply ybk;(·first|(first|exact tk_|(refine qv_neq_agg (t := false) rfl rfl (fun w => by rw [← hde];exact dot_eq _ _ w))|(apply yad;(·rfl);(·exact sb_dot (hel _));(·rfl))|(apply yad;(·rfl);(·exact sb_dot (hel2 _));(·rfl)))|(apply yae;(·rfl);(·(first|exact sb_body' (hel _) hx.bs|exact sb_body' (hel2 _) hy.bs))));(·rfl);(·rfl))|refine t1_ ?_|(refine ta_ ?_;intro _)|((fail_if_success (refine ybi rfl ?_));refine ybj rfl ?_ ?_<;>(intro ht;rw [ht];first|replace ht := oet_ ht|replace ht := oef_ ht|skip))|(refine ych ?_;first|(refine ybw rfl ?_ ?_<;>intro ht)|(refine ybx rfl ?_ ?_<;>intro ht)))
        refine nx_ret1 rfl (rv_tmp rfl) (fun w' s' => ⟨?_, s'.nil⟩)
        rw [decide_eq_false (hne fun e => hd (congrArg (·.1) e))]
    ·
      repeat' (first|(refine ycf ?_;apply ybk;(·first|(exact tk_)|(apply yae;(·rfl);(·(first|exact sb_body' (hel _) hx.bs|exact sb_body' (hel2 _) hy.bs))));(·rfl);(·rfl))|refine t1_ ?_|(refine ta_ ?_;intro _)|((fail_if_success (refine ybi rfl ?_));refine ybj rfl ?_ ?_<;>(intro ht;rw [ht];first|replace ht := oet_ ht|replace ht := oef_ ht|skip))|(refine ych ?_;first|(refine ybw rfl ?_ ?_<;>intro ht)|(refine ybx rfl ?_ ?_<;>intro ht)))
      refine nx_ret1 rfl (rv_tmp rfl) (fun w' s' => ⟨?_, s'.nil⟩)
      rw [List.take_of_length_le (by omega), List.take_of_length_le (by omega)] at hek
      rw [decide_eq_true hek]
  · repeat' (first|(refine ycf ?_;apply ybk;(·first|(exact tk_)|(apply yae;(·rfl);(·(first|exact sb_body' (hel _) hx.bs|exact sb_body' (hel2 _) hy.bs))));(·rfl);(·rfl))|refine t1_ ?_|(refine ta_ ?_;intro _)|((fail_if_success (refine ybi rfl ?_));refine ybj rfl ?_ ?_<;>(intro ht;rw [ht];first|replace ht := oet_ ht|replace ht := oef_ ht|skip))|(refine ych ?_;first|(refine ybw rfl ?_ ?_<;>intro ht)|(refine ybx rfl ?_ ?_<;>intro ht)))
    refine nx_ret1 rfl (rv_tmp rfl) (fun w' s' => ⟨?_, s'.nil⟩)
    rw [decide_eq_false (map_ne_len hlm)]
end Go.Proofs.YtkkjppeaaicgaaaGreatDoor
end

section
namespace Go.Proofs.YtkkjppeaaicgaaaGreatDoor
open Go Go.Ck
set_option maxRecDepth 100000
set_option maxHeartbeats 1000000
set_option linter.unusedVariables false
def keepR (L : List Ab) (i : Nat) (x : Ab) : Prop := ∀ (k : Nat) y, L[k]? = some y → hasA y x.1 = false ∧ (i ≤ k ∨ y.1 ≠ x.1)
structure OutR (L : List Ab) (i : Nat) (O : List Ab) : Prop where
  st : StrictA O
  mem : ∀ x, x ∈ O ↔ ∃ j, j < i ∧ L[j]? = some x ∧ keepR L j x
theorem OutR.zero {L : List Ab} : OutR L 0 [] := ⟨List.Pairwise.nil, fun x => by simp⟩
theorem OutR.skip {L O : List Ab} {i : Nat} {x : Ab} (h : OutR L i O) (hx : L[i]? = some x) (hk : ¬ keepR L i x) : OutR L (i + 1) O := ⟨h.st, fun z => by
  rw [h.mem z]
  constructor
  · rintro ⟨j, h1, h2⟩
    exact ⟨j, by omega, h2⟩
  · rintro ⟨j, h1, h2, h3⟩
    by_cases e : j = i
    · subst e
      rw [hx] at h2
      cases h2
      exact absurd h3 hk
    · exact ⟨j, by omega, h2, h3⟩⟩
theorem OutR.add {L O O' : List Ab} {i : Nat} {x : Ab} (h : OutR L i O) (hx : L[i]? = some x) (hk : keepR L i x) (hs : StrictA O') (hm : ∀ z, z ∈ O' ↔ z = x ∨ z ∈ O) : OutR L (i + 1) O' := ⟨hs, fun z => by
  rw [hm z, h.mem z]
  constructor
  · rintro (rfl | ⟨j, h1, h2⟩)
    · exact ⟨i, by omega, hx, hk⟩
    · exact ⟨j, by omega, h2⟩
  · rintro ⟨j, h1, h2, h3⟩
    by_cases e : j = i
    · subst e
      rw [hx] at h2
      cases h2
      exact .inl rfl
    · exact .inr ⟨j, by omega, h2, h3⟩⟩
end Go.Proofs.YtkkjppeaaicgaaaGreatDoor
end

section
namespace Go.Proofs.YtkkjppeaaicgaaaGreatDoor
open Go Go.Ck
set_option maxRecDepth 100000
set_option maxHeartbeats 4000000
set_option linter.unusedVariables false
theorem fill3s {d : Dt} {u : List Int} {mv : Value} {b : List Int} (hu : u.length = 16) : fillL (fun i : Nat => ([(0, 2), (2, 17), (19, 1)] : List (Nat × Nat))[i]?) ([.int .i64 0, .int .i64 0] ++ (up zeroU ++ [.slice none 0 0, .string ⟨#[]⟩])) [(0, .agg (dcs d).toArray), (1, .agg (cxc u mv).toArray), (2, .string (bstr b))] = some (dcs d ++ (cxc u mv ++ [.string (bstr b)])) := by
  obtain ⟨a0, a1, a2, a3, a4, a5, a6, a7, a8, a9, a10, a11, a12, a13, a14, a15, rfl⟩ := list16 u hu
  unfold fillL fillL fillL fillL
  rfl
theorem sfrom_sp (v : Value) (l : List Sb) (h : View) (hs : Ss h v l) (fl : Fits l) (w : World) (s : St ⟨w, h, []⟩ h [] w) :
    Calls Tryz.prog 15 [v].toArray w fun e w' => ∃ z : View × Value × List Sb, e = .returned z.2.1 ∧ St ⟨w, h, []⟩ z.1 [] w' ∧ Rs z.1 z.2.1 z.2.2 ∧ z.2.2.map Sb.a = l.map Sb.a := by
  obtain ⟨hs, hsv⟩ := hs
  obtain ⟨_, ad, cap, rfl, hcap, _⟩ := id hs
  have lenl := fl.1
  refine calls_enter Tryz.func15 rfl Tryz.ntmps15 rfl s ?_
  repeat' (first|refine tw_ ?_|(refine ta_ ?_;intro _)|((fail_if_success (refine ybi rfl ?_));refine ybj rfl ?_ ?_<;>(intro ht;rw [ht];first|replace ht := oet_ ht|replace ht := oef_ ht|skip))|(refine ych ?_;first|(refine ybw rfl ?_ ?_<;>intro ht)|(refine ybx rfl ?_ ?_<;>intro ht)))
  refine cx_row 55 20 ?_
  refine cx_loop (X := Nat × Value × List Sb) (fun y => [(0, .slice ad l.length cap), (3, y.2.1), (4, .int .i64 (y.1 : Nat))]) (fun y => h) (fun y => [Res.row 55 20 y.2.1 y.2.2.length (y.2.2.flatMap sbc)])
    (fun y => y.1 ≤ l.length ∧ (∀ o ∈ y.2.2, Rv h o) ∧ y.2.2.map Sb.a = (l.take y.1).map Sb.a) (fun y => l.length - y.1) (0, .slice none 0 0, []) ⟨Nat.zero_le _, fun o ho => (by cases ho), rfl⟩ ts_ (fun _ s => s) ?_
  rintro ⟨k, vo, O⟩ ⟨p1, p3, p4⟩
  dsimp only at p1 p3 p4 ⊢
  have hOl : O.length = k := by
    have := congrArg List.length p4
    simp at this
    omega
  by_cases hkl : k < l.length
  · obtain ⟨bs, o, rfl⟩ := hs.ad (by omega) (by omega)
    have hel : ∀ L, Cells h L ⟨bs, o + k * 20, none⟩ (sbc l[k]) := fun L => hs.elem sbc_len k hkl
    have hxv : Sv h l[k] := hsv _ (List.getElem_mem hkl)
    have hlim := fl.2 _ (List.getElem_mem hkl)
    have htk : (l.take (k + 1)).map Sb.a = O.map Sb.a ++ [l[k].a] := by rw [List.take_succ_eq_append_getElem hkl, List.map_append, ← p4]; rfl
    generalize l[k] = e0 at hel hxv hlim htk
    have hxl := sbc_len e0
    have hone := hxv.one
    obtain ⟨_, adm, capm, hmv, _, _⟩ := id hxv.ds
    obtain ⟨_, adb, capb, hbv, _, _⟩ := id hxv.bs
    have hbs := hxv.bs
    rw [hbv] at hbs
    have hds := hxv.ds
    rw [hmv] at hds
    obtain ⟨z, hz⟩ : ∃ z : Sb, z = ⟨e0.d, e0.u, e0.hu, e0.l, .slice adm e0.l.length capm, e0.b, .string (bstr e0.b)⟩ := ⟨_, rfl⟩
    have hfu := fill2 (ad := adm) (m := e0.l.length) (c := capm) e0.hu
    have hfz : fillL (fun i : Nat => ([(0, 2), (2, 17), (19, 1)] : List (Nat × Nat))[i]?) ([.int .i64 0, .int .i64 0] ++ (up zeroU ++ [.slice none 0 0, .string ⟨#[]⟩])) [(0, .agg (dcs e0.d).toArray), (1, .agg (cxc e0.u (.slice adm e0.l.length capm)).toArray), (2, .string (bstr e0.b))] = some (sbc z) := by
      rw [hz]; exact fill3s e0.hu
    have hzv : Rv h z := by rw [hz]; exact ⟨hds, rfl, hxv.by8⟩
    have hza : z.a = e0.a := by rw [hz]; rfl
    have hzo := hzv.one
    have hzl := sbc_len z
    repeat' (first|(refine ycf ?_;apply ybk;(·first|(first|exact tk_|(apply yad;(·rfl);(·exact hel _);(·exact hxl))|(apply yad;(·rfl);(·exact sb_dot (yaz 0 rfl));(·rfl))|(apply yad (vs := up e0.u);(·rfl);(·exact cells_up2 (sb_past (yaz 0 rfl)));(·simp [up, e0.hu]))|(refine qv_str_bs rfl hbs)|(apply yax (cs := cxc e0.u (.slice adm e0.l.length capm));(·rfl);(·exact hfu))|(apply yax (cs := sbc z);(·rfl);(·exact hfz)))|(apply yae;(·rfl);(·(first|exact sb_more (yaz 0 rfl) hmv|exact sb_body0 (yaz 0 rfl) hbv))));(·rfl);(·rfl))|(refine ybg 0 rfl rfl rfl (sbc_sz e0) (sbc_fit rfl) (sbc_one hone.1 hone.2) (ybh (sbc_all rfl)) rfl rfl ?_ ?_ ?_;(·(exact to_));(·(exact to_)))|refine t1_ ?_|(refine ta_ ?_;intro _)|((fail_if_success (refine ybi rfl ?_));refine ybj rfl ?_ ?_<;>(intro ht;rw [ht];first|replace ht := oet_ ht|replace ht := oef_ ht|skip))|(refine ych ?_;first|(refine ybw rfl ?_ ?_<;>intro ht)|(refine ybx rfl ?_ ?_<;>intro ht)))
    refine yba (ybd rfl rfl rfl (ybe rfl (sbc_sz z))) rfl rfl rfl ybf (fun _ => ybf) ?_
    intro b32
    refine rx_append (sz := 20) 2 rfl rfl rfl (yaz 0 rfl) (by show (sbc z).length = 1 * 20; exact sbc_len z) (fun u hu => List.all_eq_true.1 (sbc_one hzo.1 hzo.2) u hu) rfl (by omega) (by unfold maxLen; omega) (by omega) rfl rfl rfl ybf (fun _ => ybf) ?_
    intro v9 _
    repeat' (first|(refine ycf ?_;apply ybk;(·first|(exact tk_));(·rfl);(·rfl))|refine t1_ ?_|(refine ta_ ?_;intro _)|((fail_if_success (refine ybi rfl ?_));refine ybj rfl ?_ ?_<;>(intro ht;rw [ht];first|replace ht := oet_ ht|replace ht := oef_ ht|skip))|(refine ych ?_;first|(refine ybw rfl ?_ ?_<;>intro ht)|(refine ybx rfl ?_ ?_<;>intro ht)))
    refine nx_round (k + 1, v9, O ++ [z]) ⟨by show k + 1 ≤ _; omega, fun o ho => ?_, ?_⟩ (by show l.length - (k + 1) < l.length - k; omega) ts_ (fun _ s => ?_)
    · rcases List.mem_append.1 ho with ho | ho
      · exact p3 o ho
      · rw [List.mem_singleton.1 ho]; exact hzv
    · dsimp only
      rw [htk, List.map_append]
      simp [hza]
    · have s2 := s.tl.tl
      dsimp only
      show St _ _ [Res.row _ _ v9 (O ++ [z]).length ((O ++ [z]).flatMap sbc)] _
      rw [List.length_append, List.flatMap_append, show [z].flatMap sbc = sbc z by simp]
      exact s2
  · have hkk : k = l.length := by omega
    rw [hkk, List.take_length] at p4
    repeat' (first|(refine ycf ?_;apply ybk;(·first|(exact tk_));(·rfl);(·rfl))|refine t1_ ?_|(refine ta_ ?_;intro _)|((fail_if_success (refine ybi rfl ?_));refine ybj rfl ?_ ?_<;>(intro ht;rw [ht];first|replace ht := oet_ ht|replace ht := oef_ ht|skip))|(refine ych ?_;first|(refine ybw rfl ?_ ?_<;>intro ht)|(refine ybx rfl ?_ ?_<;>intro ht)))
    refine nx_ret1 rfl (rv_tmp rfl) (fun w' s' => ?_)
    obtain ⟨h2, hle2, hs2, s2⟩ := s'.rowPersistA (by intro x hx; cases hx)
    exact ⟨(h2, vo, O), rfl, s2.nil, ⟨hs2, fun z hz => (p3 z hz).mono hle2⟩, p4⟩
end Go.Proofs.YtkkjppeaaicgaaaGreatDoor
end

section
namespace Go.Proofs.YtkkjppeaaicgaaaGreatDoor
open Go Go.Ck
set_option maxRecDepth 100000
set_option maxHeartbeats 4000000
set_option linter.unusedVariables false
theorem stame_fits {T l : List Sb} (e : T.map Sb.a = (l.take 20).map fun x => cutA 40 100 x.a) : Fits T := by
  refine ⟨?_, fun x hx => ?_⟩
  · have := congrArg List.length e
    simp at this
    omega
  · have h2 : x.a ∈ (l.take 20).map fun x => cutA 40 100 x.a := by rw [← e]; exact List.mem_map_of_mem hx
    obtain ⟨y, _, e⟩ := List.mem_map.1 h2
    have e1 : x.l = y.l.take 40 := (congrArg (·.2.2.1) e).symm
    have e2 : x.b = y.b.take 100 := (congrArg (·.2.2.2) e).symm
    rw [e1, e2]
    simp
    omega
theorem fits_eq {T I : List Sb} (e : I.map Sb.a = T.map Sb.a) (f : Fits T) : Fits I := by
  refine ⟨?_, fun x hx => ?_⟩
  · have := congrArg List.length e
    simp at this
    rw [this]
    exact f.1
  · have h2 : x.a ∈ T.map Sb.a := by rw [← e]; exact List.mem_map_of_mem hx
    obtain ⟨y, hy, e⟩ := List.mem_map.1 h2
    have e1 : x.l = y.l := (congrArg (·.2.2.1) e).symm
    have e2 : x.b = y.b := (congrArg (·.2.2.2) e).symm
    rw [e1, e2]
    exact f.2 y hy
theorem same_of {va vb : Value} {a b : List Sb} {h : View} (ha : Rs h va a) (hb : Rs h vb b) (fa : Fits a) (fb : Fits b) (w : World) (s : St ⟨w, h, []⟩ h [] w) :
    Calls Tryz.prog 14 [va, vb].toArray w fun e w' => e = .returned (.bool (decide (a.map Sb.a = b.map Sb.a))) ∧ St ⟨w, h, []⟩ h [] w' :=
  rsame_sp va vb a b h ha hb (by have := fa.1; omega) (by have := fb.1; omega) (fun x hx => by have := (fa.2 x hx).1; omega) (fun x hx => by have := (fb.2 x hx).1; omega) w s
end Go.Proofs.YtkkjppeaaicgaaaGreatDoor
end
