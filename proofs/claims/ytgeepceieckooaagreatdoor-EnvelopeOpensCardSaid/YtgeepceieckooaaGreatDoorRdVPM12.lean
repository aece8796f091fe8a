/-
  Part 12 of a proof: CjA CjB VrD RdA RdB ShF RaA RaB.
  Conditions: each theorem states its own.
-/
import Derived.Test.YtgeepceieckooaaGreatDoorRdVPM11
set_option maxRecDepth 100000
set_option linter.unusedVariables false
set_option linter.unusedSimpArgs false
section
namespace Go.Proofs.YtgeepceieckooaaGreatDoor
open Go Go.Ck
set_option maxHeartbeats 4000000
theorem bytes_sub {l m : List Int} (h : Bytes l) (hs : ∀ x ∈ m, x ∈ l) : Bytes m := fun x hx => h x (hs x hx)
theorem one_f {y1 : Flo} {D : List (Flo × Nat)} (h : D.map (·.1) = [y1]) : ∃ b1, D = [(y1, b1)] := by
  obtain ⟨p1, D1, rfl, h1, h2⟩ := List.map_eq_cons_iff.1 h
  obtain rfl := List.map_eq_nil_iff.1 h2
  exact ⟨p1.2, by rw [← h1]⟩
theorem bs_suf {h : View} {ad : Option Addr} {cap : Nat} {l : List Int} (s : Bs8 h (.slice ad l.length cap) l) {j : Nat} (hj : j ≤ l.length) : Bs8 h (.slice (cutF ad cap j 1) (l.length - j) (cap - j)) (l.drop j) := by
  have := sc_drop s (by omega) hj
  unfold Bs8
  rw [List.length_drop]
  rw [Nat.mul_one] at this
  unfold bcs at this ⊢
  rw [List.map_drop]
  exact this
theorem aOpen_sp (va vs : Value) (key nonce a se : List Int) (hk : Bytes key) (hn : Bytes nonce) (hk32 : key.length = 32) (hn12 : nonce.length = 12) (ya : Bytes a) (ys : Bytes se) (la : a.length ≤ 400000) (ls : 16 ≤ se.length ∧ se.length ≤ 400000) (h : View) (ha : Bs8 h va a) (hs : Bs8 h vs se) (w : World) (s : St ⟨w, h, []⟩ h [] w) :
    Calls Tryz.prog 75 [.agg (bcs key).toArray, .agg (bcs nonce).toArray, va, vs].toArray w fun e w' => ∃ x : View × Value, e = .returned (.tuple #[x.2, .int .i64 (match aeadO key nonce a se with | some _ => 0 | none => 6)]) ∧ St ⟨w, h, []⟩ x.1 [] w' ∧ Bs8 x.1 x.2 ((aeadO key nonce a se).getD []) := by
  obtain ⟨_, ada, capa, rfl, hcapa, _⟩ := id ha
  obtain ⟨_, ads, caps, rfl, hcaps, _⟩ := id hs
  have k1 : (bcs key).length = 32 := by rw [bcs_len, hk32]
  have k2 : (bcs nonce).length = 12 := by rw [bcs_len, hn12]
  obtain ⟨n, hn1⟩ : ∃ n, n = se.length - 16 := ⟨_, rfl⟩
  have ht : Bs8 h (.slice ads n caps) (se.take n) := bs_pre hs (by omega)
  have hd : Bs8 h (.slice (cutF ads caps n 1) (se.length - n) (caps - n)) (se.drop n) := bs_suf hs (by omega)
  have yt : Bytes (se.take n) := bytes_sub ys fun x hx => List.mem_of_mem_take hx
  have yd : Bytes (se.drop n) := bytes_sub ys fun x hx => List.mem_of_mem_drop hx
  have lt : (se.take n).length = n := by simp; omega
  have ld : (se.drop n).length = 16 := by simp; omega
  have eO : aeadO key nonce a se = if aeadT key nonce a (se.take n) = se.drop n then some (streamF key 1 nonce (se.take n)) else none := by unfold aeadO; rw [hn1]
  rw [eO]
  have T1 := atag_sp _ _ key nonce a (se.take n) hk hn hk32 hn12 ya yt la (by omega) h ha ht
  have tl := aeadT_len key nonce a (se.take n)
  have ty := aeadT_by key nonce a (se.take n)
  generalize aeadT key nonce a (se.take n) = t at T1 tl ty ⊢
  have hot : (bcs t).length = 16 := by rw [bcs_len, tl]
  refine calls_enter Tryz.func75 rfl Tryz.ntmps75 rfl s ?_
  repeat' (first|refine zw3 ?_|(refine ta_ ?_;intro _)|(refine zk0 ?_ ?_<;>intro ht)|fail)
  rename_i b4 b5
  rw [show ((se.length : Int) - 16) = ((n : Nat) : Int) by omega]
  refine cx_perm (L' := [Res.blk b5 (.cells (bcs nonce).toArray 117 (0, 0)), Res.blk b4 (.cells (bcs key).toArray 33 (0, 0))]) (.refl _) ?_
  refine cx_region_float [0, 1, 2, 3, 4, 5, 6] [(7, 11, fun b => .pointer (some ⟨b, 0, none⟩), .cells (bcs (List.replicate 16 0)).toArray 146 (0, 0))] [8] rfl (by kernel_rfl) ?_
  intro D ys hD
  refine gx_with (List.forall_mem_cons.2 ⟨⟨rfl, rfl, rfl, by kernel_rfl, fun _ _ _ => MA.cast (ybc (T := 146)) rfl⟩, fun y hy => (by cases hy)⟩) (by decide) (fun hok hnd => ?_)
  iterate 6
    refine gx_q rfl ?_
    repeat' (first|refine zw241 ?_|(refine ycf ?_;(first|(refine zg0 ?_ ?_<;>intro ht)|(refine tb_ ?_ ?_ ?_;(·exact zc81);(·exact zc164);intro _)))|fail)
    refine gx_putn ?_
  refine gx_step hok hnd rfl rfl (fun D w s => Hd.sub s (Le.refl h) (fun r hr => List.mem_append_left _ hr)) (fun D ys hD => ?_) _ _ hD
  (refine ycn (ycp Tryz.func92 rfl (by kernel_rfl) rfl) (T1) rfl rfl rfl ?_ ?_;(·exact zc81))
  repeat' (first|refine zw241 ?_|(refine ycf ?_;(first|(refine zg0 ?_ ?_<;>intro ht)|(refine tb_ ?_ ?_ ?_;(·exact zc81);(·exact zc164);intro _)))|fail)
  refine gx_putn ?_
  refine gx_end hok hnd rfl rfl (fun D w s => Hd.sub s (Le.refl h) (fun r hr => List.mem_append_left _ hr)) (fun D hD => ?_) _ _ hD
  obtain ⟨b11, rfl⟩ := one_f hD
  refine rx_to (F' := [(23, .agg (bcs t).toArray), (2, .slice ada a.length capa), (3, .slice ads se.length caps), (4, .pointer (some ⟨b4, 0, none⟩)), (5, .pointer (some ⟨b5, 0, none⟩)), (10, .int .i64 (n : Nat)), (11, .pointer (some ⟨b11, 0, none⟩))]) (L' := [Res.blk b5 (.cells (bcs nonce).toArray 117 (0, 0)), Res.blk b4 (.cells (bcs key).toArray 33 (0, 0)), Res.blk b11 (.cells (bcs (List.replicate 16 0)).toArray 146 (0, 0))]) ts_ rfl ?_
  repeat' (first|refine zw242 ?_|(refine ycf ?_;(first|(refine zg0 ?_ ?_<;>intro ht)|(refine tb_ ?_ ?_ ?_;(·exact zc82);(·intro _;(first|exact ybf|(refine .inl ?_;(first|exact fun _ s => Hd.sub s (Le.refl h) (fun r hr => List.mem_append_left [_] hr)))|exact to_));intro _)))|fail)
  repeat' (first|refine tw_ ?_|(refine ta_ ?_;intro _)|(refine zk0 ?_ ?_<;>intro ht)|fail)
  refine cx_bview 2 rfl rfl fun h1 hle1 hK => ?_
  have hK : h1 b11 = some (.cells (bcs t).toArray 146 (0, 0)) := hK
  have st : Bs8 h1 (.slice (some ⟨b11, 0, none⟩) 16 16) t := by
    unfold Bs8
    rw [tl]
    exact ⟨by rw [hot], some ⟨b11, 0, none⟩, 16, rfl, Nat.le_refl _, .inr ⟨b11, 0, _, _, _, rfl, hK, fun j u hj => by simpa using hj⟩⟩
  have hd1 := hd.mono hle1
  have SM := bSame_sp _ _ t (se.drop n) h1 st hd1 ty yd (by omega) (by omega)
  refine cx_region_draw [] rfl (by kernel_rfl) ?_
  repeat' (first|refine zw243 ?_|(refine ycf ?_;(first|(refine zg0 ?_ ?_<;>intro ht)|(refine tb_ ?_ ?_ ?_;(·exact zc76);(·exact zc161);intro _)))|fail)
  (refine ycn (ycp Tryz.func97 rfl (by kernel_rfl) rfl) (SM) rfl rfl rfl ?_ ?_;(·exact zc76))
  repeat' (first|refine zw243 ?_|(refine ycf ?_;(first|(refine zg0 ?_ ?_<;>intro ht)|(refine tb_ ?_ ?_ ?_;(·exact zc76);(·exact zc161);intro _)))|fail)
  by_cases hte : t = se.drop n
  · rw [decide_eq_true hte, if_pos hte]
    repeat' (first|refine tw_ ?_|(refine ta_ ?_;intro _)|(refine zk0 ?_ ?_<;>intro ht)|fail)
    have S1 := Stream_sp key 1 nonce _ (se.take n) hk hn hk32 hn12 (by omega) yt h1 (ht.mono hle1)
    refine cx_region_draw [Res.blk b5 (.cells (bcs nonce).toArray 117 (0, 0)), Res.blk b4 (.cells (bcs key).toArray 33 (0, 0))] rfl (by kernel_rfl) ?_
    repeat' (first|refine zw244 ?_|(refine ycf ?_;(first|(refine zg0 ?_ ?_<;>intro ht)|(refine tb_ ?_ ?_ ?_;(·exact zc84);(·intro _;(first|exact ybf|(refine .inl ?_;(first|exact fun _ s => s|exact fun _ s => s.tl|exact fun _ s => Hd.sub s hle (fun r hr => List.mem_cons_of_mem _ hr)))|exact to_));intro _)))|fail)
    (refine yco (ycp Tryz.func89 rfl (by kernel_rfl) rfl) (S1) rfl rfl rfl ?_ ?_ ?_;(·exact zc84);(·intro _ _ hle;(first|exact ybf|(refine .inl ?_;(first|exact fun _ s => s|exact fun _ s => s.tl|exact fun _ s => Hd.sub s hle (fun r hr => List.mem_cons_of_mem _ hr)))|exact to_));intro x px hle)
    refine rx_persist rfl fun h3 hle3 hv3 => ?_
    have hv3 : Bs8 h3 x (streamF key 1 nonce (se.take n)) := hv3
    repeat' (first|refine zw245 ?_|(refine ycf ?_;(first|(refine zg0 ?_ ?_<;>intro ht)|(refine tb_ ?_ ?_ ?_;(·exact zc85);(·intro _;(first|exact ybf|(refine .inl ?_;(first|exact fun _ s => Hd.sub s hle3 (fun r hr => hr)))|exact to_));intro _)))|fail)
    repeat' (first|refine tw_ ?_|(refine ta_ ?_;intro _)|(refine zk0 ?_ ?_<;>intro ht)|fail)
    exact nx_ret2 rfl (rv_tmp rfl) (rv_tmp rfl) (fun w' s' => ⟨(h3, x), rfl, s'.nil, hv3⟩)
  · rw [decide_eq_false hte, if_neg hte]
    repeat' (first|refine tw_ ?_|(refine ta_ ?_;intro _)|(refine zk0 ?_ ?_<;>intro ht)|fail)
    exact nx_ret2 rfl (rv_tmp rfl) (rv_tmp rfl) (fun w' s' => ⟨(h1, .slice none 0 0), rfl, s'.nil, Sc.nil h1 1 none 0⟩)
end Go.Proofs.YtgeepceieckooaaGreatDoor
end

section
namespace Go.Proofs.YtgeepceieckooaaGreatDoor
open Go Go.Ck
set_option maxHeartbeats 4000000
theorem VOpenR_sp (bv : Nat) (key : List Int) (bn bu bt : Nat) (ep c n : Int) (vw vs : Value) (wi se : List Int) (hk : Bytes key) (hk32 : key.length = 32) (hok : sealOk ep c n) (hsl : 16 ≤ se.length ∧ se.length ≤ 8192) (hwl : wi.length ≤ 400000) (yw : Bytes wi) (ys : Bytes se)
    (h : View) (hv : Vb h bv false key bn bu bt) (hw : Bs8 h vw wi) (hb : Bs8 h vs se) (hg : ShG h) (w : World) (s : St ⟨w, h, []⟩ h [] w) :
    Calls Tryz.prog 37 [.pointer (some ⟨bv, 0, none⟩), .int .i64 ep, .int .i64 c, .int .i64 n, vw, vs].toArray w fun e w' => ∃ x : View × Value, e = .returned (.tuple #[x.2, .int .i64 (match aeadO (sealK key ep) (nonceF c n) wi se with | some _ => 0 | none => 6)]) ∧
      St ⟨w, h, []⟩ x.1 [] w' ∧ Bs8 x.1 x.2 ((aeadO (sealK key ep) (nonceF c n) wi se).getD []) := by
  obtain ⟨_, adw, capw, rfl, hcapw, _⟩ := id hw
  obtain ⟨_, ads, caps, rfl, hcaps, _⟩ := id hb
  have R1 := vright_sp ep c n h
  rw [if_pos hok] at R1
  have K1 := vkeys_sp bv false key bn bu bt ep c n hk hk32 hok h hv hg
  have kl := sealK_len key ep
  have kb := sealK_by key ep
  have nl := nonceF_len c n
  have nb := nonceF_by c n
  generalize sealK key ep = kk at K1 kl kb ⊢
  generalize nonceF c n = nn at K1 nl nb ⊢
  have S1 := aOpen_sp _ _ kk nn wi se kb nb kl nl yw ys hwl (by omega) h hw hb
  have hok1 : (bcs kk).length = 32 := by rw [bcs_len, kl]
  have hon : (bcs nn).length = 12 := by rw [bcs_len, nl]
  refine calls_enter Tryz.func37 rfl Tryz.ntmps37 rfl s ?_
  repeat' (first|refine zw154 ?_|(refine ta_ ?_;intro _)|(refine zk0 ?_ ?_<;>intro ht)|fail)
  (refine ycn (ycp Tryz.func61 rfl (by kernel_rfl) rfl) (R1) rfl rfl rfl ?_ ?_; (· (exact to_)))
  repeat' (first|refine zw154 ?_|(refine ta_ ?_;intro _)|(refine zk0 ?_ ?_<;>intro ht)|fail)
  (refine ycn (ycp Tryz.func62 rfl (by kernel_rfl) rfl) (K1) rfl rfl rfl ?_ ?_; (· (exact to_)))
  repeat' (first|refine zw220 ?_|(refine ta_ ?_;intro _)|(refine zk0 ?_ ?_<;>intro ht)|fail)
  (refine yco (ycp Tryz.func75 rfl (by kernel_rfl) rfl) (S1) rfl rfl rfl ?_ ?_ ?_; (· (exact to_)); (·exact zc153); intro x px hle)
  obtain ⟨h2, v2⟩ := x
  dsimp only at px hle ⊢
  repeat' (first|refine zw189 ?_|(refine ta_ ?_;intro _)|(refine zk0 ?_ ?_<;>intro ht)|fail)
  exact nx_ret2 rfl (rv_tmp rfl) (rv_tmp rfl) (fun w' s' => ⟨(h2, v2), rfl, s'.nil, px⟩)
theorem openC_false : OpenC false := fun bv key bn bu bt N T nm ek se vn pv sv q hk hk32 he32 hN hNl hTl hnm hnl hok hsl h hT hv hsn hsp hss ye yp ys hg w s => by
  obtain ⟨_, adn, capn, rfl, hcapn, _⟩ := id hsn
  obtain ⟨_, adp, capp, rfl, hcapp, _⟩ := id hsp
  obtain ⟨_, ads, caps, rfl, hcaps, _⟩ := id hss
  have HR := eright_sp ek q _ _ se he32 h hsp hss
  have HN := name_sp _ nm h hsn
  have e1 : decide (q.ok ∧ 16 ≤ se.length ∧ se.length ≤ 8192) = true := by simpa using ⟨hok, hsl⟩
  have e2 : decide (1 ≤ nm.length ∧ nm.length ≤ 64) = true := by simpa using hnl
  have hbk : (blindR key nm).length = 32 := blindR_len key nm
  rw [e1] at HR
  rw [e2] at HN
  refine calls_enter Tryz.func12 rfl Tryz.ntmps12 rfl s ?_
  repeat' (first|refine zw224 ?_|(refine ta_ ?_;intro _)|(refine zk0 ?_ ?_<;>intro ht)|fail)
  (refine ycn (ycp Tryz.func22 rfl (by kernel_rfl) rfl) (HN) rfl rfl rfl ?_ ?_; (· (exact to_)))
  repeat' (first|refine zw224 ?_|(refine ta_ ?_;intro _)|(refine zk0 ?_ ?_<;>intro ht)|fail)
  (refine ycn (ycp Tryz.func36 rfl (by kernel_rfl) rfl) (HR) rfl rfl rfl ?_ ?_; (· (exact to_)))
  repeat' (first|refine zw224 ?_|(refine ta_ ?_;intro _)|(refine zk0 ?_ ?_<;>intro ht)|fail)
  (refine ycn (ycp Tryz.func25 rfl (by kernel_rfl) rfl) (BlindR_sp bv key bn bu bt _ nm hk hk32 hnm hnl h hv hsn (hg rfl)) rfl rfl rfl ?_ ?_; (· (exact to_)))
  generalize hbkk : blindR key nm = bk at hbk ⊢
  have hol : (bcs bk).length = 32 := by rw [bcs_len, hbk]
  by_cases hbe : bk = ek
  · have hd : (!decide (bk = ek)) = false := by simpa using hbe
    have hop : openX false key N T nm ek q se = (match aeadO (sealK key q.ep) (nonceF q.cl q.ct) (boundF ek q) se with | some p => valF p | none => ([], false, 6)) := by show openR key nm ek q se = _;unfold openR;rw [hbkk, if_pos hbe];cases aeadO (sealK key q.ep) (nonceF q.cl q.ct) (boundF ek q) se<;>rfl
    rw [hop]
    have hneq : ∀ {n : Nat} {F : List (Nat × Value)} {h : View} {L : List Res} {dst : Option Nat} {ty T' : Nat} {pos : String} {af : Array Edge} {gd : Option (Nat × Bool)} {x y : Operand}, ev F x = some (.agg (bcs bk).toArray) → ev F y = some (.agg (bcs ek).toArray) → QV Tryz.prog n F h L ⟨dst, .binOp .neq 39 x y T', ty, pos, af, gd⟩ (.bool false) := fun hx hy => by rw [← hd]; exact arr_neq hx hy hbk he32
    repeat' (first|refine zw246 ?_|(refine ta_ ?_;intro _)|(refine zk0 ?_ ?_<;>intro ht)|fail)
    have hbl := boundF_len (q := q) he32
    (refine yco (ycp Tryz.func27 rfl (by kernel_rfl) rfl) (bound_sp ek q _ _ he32 hok rfl h hsp) rfl rfl rfl ?_ ?_ ?_; (· (exact to_)); (·exact zc153); intro x px hle)
    obtain ⟨bo, vo⟩ := x
    clear px hle
    repeat' (first|refine zw3 ?_|(refine ta_ ?_;intro _)|(refine zk0 ?_ ?_<;>intro ht)|fail)
    (refine rx_call_2 (ycp Tryz.func28 rfl (by kernel_rfl) rfl) (Done_sp bo vo (boundF ek q) (by rw [hbl]; have := hok.2.2.2.2; omega) h) rfl rfl rfl ?_ ?_ ?_; (· (exact to_)); (·exact zc153); intro x px hle)
    refine rx_persistA (by intro z hz; simp only [doms, List.flatMap_cons, List.flatMap_nil, List.mem_append, Res.mp, List.mem_singleton] at hz ⊢; simp; rcases hz with hz | hz; (· simp_all); (· simp_all)) fun h2 hle2 hvw => ?_
    have hvw : Bs8 h2 x (boundF ek q) := hvw
    obtain ⟨_, adw, capw, rfl, hcapw, _⟩ := id hvw
    have hv2 := hv.mono hle2
    have hT2 := hT.mono hle2
    have hss2 := hss.mono hle2
    repeat' (first|refine zw247 ?_|(refine ta_ ?_;intro _)|(refine zk0 ?_ ?_<;>intro ht)|fail)
    have V1 := VOpenR_sp bv key bn bu bt q.ep q.cl q.ct _ _ (boundF ek q) se hk hk32 hok.sealk hsl (by rw [hbl]; have := hok.2.2.2.2; omega) (boundF_by ye yp) ys h2 hv2 hvw hss2 ((hg rfl).mono hle2)
    have yo : ∀ p, aeadO (sealK key q.ep) (nonceF q.cl q.ct) (boundF ek q) se = some p → Bytes p ∧ p.length ≤ 900000 := fun p hp => by
      unfold aeadO at hp
      split at hp
      · cases hp
        exact ⟨strmF_by _ _ _ _ _, by rw [streamF_len]; simp; omega⟩
      · cases hp
    generalize aeadO (sealK key q.ep) (nonceF q.cl q.ct) (boundF ek q) se = O at V1 yo ⊢
    (refine yco (ycp Tryz.func37 rfl (by kernel_rfl) rfl) (V1) rfl rfl rfl ?_ ?_ ?_; (· (exact to_)); (·exact zc153); intro x px hle)
    obtain ⟨h3, vo2⟩ := x
    dsimp only at px hle ⊢
    cases O with
    | none =>
      repeat' (first|refine zw3 ?_|(refine ta_ ?_;intro _)|(refine zk0 ?_ ?_<;>intro ht)|fail)
      refine nx_ret3 rfl (rv_tmp rfl) (rv_tmp rfl) (rv_tmp rfl) (fun w' s' => ⟨(h3, .slice none 0 0), rfl, ?_, Sc.nil _ _ _ _⟩)
      exact s'.picks [4, 4]
    | some r =>
      obtain ⟨yr, lr⟩ := yo r rfl
      have hvo : Bs8 h3 vo2 r := px
      obtain ⟨_, ado, capo, rfl, hcapo, _⟩ := id hvo
      repeat' (first|refine zw3 ?_|(refine ta_ ?_;intro _)|(refine zk0 ?_ ?_<;>intro ht)|fail)
      (refine yco (ycp Tryz.func38 rfl (by kernel_rfl) rfl) (value_sp _ r yr lr h3 hvo) rfl rfl rfl ?_ ?_ ?_; (· (exact to_)); (·exact zc153); intro x px hle)
      obtain ⟨h4, vr⟩ := x
      dsimp only at px ⊢
      repeat' (first|refine zw3 ?_|(refine ta_ ?_;intro _)|(refine zk0 ?_ ?_<;>intro ht)|fail)
      refine nx_ret3 rfl (rv_tmp rfl) (rv_tmp rfl) (rv_tmp rfl) (fun w' s' => ⟨(h4, vr), rfl, ?_, px⟩)
      exact s'.picks [4, 4]
  · have hd : (!decide (bk = ek)) = true := by simpa using hbe
    have hop : openX false key N T nm ek q se = ([], false, 6) := by show openR key nm ek q se = _; unfold openR; rw [hbkk, if_neg hbe]
    rw [hop]
    have hneq : ∀ {n : Nat} {F : List (Nat × Value)} {h : View} {L : List Res} {dst : Option Nat} {ty T' : Nat} {pos : String} {af : Array Edge} {gd : Option (Nat × Bool)} {x y : Operand}, ev F x = some (.agg (bcs bk).toArray) → ev F y = some (.agg (bcs ek).toArray) → QV Tryz.prog n F h L ⟨dst, .binOp .neq 39 x y T', ty, pos, af, gd⟩ (.bool true) := fun hx hy => by rw [← hd]; exact arr_neq hx hy hbk he32
    repeat' (first|refine zw248 ?_|(refine ta_ ?_;intro _)|(refine zk0 ?_ ?_<;>intro ht)|fail)
    refine nx_ret3 rfl (rv_tmp rfl) (rv_tmp rfl) (rv_tmp rfl) (fun w' s' => ⟨(h, .slice none 0 0), rfl, ?_, Sc.nil _ _ _ _⟩)
    exact s'.picks [2, 2]
end Go.Proofs.YtgeepceieckooaaGreatDoor
end

section
namespace Go.Proofs.YtgeepceieckooaaGreatDoor
open Go Go.Ck
set_option maxHeartbeats 4000000
theorem names_nil : Names [] := fun x hx => by cases hx
theorem addX_names {idl : Bool} {N : List (List Int)} (hN : Names N) {x : List Int} (hx : Bytes x) : Names (addX idl N x) := by
  cases idl
  · exact hN
  · exact addN_names hN hx
theorem addX_len (idl : Bool) (N : List (List Int)) (x : List Int) : (addX idl N x).length ≤ N.length + 1 := by
  cases idl
  · show N.length ≤ _; omega
  · show (addN N x).length ≤ _
    unfold addN
    split
    · omega
    · simp
theorem bytes_nil : Bytes [] := fun x hx => by cases hx
theorem held_nil : Held [] [] := fun x hx => by cases hx
structure AskD where
  nm : List Int
  ep : Int
  ct : Int
  cl : Int
  nu : Int
  past : List Int
  val : List Int
  del : Bool
def askc (a : AskD) (vn vp vv : Value) : List Value := [vn, .int .i64 a.ep, .int .i64 a.ct, .int .i64 a.cl, .int .i64 a.nu, vp, vv, .bool a.del]
def AskD.by' (a : AskD) : Prop := Bytes a.nm ∧ Bytes a.past ∧ Bytes a.val ∧ a.nm.length ≤ 9223372036854775807 ∧ a.past.length ≤ 9223372036854775807 ∧ a.val.length ≤ 9223372036854775807
end Go.Proofs.YtgeepceieckooaaGreatDoor
end

section
namespace Go.Proofs.YtgeepceieckooaaGreatDoor
open Go Go.Ck
set_option maxHeartbeats 1000000
structure Sd where
  ep : Int
  cl : Int
  ct : Int
  wi : List Int
  b : List Int
  out : List Int
def Sd.by' (x : Sd) : Prop := Bytes x.wi ∧ Bytes x.b ∧ Bytes x.out
def usD (D : List Sd) : List UseK := D.map fun x => (x.cl, x.ct)
def seaD (x : Sd) : SeaK := (x.cl, x.ct, x.ep, bstr x.wi, bstr x.out)
def TabOf (idl : Bool) (T : Tab) (D : List Sd) : Prop := T.map (fun x => (x.1, x.2.2)) = if idl then D.map (fun x => (seaD x, x.b)) else []
theorem tabOf_nil (idl : Bool) : TabOf idl [] [] := by cases idl <;> rfl
theorem tabOf_add {idl : Bool} {T : Tab} {D : List Sd} (hT : TabOf idl T D) (x : Sd) (v : Value) : TabOf idl (tabX idl T (seaD x, v, x.b)) (D ++ [x]) := by
  unfold TabOf tabX at *
  cases idl
  · simpa using hT
  · simp only [if_true, List.map_append] at hT ⊢
    rw [hT]
    rfl
def dopen (D : List Sd) (ep cl ct : Int) (wi se : List Int) : Option (List Int) :=
  match D with
  | [] => none
  | x :: r => if x.ep = ep ∧ x.cl = cl ∧ x.ct = ct ∧ x.wi = wi ∧ x.out = se then some x.b else dopen r ep cl ct wi se
theorem seaD_eq {x : Sd} (hx : x.by') {ep cl ct : Int} {wi se : List Int} (yw : Bytes wi) (ys : Bytes se) : (cl, ct, ep, bstr wi, bstr se) = seaD x ↔ x.ep = ep ∧ x.cl = cl ∧ x.ct = ct ∧ x.wi = wi ∧ x.out = se := by
  unfold seaD
  simp only [Prod.mk.injEq]
  constructor
  · rintro ⟨a, b, c, d, e⟩
    exact ⟨c.symm, a.symm, b.symm, (bstr_inj yw hx.1 d).symm, (bstr_inj ys hx.2.2 e).symm⟩
  · rintro ⟨rfl, rfl, rfl, rfl, rfl⟩
    exact ⟨rfl, rfl, rfl, rfl, rfl⟩
theorem mget_map {κ ν μ : Type} [DecidableEq κ] (f : ν → μ) (a : κ) : ∀ l : List (κ × ν), mget (l.map fun x => (x.1, f x.2)) a = (mget l a).map f
  | [] => rfl
  | x :: l => by
    simp only [List.map_cons, mget]
    split
    · rfl
    · exact mget_map f a l
theorem mget_D {D : List Sd} (hD : ∀ x ∈ D, x.by') {ep cl ct : Int} {wi se : List Int} (yw : Bytes wi) (ys : Bytes se) : mget (D.map fun x => (seaD x, x.b)) (cl, ct, ep, bstr wi, bstr se) = dopen D ep cl ct wi se := by
  induction D with
  | nil => rfl
  | cons x D ih =>
    simp only [List.map_cons, mget, dopen]
    have h1 := seaD_eq (hD x (List.mem_cons_self ..)) (ep := ep) (cl := cl) (ct := ct) yw ys
    by_cases hc : x.ep = ep ∧ x.cl = cl ∧ x.ct = ct ∧ x.wi = wi ∧ x.out = se
    · rw [if_pos hc, if_pos (h1.2 hc)]
    · rw [if_neg hc, if_neg (fun e => hc (h1.1 e))]
      exact ih fun y hy => hD y (List.mem_cons_of_mem _ hy)
theorem tabOf_get {T : Tab} {D : List Sd} (hT : TabOf true T D) (hD : ∀ x ∈ D, x.by') {ep cl ct : Int} {wi se : List Int} (yw : Bytes wi) (ys : Bytes se) : (mget T (cl, ct, ep, bstr wi, bstr se)).map (·.2) = dopen D ep cl ct wi se := by
  rw [← mget_D hD yw ys]
  unfold TabOf at hT
  rw [if_pos rfl] at hT
  rw [← hT, mget_map (fun x : Value × List Int => x.2)]
def openD (idl : Bool) (key : List Int) (N : List (List Int)) (D : List Sd) (nm ek : List Int) (q : Hdr) (se : List Int) : List Int × Bool × Int :=
  if nameX idl key N nm = ek then match (if idl then dopen D q.ep q.cl q.ct (boundF ek q) se else aeadO (sealK key q.ep) (nonceF q.cl q.ct) (boundF ek q) se) with
    | some p => valF p
    | none => ([], false, 6)
  else ([], false, 6)
theorem openX_D {idl : Bool} {T : Tab} {D : List Sd} (hT : TabOf idl T D) (hD : ∀ x ∈ D, x.by') (key : List Int) (N : List (List Int)) (nm ek : List Int) (q : Hdr) (se : List Int) (ye : Bytes ek) (yp : Bytes q.past) (ys : Bytes se) :
    openX idl key N T nm ek q se = openD idl key N D nm ek q se := by
  unfold openX openD nameX
  cases idl
  · rfl
  · simp only [if_true]
    have h1 := tabOf_get hT hD (ep := q.ep) (cl := q.cl) (ct := q.ct) (boundF_by ye yp) ys
    unfold openF
    rw [← h1]
    split
    · cases mget T (q.cl, q.ct, q.ep, bstr (boundF ek q), bstr se) <;> rfl
    · rfl
end Go.Proofs.YtgeepceieckooaaGreatDoor
end

section
namespace Go.Proofs.YtgeepceieckooaaGreatDoor
open Go Go.Ck
set_option maxHeartbeats 1000000
theorem byC_bad {s : RS} {most : Int} (h : (byC s most).2.2 ≠ 0) : (byC s most).1 = [] := by
  unfold byC at h ⊢
  split
  · rfl
  · split
    · rfl
    · split
      · rfl
      · rename_i h1 h2 h3
        rw [if_neg h1, if_neg h2, if_neg h3] at h
        exact absurd rfl h
theorem padW_nil : padW [] = List.replicate 64 0 := by rfl
theorem byC_zero : (byC (List.replicate 64 0, 0) 4000).2.2 = 0 := by rfl
theorem cutOk_iff (l : List Int) : ((byC (l, 0) 4000).2.2 = 0 ∧ padW (cutV l) = l) ↔ cutOk l = true := by
  unfold cutOk
  rw [decide_eq_true_eq]
  constructor
  · exact fun h => h.2
  · intro h
    refine ⟨?_, h⟩
    by_cases h0 : (byC (l, 0) 4000).2.2 = 0
    · exact h0
    · exfalso
      have h1 : cutV l = [] := byC_bad h0
      rw [h1, padW_nil] at h
      rw [← h] at h0
      exact h0 byC_zero
theorem valF_doc (p : List Int) (yb : Bytes p) (hl : p.length ≤ 900000) : valF p = if cutOk p = true ∧ (cutV p).length ≠ 0 ∧ (cutV p).getD 0 0 ≤ 1 ∧ ¬ ((cutV p).getD 0 0 = 0 ∧ (cutV p).length > 1) then ((cutV p).drop 1, decide ((cutV p).getD 0 0 = 0), 0) else ([], false, 2) := by
  have hb : Bytes (cutV p) := (RsOk.by (s := (p, 0)) (most := 4000) ⟨yb, by show p.length ≤ 140737488355328; omega⟩ (by omega)).2.1
  unfold valF
  cases hc : cutOk p
  · simp
  · simp only [if_true, true_and]
    generalize cutV p = l at hb
    unfold vlF
    match l, hb with
    | [], _ => rfl
    | [x], hb =>
      have := hb x (List.mem_cons_self ..)
      simp only [List.getD_cons_zero, List.length_cons, List.length_nil, List.drop_succ_cons, List.drop_zero]
      by_cases h0 : x = 0
      · subst h0; rfl
      · by_cases h1 : x = 1
        · subst h1; rfl
        · rw [if_neg (by omega), if_neg (by omega), if_neg (by omega)]
    | x :: y :: l, hb =>
      have := hb x (List.mem_cons_self ..)
      simp only [List.getD_cons_zero, List.length_cons, List.drop_succ_cons, List.drop_zero]
      by_cases h1 : x = 1
      · subst h1
        rw [if_neg (by omega), if_pos (by omega), if_pos (by omega)]
        rfl
      · rw [if_neg (by omega), if_neg (by omega), if_neg (by omega)]
end Go.Proofs.YtgeepceieckooaaGreatDoor
end

section
namespace Go.Proofs.YtgeepceieckooaaGreatDoor
open Go Go.Ck
set_option maxHeartbeats 40000000
theorem bstr_bcs {l : List Int} (hb : Bytes l) : ((bstr l).data.map fun b => Value.int .u8 b.toNat).toList = bcs l := by
  unfold bstr bcs
  simp only [Array.toList_map, List.map_map]
  refine List.map_congr_left fun x hx => ?_
  have := hb x hx
  show Value.int .u8 ((UInt8.ofNat x.toNat).toNat : Int) = _
  congr 1
  simp
  omega
abbrev srB (v : Value) (l : List Int) : Res := Res.srow 5 v l.length (bcs l)
theorem constants_sp (h : View) (w : World) (s : St ⟨w, h, []⟩ h [] w) :
    Calls Tryz.prog 126 [].toArray w fun e w' => e = .returned (.tuple #[.agg (up32 shK).toArray, .agg (up32 shH).toArray]) ∧ St ⟨w, h, []⟩ h [] w' := by
  refine calls_enter Tryz.func126 rfl Tryz.ntmps126 rfl s ?_
  repeat' (first|refine tw_ ?_|(refine ta_ ?_;intro _)|(refine zk0 ?_ ?_<;>intro ht)|fail)
  rename_i b0 b1
  refine ycf ?_
  apply ybk
  · apply qv_build_arr (cs := up32 shK)
    · rfl
    · kernel_rfl
  · rfl
  · rfl
  have hK : shK.length = 64 := rfl
  have hH : shH.length = 8 := rfl
  generalize shK = K at hK ⊢
  repeat' (first|refine zw249 ?_|(refine ta_ ?_;intro _)|(refine zk0 ?_ ?_<;>intro ht)|fail)
  rename_i bK bH
  refine cx_region_draw [Res.blk bH (.cells (up32 shH).toArray 164 (0, 0)), Res.blk bK (.cells (up32 K).toArray 179 (0, 0))] rfl (by kernel_rfl) ?_
  repeat' (first|refine zw250 ?_|(refine ycf ?_;(first|(refine zg0 ?_ ?_<;>intro ht)|(refine tb_ ?_ ?_ ?_;(·exact zc72);(·exact zc160);intro _)))|fail)
  repeat' (first|refine zw251 ?_|(refine ta_ ?_;intro _)|(refine zk0 ?_ ?_<;>intro ht)|fail)
  exact nx_ret2 rfl (rv_cells rfl (yaz 3 rfl) (w_sz hK)) (rv_cells rfl (yaz 2 rfl) (w_sz hH)) (fun w' s' => ⟨rfl, s'.nil⟩)
theorem rSum_sp (b : List Int) (hb : Bytes b) (hl : b.length ≤ 900000) (h : View) (w : World) (s : St ⟨w, h, []⟩ h [] w) :
    Calls Tryz.prog 108 [.string (bstr b)].toArray w fun e w' => e = .returned (.string (bstr (shaF b))) ∧ St ⟨w, h, []⟩ h [] w' := by
  refine calls_enter Tryz.func108 rfl Tryz.ntmps108 rfl s ?_
  repeat' (first|refine zw251 ?_|(refine ta_ ?_;intro _)|(refine zk0 ?_ ?_<;>intro ht)|fail)
  (refine ycn (ycp Tryz.func126 rfl (by kernel_rfl) rfl) (constants_sp h) rfl rfl rfl ?_ ?_; (· (exact to_)))
  have hK : shK.length = 64 := rfl
  have hH : shH.length = 8 := rfl
  obtain ⟨K, eK⟩ : ∃ K, K = shK := ⟨_, rfl⟩
  rw [← eK] at hK ⊢
  repeat' (first|refine zw252 ?_|(refine ta_ ?_;intro _)|(refine zk0 ?_ ?_<;>intro ht)|fail)
  rename_i bK bH
  refine rx_bytes_s rfl (bstr_bcs hb) (by rw [bstr_size]; unfold maxLen; omega) rfl rfl rfl ybf (fun _ => ybf) ?_
  intro v0
  rw [bcs_len]
  repeat' (first|refine zw252 ?_|(refine ta_ ?_;intro _)|(refine zk0 ?_ ?_<;>intro ht)|fail)
  refine rx_append_b 1 rfl rfl rfl (src_cells (yaz 0 rfl) rfl) (.inl rfl) (bcs_one [128]) rfl (by unfold maxLen; omega) (by omega) rfl rfl rfl ybf (fun _ => ybf) ?_
  intro v1
  repeat' (first|refine zw252 ?_|(refine ta_ ?_;intro _)|(refine zk0 ?_ ?_<;>intro ht)|fail)
  refine cx_loop (X := Nat × Value) (fun y => [(0, .string (bstr b)), (3, .pointer (some ⟨bK, 0, none⟩)), (4, .pointer (some ⟨bH, 0, none⟩)), (5, y.2)]) (fun _ => h) (fun y => [srB y.2 (b ++ [128] ++ List.replicate y.1 0), Res.blk bH (.cells (up32 shH).toArray 164 (0, 0)), Res.blk bK (.cells (up32 K).toArray 179 (0, 0))])
    (fun y => y.1 ≤ padZ b.length) (fun y => padZ b.length - y.1) (0, v1) (Nat.zero_le _) ts_ (fun _ s => ?_) ?_
  · dsimp only
    rw [List.replicate_zero, List.append_nil]
    unfold srB
    rw [List.length_append, bcs_app]
    exact s.tl
  rintro ⟨k, v⟩ hk
  replace hk : k ≤ padZ b.length := hk
  dsimp only
  have hpz : padZ b.length < 64 := by unfold padZ; omega
  have hpm : (b.length + 1 + padZ b.length) % 64 = 56 := by unfold padZ; omega
  have hln : (b ++ [128] ++ List.replicate k (0 : Int)).length = b.length + 1 + k := by simp; omega
  by_cases hkz : k < padZ b.length
  · have hrem : (((b ++ [128] ++ List.replicate k (0 : Int)).length : Nat) : Int).tmod 64 = (((b.length + 1 + k) % 64 : Nat) : Int) := by rw [hln]; rfl
    have hne : (b.length + 1 + k) % 64 ≠ 56 := by unfold padZ at hkz; omega
    refine cx_srowsl 0 rfl ?_
    rintro ad1 cap1 rfl
    repeat' (first|refine zw253 ?_|(refine ta_ ?_;intro _)|(refine zk0 ?_ ?_<;>intro ht)|fail)
    refine rx_append_b 1 rfl rfl rfl (src_cells (yaz 0 rfl) rfl) (.inl rfl) (bcs_one [0]) rfl (by unfold maxLen; omega) (by omega) rfl rfl rfl ybf (fun _ => ybf) ?_
    intro v2
    repeat' (first|refine zw254 ?_|(refine ta_ ?_;intro _)|(refine zk0 ?_ ?_<;>intro ht)|fail)
    refine nx_round (k + 1, v2) (by show k + 1 ≤ _; omega) (by show padZ b.length - (k + 1) < padZ b.length - k; omega) ts_ (fun _ s => ?_)
    dsimp only
    rw [List.replicate_succ', ← List.append_assoc]
    unfold srB
    rw [List.length_append, bcs_app]
    exact s.tl
  · have ek : k = padZ b.length := by omega
    subst ek
    have hrem : (((b ++ [128] ++ List.replicate (padZ b.length) (0 : Int)).length : Nat) : Int).tmod 64 = 56 := by
      rw [hln, show (((b.length + 1 + padZ b.length : Nat) : Int)).tmod 64 = (((b.length + 1 + padZ b.length) % 64 : Nat) : Int) from rfl, hpm]
      rfl
    have hw1 : IntKind.u64.wrap (b.length : Int) = (b.length : Int) := wrap_u64 (by omega) (by omega)
    have hw2 : IntKind.u64.wrap ((b.length : Int) * 8) = 8 * (b.length : Int) := by
      rw [Int.mul_comm]
      exact wrap_u64 (by omega) (by omega)
    have hp8 := num8_len (8 * (b.length : Int))
    refine cx_srowsl 0 rfl ?_
    rintro ad1 cap1 rfl
    repeat' (first|refine zw255 ?_|(refine ta_ ?_;intro _)|(refine zk0 ?_ ?_<;>intro ht)|fail)
    (refine ycn (ycp Tryz.func85 rfl (by kernel_rfl) rfl) (Put_sp (8 * (b.length : Int)) 8 ⟨by omega, by omega⟩ (by omega) h) rfl rfl rfl ?_ ?_; (· (exact to_)))
    refine rx_append_b (news := bcs (num8 (8 * (b.length : Int)))) 0 rfl rfl rfl (src_str (m := 8) (by rw [bstr_size]; exact hp8) (bstr_bcs (putLow_bytes' 8 _))) (.inr rfl) (bcs_one _) rfl (by unfold maxLen; omega) (by omega) rfl rfl rfl ybf (fun _ => ybf) ?_
    intro v3
    refine rx_persist_s rfl fun h1 hle1 hsp => ?_
    have hpl2 := padF_len b
    have hP : Bs8 h1 v3 (padF b) := by
      unfold Bs8
      have e : (padF b).length = (b ++ [128] ++ List.replicate (padZ b.length) (0 : Int)).length + 8 := by rw [hpl2.2, hln]
      rw [e, show bcs (padF b) = bcs (b ++ [128] ++ List.replicate (padZ b.length) (0 : Int)) ++ bcs (num8 (8 * (b.length : Int))) by unfold padF; rw [bcs_app]]
      exact hsp
    have hpb : Bytes (padF b) := padF_bytes hb
    have e0 : blocksF (padF b) 0 = shH := rfl
    generalize hpF : padF b = p at hP hpl2 hpb e0 ⊢
    obtain ⟨_, adp, capp, rfl, hcapp, _⟩ := id hP
    repeat' (first|refine zw254 ?_|(refine ta_ ?_;intro _)|(refine zk0 ?_ ?_<;>intro ht)|fail)
    refine cx_loop (X := Nat) (fun y => [(3, .pointer (some ⟨bK, 0, none⟩)), (4, .pointer (some ⟨bH, 0, none⟩)), (5, .slice adp p.length capp), (6, .int .i64 (64 * y : Nat))]) (fun _ => h1)
      (fun y => [Res.blk bH (.cells (up32 (blocksF p y)).toArray 164 (0, 0)), Res.blk bK (.cells (up32 K).toArray 179 (0, 0))])
      (fun y => 64 * y ≤ p.length) (fun y => p.length - 64 * y) 0 (by omega) ts_ (fun _ s => ?_) ?_
    · rw [e0]
      exact s
    intro k hk
    have hbl := blocksF_len p k
    by_cases hkl : 64 * k < p.length
    ·
      repeat' (first|refine zw256 ?_|(refine ta_ ?_;intro _)|(refine zk0 ?_ ?_<;>intro ht)|fail)
      rename_i b7
      obtain ⟨B, hB⟩ : ∃ B, B = (p.drop (64 * k)).take 64 := ⟨_, rfl⟩
      have hBl : B.length = 64 := by rw [hB]; simp; omega
      have hBat : ∀ t, t < 16 → (p.drop (64 * k + 4 * t)).take 4 = (B.drop (4 * t)).take 4 := fun t ht => by
        rw [hB, List.drop_take, List.drop_drop, List.take_take, Nat.min_eq_left (by omega)]
      refine cx_loop (X := Nat) (fun t => [(3, .pointer (some ⟨bK, 0, none⟩)), (4, .pointer (some ⟨bH, 0, none⟩)), (5, .slice adp p.length capp), (6, .int .i64 (64 * k : Nat)), (7, .pointer (some ⟨b7, 0, none⟩)), (8, .int .i64 (t : Nat))]) (fun _ => h1)
        (fun t => [Res.blk b7 (.cells (up32 (pad32 64 (wsF B t))).toArray 179 (0, 0)), Res.blk bH (.cells (up32 (blocksF p k)).toArray 164 (0, 0)), Res.blk bK (.cells (up32 K).toArray 179 (0, 0))])
        (fun t => t ≤ 16) (fun t => 16 - t) 0 (Nat.zero_le _) ts_ (fun _ s => s) ?_
      intro t ht
      have hwl := wsF_len B t
      by_cases ht16 : t < 16
      · have hm : IntKind.i64.wrap (4 * (t : Int)) = ((4 * t : Nat) : Int) := by rw [IntKind.wrap_i64]; omega
        have e4 : 64 * k + 4 * t + 4 - (64 * k + 4 * t) = 4 := by omega
        have hmid : Bs8 h1 (.slice (cutF adp capp (64 * k + 4 * t) 1) (64 * k + 4 * t + 4 - (64 * k + 4 * t)) (capp - (64 * k + 4 * t))) ((B.drop (4 * t)).take 4) := by
          have := bs_mid hP (i := 64 * k + 4 * t) (j := 64 * k + 4 * t + 4) (by omega) (by omega)
          rw [e4] at this ⊢
          rw [← hBat t ht16]
          exact this
        have hby : Bytes ((B.drop (4 * t)).take 4) := by
          rw [← hBat t ht16]
          exact bytes_take (bytes_drop hpb _) 4
        have W := Word_sp ((B.drop (4 * t)).take 4) hby (by simp; omega) h1
        have hwr : IntKind.u32.wrap (valB ((B.drop (4 * t)).take 4)) = ((hi32 ((B.drop (4 * t)).take 4)).toNat : Int) := wrapw rfl rfl _
        have hst : (pad32 64 (wsF B t)).set t (hi32 ((B.drop (4 * t)).take 4)) = pad32 64 (wsF B (t + 1)) := by
          rw [pad32_set hwl (by omega)]
          show _ = pad32 64 (wsF B t ++ [_])
          rw [if_pos ht16]
        have hpl : (pad32 64 (wsF B t)).length = 64 := pad32_len (by omega)
        repeat' (first|refine zw257 ?_|(refine ta_ ?_;intro _)|(refine zk0 ?_ ?_<;>intro ht)|fail)
        (refine ycn (ycp Tryz.func99 rfl (by kernel_rfl) rfl) (W) rfl rfl rfl ?_ ?_; (· (exact to_)))
        repeat' (first|refine zw257 ?_|(refine ta_ ?_;intro _)|(refine zk0 ?_ ?_<;>intro ht)|fail)
        exact nx_round (t + 1) (by show t + 1 ≤ 16; omega) (by show 16 - (t + 1) < 16 - t; omega) ts_ (fun _ s => s)
      · have et : t = 16 := by omega
        subst et
        repeat' (first|refine zw3 ?_|(refine ta_ ?_;intro _)|(refine zk0 ?_ ?_<;>intro ht)|fail)
        refine cx_loop (X := Nat) (fun t => [(3, .pointer (some ⟨bK, 0, none⟩)), (4, .pointer (some ⟨bH, 0, none⟩)), (5, .slice adp p.length capp), (6, .int .i64 (64 * k : Nat)), (7, .pointer (some ⟨b7, 0, none⟩)), (9, .int .i64 (16 + t : Nat))]) (fun _ => h1)
          (fun t => [Res.blk b7 (.cells (up32 (pad32 64 (wsF B (16 + t)))).toArray 179 (0, 0)), Res.blk bH (.cells (up32 (blocksF p k)).toArray 164 (0, 0)), Res.blk bK (.cells (up32 K).toArray 179 (0, 0))])
          (fun t => t ≤ 48) (fun t => 48 - t) 0 (Nat.zero_le _) ts_ (fun _ s => s) ?_
        intro t ht
        have hwl := wsF_len B (16 + t)
        by_cases ht48 : t < 48
        · have hst : (pad32 64 (wsF B (16 + t))).set (16 + t) (nextW (wsF B (16 + t))) = pad32 64 (wsF B (16 + (t + 1))) := by
            rw [pad32_set hwl (by omega), show 16 + (t + 1) = 16 + t + 1 by omega, wsF_next B (by omega)]
          have hpl : (pad32 64 (wsF B (16 + t))).length = 64 := pad32_len (by omega)
          have hnx : nextW (wsF B (16 + t)) = movedF ((wsF B (16 + t)).getD (16 + t - 2) 0) 17 19 10 + (wsF B (16 + t)).getD (16 + t - 7) 0 + movedF ((wsF B (16 + t)).getD (16 + t - 15) 0) 7 18 3 + (wsF B (16 + t)).getD (16 + t - 16) 0 := by
            unfold nextW
            rw [hwl]
          rw [hnx] at hst
          have c2 := pad32_at (n := 64) (l := wsF B (16 + t)) (k := 16 + t - 2) (by omega)
          have c7 := pad32_at (n := 64) (l := wsF B (16 + t)) (k := 16 + t - 7) (by omega)
          have c15 := pad32_at (n := 64) (l := wsF B (16 + t)) (k := 16 + t - 15) (by omega)
          have c16 := pad32_at (n := 64) (l := wsF B (16 + t)) (k := 16 + t - 16) (by omega)
          generalize (wsF B (16 + t)).getD (16 + t - 2) 0 = x2 at c2 hst
          generalize (wsF B (16 + t)).getD (16 + t - 7) 0 = x7 at c7 hst
          generalize (wsF B (16 + t)).getD (16 + t - 15) 0 = x15 at c15 hst
          generalize (wsF B (16 + t)).getD (16 + t - 16) 0 = x16 at c16 hst
          have hcm : movedF x2 17 19 10 + x7 + movedF x15 7 18 3 + x16 = x16 + movedF x15 7 18 3 + x7 + movedF x2 17 19 10 := by
            ac_rfl
          rw [hcm] at hst
          repeat' (first|refine zw258 ?_|(refine ta_ ?_;intro _)|(refine zk0 ?_ ?_<;>intro ht)|fail)
          refine cx_region_draw' rfl (by kernel_rfl) ?_
          repeat' (first|refine zw259 ?_|(refine ycf ?_;(first|(refine zg0 ?_ ?_<;>intro ht)|(refine tb_ ?_ ?_ ?_;(·(exact to_));(·intro _;(exact to_));intro _)))|fail)
          repeat' (first|refine zw258 ?_|(refine ta_ ?_;intro _)|(refine zk0 ?_ ?_<;>intro ht)|fail)
          refine cx_region_draw' rfl (by kernel_rfl) ?_
          repeat' (first|refine zw259 ?_|(refine ycf ?_;(first|(refine zg0 ?_ ?_<;>intro ht)|(refine tb_ ?_ ?_ ?_;(·(exact to_));(·intro _;(exact to_));intro _)))|fail)
          (refine ycn (ycp Tryz.func127 rfl (by kernel_rfl) rfl) (rright_sp2 x15 7 (by omega) h1) rfl rfl rfl ?_ ?_; (· (exact to_)))
          repeat' (first|refine zw259 ?_|(refine ycf ?_;(first|(refine zg0 ?_ ?_<;>intro ht)|(refine tb_ ?_ ?_ ?_;(·(exact to_));(·intro _;(exact to_));intro _)))|fail)
          (refine ycn (ycp Tryz.func127 rfl (by kernel_rfl) rfl) (rright_sp2 x15 18 (by omega) h1) rfl rfl rfl ?_ ?_; (· (exact to_)))
          repeat' (first|refine zw259 ?_|(refine ycf ?_;(first|(refine zg0 ?_ ?_<;>intro ht)|(refine tb_ ?_ ?_ ?_;(·(exact to_));(·intro _;(exact to_));intro _)))|fail)
          (refine ycn (ycp Tryz.func127 rfl (by kernel_rfl) rfl) (rright_sp2 x2 17 (by omega) h1) rfl rfl rfl ?_ ?_; (· (exact to_)))
          repeat' (first|refine zw259 ?_|(refine ycf ?_;(first|(refine zg0 ?_ ?_<;>intro ht)|(refine tb_ ?_ ?_ ?_;(·(exact to_));(·intro _;(exact to_));intro _)))|fail)
          (refine ycn (ycp Tryz.func127 rfl (by kernel_rfl) rfl) (rright_sp2 x2 19 (by omega) h1) rfl rfl rfl ?_ ?_; (· (exact to_)))
          repeat' (first|refine zw259 ?_|(refine ycf ?_;(first|(refine zg0 ?_ ?_<;>intro ht)|(refine tb_ ?_ ?_ ?_;(·(exact to_));(·intro _;(exact to_));intro _)))|fail)
          repeat' (first|refine zw3 ?_|(refine ta_ ?_;intro _)|(refine zk0 ?_ ?_<;>intro ht)|fail)
          exact nx_round (t + 1) (by show t + 1 ≤ 48; omega) (by show 48 - (t + 1) < 48 - t; omega) ts_ (fun _ s => s)
        · have et : t = 48 := by omega
          subst et
          have e64 : pad32 64 (wsF B (16 + 48)) = wsF B 64 := pad32_full (wsF_len B 64)
          rw [e64]
          have hl64 := wsF_len B 64
          have hbn : blocksF p (k + 1) = List.zipWith (· + ·) (blocksF p k) (roundsF (blocksF p k) (wsF B 64) 64) := by rw [hB]; rfl
          generalize wsF B 64 = ws at hl64 hbn ⊢
          generalize blocksF p k = hv at hbl hbn ⊢
          repeat' (first|refine zw260 ?_|(refine ta_ ?_;intro _)|(refine zk0 ?_ ?_<;>intro ht)|fail)
          rename_i b12
          refine cx_loop (X := Nat) (fun t => [(3, .pointer (some ⟨bK, 0, none⟩)), (4, .pointer (some ⟨bH, 0, none⟩)), (5, .slice adp p.length capp), (6, .int .i64 (64 * k : Nat)), (7, .pointer (some ⟨b7, 0, none⟩)), (12, .pointer (some ⟨b12, 0, none⟩)), (13, .int .i64 (t : Nat))]) (fun _ => h1)
            (fun t => [Res.blk b12 (.cells (up32 (roundsF hv ws t)).toArray 164 (0, 0)), Res.blk b7 (.cells (up32 ws).toArray 179 (0, 0)), Res.blk bH (.cells (up32 hv).toArray 164 (0, 0)), Res.blk bK (.cells (up32 K).toArray 179 (0, 0))])
            (fun t => t ≤ 64) (fun t => 64 - t) 0 (Nat.zero_le _) ts_ (fun _ s => s) ?_
          intro t ht
          have hrl := roundsF_len (ws := ws) hbl t
          by_cases ht64 : t < 64
          · have hKc : K[t]? = some (shK.getD t 0) := by rw [eK]; exact getD_at (by rw [shK_len]; exact ht64)
            have hWc : ws[t]? = some (ws.getD t 0) := getD_at (by omega)
            have hR : roundsF hv ws (t + 1) = mixStep (roundsF hv ws t) (shK.getD t 0) (ws.getD t 0) := rfl
            obtain ⟨a0, a1, a2, a3, a4, a5, a6, a7, er⟩ := list8 hrl
            rw [er] at hR ⊢
            generalize shK.getD t 0 = kk at hKc hR
            generalize ws.getD t 0 = wk at hWc hR
            have hnl := mixStep_len [a0, a1, a2, a3, a4, a5, a6, a7] kk wk
            generalize hnx : mixStep [a0, a1, a2, a3, a4, a5, a6, a7] kk wk = nx at hnl hR
            repeat' (first|refine zw261 ?_|(refine ta_ ?_;intro _)|(refine zk0 ?_ ?_<;>intro ht)|fail)
            refine cx_region_draw' rfl (by kernel_rfl) ?_
            repeat' (first|refine zw262 ?_|(refine ycf ?_;(first|(refine zg0 ?_ ?_<;>intro ht)|(refine tb_ ?_ ?_ ?_;(·(exact to_));(·intro _;(exact to_));intro _)))|fail)
            repeat' (first|refine zw261 ?_|(refine ta_ ?_;intro _)|(refine zk0 ?_ ?_<;>intro ht)|fail)
            refine cx_region_draw' rfl (by kernel_rfl) ?_
            repeat' (first|refine zw262 ?_|(refine ycf ?_;(first|(refine zg0 ?_ ?_<;>intro ht)|(refine tb_ ?_ ?_ ?_;(·(exact to_));(·intro _;(exact to_));intro _)))|fail)
            (refine ycn (ycp Tryz.func127 rfl (by kernel_rfl) rfl) (rright_sp2 a4 6 (by omega) h1) rfl rfl rfl ?_ ?_; (· (exact to_)))
            repeat' (first|refine zw262 ?_|(refine ycf ?_;(first|(refine zg0 ?_ ?_<;>intro ht)|(refine tb_ ?_ ?_ ?_;(·(exact to_));(·intro _;(exact to_));intro _)))|fail)
            (refine ycn (ycp Tryz.func127 rfl (by kernel_rfl) rfl) (rright_sp2 a4 11 (by omega) h1) rfl rfl rfl ?_ ?_; (· (exact to_)))
            repeat' (first|refine zw262 ?_|(refine ycf ?_;(first|(refine zg0 ?_ ?_<;>intro ht)|(refine tb_ ?_ ?_ ?_;(·(exact to_));(·intro _;(exact to_));intro _)))|fail)
            (refine ycn (ycp Tryz.func127 rfl (by kernel_rfl) rfl) (rright_sp2 a4 25 (by omega) h1) rfl rfl rfl ?_ ?_; (· (exact to_)))
            repeat' (first|refine zw262 ?_|(refine ycf ?_;(first|(refine zg0 ?_ ?_<;>intro ht)|(refine tb_ ?_ ?_ ?_;(·(exact to_));(·intro _;(exact to_));intro _)))|fail)
            repeat' (first|refine zw261 ?_|(refine ta_ ?_;intro _)|(refine zk0 ?_ ?_<;>intro ht)|fail)
            refine cx_region_draw' rfl (by kernel_rfl) ?_
            repeat' (first|refine zw262 ?_|(refine ycf ?_;(first|(refine zg0 ?_ ?_<;>intro ht)|(refine tb_ ?_ ?_ ?_;(·(exact to_));(·intro _;(exact to_));intro _)))|fail)
            (refine ycn (ycp Tryz.func127 rfl (by kernel_rfl) rfl) (rright_sp2 a0 2 (by omega) h1) rfl rfl rfl ?_ ?_; (· (exact to_)))
            repeat' (first|refine zw262 ?_|(refine ycf ?_;(first|(refine zg0 ?_ ?_<;>intro ht)|(refine tb_ ?_ ?_ ?_;(·(exact to_));(·intro _;(exact to_));intro _)))|fail)
            (refine ycn (ycp Tryz.func127 rfl (by kernel_rfl) rfl) (rright_sp2 a0 13 (by omega) h1) rfl rfl rfl ?_ ?_; (· (exact to_)))
            repeat' (first|refine zw262 ?_|(refine ycf ?_;(first|(refine zg0 ?_ ?_<;>intro ht)|(refine tb_ ?_ ?_ ?_;(·(exact to_));(·intro _;(exact to_));intro _)))|fail)
            (refine ycn (ycp Tryz.func127 rfl (by kernel_rfl) rfl) (rright_sp2 a0 22 (by omega) h1) rfl rfl rfl ?_ ?_; (· (exact to_)))
            repeat' (first|refine zw262 ?_|(refine ycf ?_;(first|(refine zg0 ?_ ?_<;>intro ht)|(refine tb_ ?_ ?_ ?_;(·(exact to_));(·intro _;(exact to_));intro _)))|fail)
            repeat' (first|refine zw261 ?_|(refine ta_ ?_;intro _)|(refine zk0 ?_ ?_<;>intro ht)|fail)
            refine nx_round (t + 1) (by show t + 1 ≤ 64; omega) (by show 64 - (t + 1) < 64 - t; omega) ts_ (fun _ s => ?_)
            rw [hR]
            exact s
          · have et : t = 64 := by omega
            subst et
            obtain ⟨rr, hrr⟩ : ∃ rr, rr = roundsF hv ws 64 := ⟨_, rfl⟩
            rw [← hrr] at hrl hbn ⊢
            repeat' (first|refine zw3 ?_|(refine ta_ ?_;intro _)|(refine zk0 ?_ ?_<;>intro ht)|fail)
            refine cx_loop (X := Nat) (fun i => [(3, .pointer (some ⟨bK, 0, none⟩)), (4, .pointer (some ⟨bH, 0, none⟩)), (5, .slice adp p.length capp), (6, .int .i64 (64 * k : Nat)), (12, .pointer (some ⟨b12, 0, none⟩)), (18, .int .i64 (i : Nat))]) (fun _ => h1)
              (fun i => [Res.blk b12 (.cells (up32 rr).toArray 164 (0, 0)), Res.blk b7 (.cells (up32 ws).toArray 179 (0, 0)), Res.blk bH (.cells (up32 (addF hv rr i)).toArray 164 (0, 0)), Res.blk bK (.cells (up32 K).toArray 179 (0, 0))])
              (fun i => i ≤ 8) (fun i => 8 - i) 0 (Nat.zero_le _) ts_ (fun _ s => s) ?_
            intro i hi
            have hal := addF_len hbl hrl hi
            by_cases hi8 : i < 8
            · have c1 := addF_at hbl hrl hi8
              have c2 := getD_at (l := rr) (i := i) (by omega)
              have hst := addF_set hbl hrl hi8
              generalize hv.getD i 0 = x1 at c1 hst
              generalize rr.getD i 0 = x2 at c2 hst
              repeat' (first|refine zw263 ?_|(refine ta_ ?_;intro _)|(refine zk0 ?_ ?_<;>intro ht)|fail)
              refine cx_region_draw' rfl (by kernel_rfl) ?_
              repeat' (first|refine zw264 ?_|(refine ycf ?_;(first|(refine zg0 ?_ ?_<;>intro ht)|(refine tb_ ?_ ?_ ?_;(·(exact to_));(·intro _;(exact to_));intro _)))|fail)
              repeat' (first|refine zw41 ?_|(refine ta_ ?_;intro _)|(refine zk0 ?_ ?_<;>intro ht)|fail)
              exact nx_round (i + 1) (by show i + 1 ≤ 8; omega) (by show 8 - (i + 1) < 8 - i; omega) ts_ (fun _ s => s)
            · have ei : i = 8 := by omega
              subst ei
              rw [addF_full hbl hrl, ← hbn]
              have ha64 : ((64 * k : Nat) : Int) + 64 = ((64 * (k + 1) : Nat) : Int) := by omega
              repeat' (first|refine zw3 ?_|(refine ta_ ?_;intro _)|(refine zk0 ?_ ?_<;>intro ht)|fail)
              refine nx_round (k + 1) (by show 64 * (k + 1) ≤ p.length; omega) (by show p.length - 64 * (k + 1) < p.length - 64 * k; omega) ?_ (fun _ s => (s.tl.tl))
              rw [← ha64]
              exact ts_
    · have ek : k = p.length / 64 := by omega
      subst ek
      have hsha : shaF b = (blocksF p (p.length / 64)).flatMap fun x => num4 x.toNat := by
        unfold shaF
        rw [hpF]
      rw [hsha]
      generalize hR : blocksF p (p.length / 64) = R at hbl ⊢
      repeat' (first|refine zw3 ?_|(refine ta_ ?_;intro _)|(refine zk0 ?_ ?_<;>intro ht)|fail)
      refine cx_loop (X := Nat) (fun i => [(4, .pointer (some ⟨bH, 0, none⟩)), (19, .string (bstr ((R.take i).flatMap fun x => num4 x.toNat))), (20, .int .i64 (i : Nat))]) (fun _ => h1)
        (fun i => [Res.blk bH (.cells (up32 R).toArray 164 (0, 0)), Res.blk bK (.cells (up32 K).toArray 179 (0, 0))])
        (fun i => i ≤ 8) (fun i => 8 - i) 0 (Nat.zero_le _) ts_ (fun _ s => s) ?_
      intro i hi
      have hfl : ((R.take i).flatMap fun x => num4 x.toNat).length = 4 * i := by
        have : ∀ l : List W32, (l.flatMap fun x => num4 x.toNat).length = 4 * l.length := fun l => by
          induction l with
          | nil => rfl
          | cons a l ih => rw [List.flatMap_cons, List.length_append, num4_len, ih, List.length_cons]; omega
        rw [this, List.length_take]; omega
      by_cases hi8 : i < 8
      · have hgx := getD_at (l := R) (i := i) (by omega)
        have hfs : ((R.take (i + 1)).flatMap fun x => num4 x.toNat) = ((R.take i).flatMap fun x => num4 x.toNat) ++ num4 (R.getD i 0).toNat := by
          rw [flat_succ (by omega : i < R.length)]
          congr 3
          simp [List.getD_eq_getElem?_getD, hbl, hi8]
        generalize R.getD i 0 = xi at hgx hfs
        generalize ((R.take i).flatMap fun x => num4 (x.toNat : Int)) = out at hfl hfs ⊢
        have hx32 := xi.isLt
        have hcat : bstr out ++ bstr (num4 (xi.toNat : Int)) = bstr (out ++ num4 (xi.toNat : Int)) := bstr_app _ _
        have hsz : (bstr out).size + (bstr (num4 (xi.toNat : Int))).size < 1000000 := by rw [bstr_size, bstr_size, num4_len, hfl]; omega
        repeat' (first|refine zw265 ?_|(refine ta_ ?_;intro _)|(refine zk0 ?_ ?_<;>intro ht)|fail)
        (refine ycn (ycp Tryz.func85 rfl (by kernel_rfl) rfl) (Put_sp (xi.toNat : Int) 4 ⟨by omega, by omega⟩ (by omega) h1) rfl rfl rfl ?_ ?_; (· (exact to_)))
        repeat' (first|refine zw265 ?_|(refine ta_ ?_;intro _)|(refine zk0 ?_ ?_<;>intro ht)|fail)
        refine nx_round (i + 1) (by show i + 1 ≤ 8; omega) (by show 8 - (i + 1) < 8 - i; omega) ?_ (fun _ s => s)
        rw [hfs]
        exact ts_
      · have ei : i = 8 := by omega
        subst ei
        rw [List.take_of_length_le (by omega)]
        repeat' (first|refine zw266 ?_|(refine ta_ ?_;intro _)|(refine zk0 ?_ ?_<;>intro ht)|fail)
        exact nx_ret1 rfl (rv_tmp rfl) (fun w' s' => ⟨rfl, s'.nil.base⟩)
end Go.Proofs.YtgeepceieckooaaGreatDoor
end

section
namespace Go.Proofs.YtgeepceieckooaaGreatDoor
open Go Go.Ck
set_option maxHeartbeats 1000000
theorem PutL_sp (x : Int) (m : Nat) (hx : 0 ≤ x ∧ x < 18446744073709551616) (hm : m ≤ 64) (h : View) (w : World) (s : St ⟨w, h, []⟩ h [] w) :
    Calls Tryz.prog 85 [.int .u64 x, .int .i64 m, .bool false].toArray w fun e w' => e = .returned (.string (bstr (putLow m x))) ∧ St ⟨w, h, []⟩ h [] w' := by
  refine calls_enter Tryz.func85 rfl Tryz.ntmps85 rfl s ?_
  repeat' (first|refine tw_ ?_|(refine ta_ ?_;intro _)|(refine zk0 ?_ ?_<;>intro ht)|fail)
  refine cx_loop (X := Nat) (fun k => [(0, .int .u64 (x / 256 ^ k)), (1, .int .i64 m), (2, .bool false), (7, .string (bstr (putLow k x))), (8, .int .i64 k)]) (fun _ => h) (fun _ => []) (fun k => k ≤ m) (fun k => m - k) 0 (Nat.zero_le _) ?_ (fun _ s => s) ?_
  · refine Sub.cons rfl ?_ ts_
    simp
  intro k hk
  by_cases hkm : k < m
  · have hb := divp_bd (k := k) hx
    have hr : (x / 256 ^ k).tmod 256 = x / 256 ^ k % 256 := Int.tmod_eq_emod_of_nonneg hb.1
    have hw : IntKind.u8.wrap (x / 256 ^ k % 256) = x / 256 ^ k % 256 := by rw [wrap_u8]; omega
    have hq : IntKind.u64.wrap ((x / 256 ^ k).tdiv 256) = x / 256 ^ (k + 1) := by
      rw [Int.tdiv_eq_ediv_of_nonneg hb.1, Int.ediv_ediv_of_nonneg (Int.le_of_lt (Int.pow_pos (by decide))), ← Int.pow_succ]
      have := divp_bd (k := k + 1) hx
      exact wrap_u64 this.1 this.2
    have hcat : bstr (putLow k x) ++ bstr [x / 256 ^ k % 256] = bstr (putLow (k + 1) x) := by
      rw [bstr_app, putLow_succ]
    have hsz : (bstr (putLow k x)).size + (bstr [x / 256 ^ k % 256]).size < 1000000 := by
      rw [bstr_size, bstr_size, putLow_len]
      simp; omega
    repeat' (first|refine zw17 ?_|(refine ta_ ?_;intro _)|(refine zk0 ?_ ?_<;>intro ht)|fail)
    · refine nx_round (k + 1) (by show k + 1 ≤ m; omega) (by show m - (k + 1) < m - k; omega) ts_ (fun _ s => s.tl)
    all_goals omega
  · have ek : k = m := by omega
    subst ek
    repeat' (first|refine zw17 ?_|(refine ta_ ?_;intro _)|(refine zk0 ?_ ?_<;>intro ht)|fail)
    all_goals try omega
    exact nx_ret1 rfl (rv_tmp rfl) (fun w' s' => ⟨rfl, s'.nil⟩)
theorem WordL_sp (l : List Int) (hb : Bytes l) (hl : l.length ≤ 8) (h : View) (w : World) (s : St ⟨w, h, []⟩ h [] w) :
    Calls Tryz.prog 99 [.string (bstr l), .bool false].toArray w fun e w' => e = .returned (.int .u64 (valL l)) ∧ St ⟨w, h, []⟩ h [] w' := by
  have hbr : Bytes l.reverse := fun x hx => hb x (List.mem_reverse.1 hx)
  refine calls_enter Tryz.func99 rfl Tryz.ntmps99 rfl s ?_
  repeat' (first|refine zw17 ?_|(refine ta_ ?_;intro _)|(refine zk0 ?_ ?_<;>intro ht)|fail)
  refine cx_loop (X := Nat) (fun k => [(0, .string (bstr l)), (1, .bool false), (5, .int .u64 (valB (l.reverse.take k))), (6, .int .i64 k)]) (fun _ => h) (fun _ => []) (fun k => k ≤ l.length) (fun k => l.length - k) 0 (Nat.zero_le _) ts_ (fun _ s => s) ?_
  intro k hk
  by_cases hkl : k < l.length
  · have hkr : k < l.reverse.length := by simpa using hkl
    have hbd := valB_bd hbr k (by omega)
    have hp : (256 : Int) ^ k ≤ 256 ^ 7 := p256 (by omega)
    have e7 : (256 : Int) ^ 7 = 72057594037927936 := by decide
    rw [e7] at hp
    have hge : l.reverse[k] = l[l.length - 1 - k]'(by omega) := by rw [List.getElem_reverse]
    have hc := hb (l[l.length - 1 - k]'(by omega)) (List.getElem_mem _)
    have hmul : IntKind.u64.wrap (valB (l.reverse.take k) * 256) = valB (l.reverse.take k) * 256 := wrap_u64 (by omega) (by omega)
    have hcw : IntKind.u64.wrap (l[l.length - 1 - k]'(by omega)) = l[l.length - 1 - k]'(by omega) := wrap_u64 hc.1 (by omega)
    have hadd : IntKind.u64.wrap (valB (l.reverse.take k) * 256 + l[l.length - 1 - k]'(by omega)) = valB (l.reverse.take (k + 1)) := by
      rw [valB_succ hkr, hge]; exact wrap_u64 (by omega) (by omega)
    repeat' (first|refine zw267 ?_|(refine ta_ ?_;intro _)|(refine zk0 ?_ ?_<;>intro ht)|fail)
    · exact nx_round (k + 1) (by show k + 1 ≤ l.length; omega) (by show l.length - (k + 1) < l.length - k; omega) ts_ (fun _ s => s)
    all_goals omega
  · have ek : k = l.length := by omega
    subst ek
    repeat' (first|refine zw267 ?_|(refine ta_ ?_;intro _)|(refine zk0 ?_ ?_<;>intro ht)|fail)
    all_goals try omega
    rw [show l.length = l.reverse.length by simp, List.take_length]
    exact nx_ret1 rfl (rv_tmp rfl) (fun w' s' => ⟨rfl, s'⟩)
theorem rMix_sp (a b : List Int) (ha : Bytes a) (hb : Bytes b) (hl : a.length ≤ 900000) (h : View) (w : World) (s : St ⟨w, h, []⟩ h [] w) :
    Calls Tryz.prog 111 [.string (bstr a), .string (bstr b)].toArray w fun e w' => e = .returned (.string (bstr (mixB a b))) ∧ St ⟨w, h, []⟩ h [] w' := by
  have hml := mixB_len a b
  refine calls_enter Tryz.func111 rfl Tryz.ntmps111 rfl s ?_
  repeat' (first|refine zw267 ?_|(refine ta_ ?_;intro _)|(refine zk0 ?_ ?_<;>intro ht)|fail)
  refine cx_row 5 1 ?_
  refine cx_loop (X := Nat × Value) (fun y => [(0, .string (bstr a)), (1, .string (bstr b)), (5, y.2), (6, .int .i64 (y.1 : Nat))]) (fun _ => h) (fun y => [rowB y.2 ((mixB a b).take y.1)]) (fun y => y.1 ≤ min a.length b.length) (fun y => min a.length b.length - y.1) (0, .slice none 0 0) (Nat.zero_le _) ts_ (fun _ s => s) ?_
  rintro ⟨k, v⟩ hk
  replace hk : k ≤ min a.length b.length := hk
  dsimp only
  by_cases hkm : k < min a.length b.length
  · have ha8 := ha a[k] (List.getElem_mem _)
    have hb8 := hb b[k] (List.getElem_mem _)
    have hnx : (mixB a b).take (k + 1) = (mixB a b).take k ++ [bx a[k] b[k]] := by
      rw [List.take_succ_eq_append_getElem (by omega)]
      simp [mixB]
    have htl : ((mixB a b).take k).length = k := by rw [List.length_take]; omega
    repeat' (first|refine zw268 ?_|(refine ta_ ?_;intro _)|(refine zk0 ?_ ?_<;>intro ht)|fail)
    · refine cx_region_draw' rfl (by kernel_rfl) ?_
      repeat' (first|refine zw269 ?_|(refine ycf ?_;(first|(refine zg0 ?_ ?_<;>intro ht)|(refine tb_ ?_ ?_ ?_;(·(exact to_));(·intro _;(exact to_));intro _)))|fail)
      refine rx_append (sz := 1) 1 rfl rfl rfl (yaz 0 rfl) rfl (bcs_one [bx a[k] b[k]]) rfl (by omega) (by unfold maxLen; omega) (by omega) rfl rfl rfl ?_ ?_ ?_
      · (exact to_)
      · intro v'; (exact to_)
      intro v2 _
      repeat' (first|refine zw269 ?_|(refine ycf ?_;(first|(refine zg0 ?_ ?_<;>intro ht)|(refine tb_ ?_ ?_ ?_;(·(exact to_));(·intro _;(exact to_));intro _)))|fail)
      repeat' (first|refine zw189 ?_|(refine ta_ ?_;intro _)|(refine zk0 ?_ ?_<;>intro ht)|fail)
      refine nx_round (k + 1, v2) (by show k + 1 ≤ min a.length b.length; omega) (by show min a.length b.length - (k + 1) < min a.length b.length - k; omega) ts_ (fun _ s => ?_)
      dsimp only
      rw [hnx]
      unfold rowB
      rw [List.length_append, bcs_app]
      exact s.tl
    all_goals omega
  · have ek : k = min a.length b.length := by omega
    subst ek
    rw [List.take_of_length_le (by omega)]
    refine cx_rowsl 0 rfl ?_
    rintro ad cap rfl
    repeat' (first|refine zw270 ?_|(refine ta_ ?_;intro _)|(refine zk0 ?_ ?_<;>intro ht)|fail)
    all_goals try omega
    all_goals
      refine rx_persist rfl fun h2 hle2 hv => ?_
      have hv : Bs8 h2 (.slice ad (mixB a b).length cap) (mixB a b) := hv
      repeat' (first|refine zw271 ?_|(refine ta_ ?_;intro _)|(refine zk0 ?_ ?_<;>intro ht)|fail)
      exact nx_ret1 rfl (rv_tmp rfl) (fun w' s' => ⟨rfl, s'.base⟩)
end Go.Proofs.YtgeepceieckooaaGreatDoor
end

section
namespace Go.Proofs.YtgeepceieckooaaGreatDoor
open Go Go.Ck
set_option maxHeartbeats 4000000
theorem rquarter_sp (st : List W32) (a b c d : Nat) (h16 : st.length = 16) (ha : a < 16) (hb : b < 16) (hc : c < 16) (hd : d < 16) (h : View) (w : World) (s : St ⟨w, h, []⟩ h [] w) :
    Calls Tryz.prog 128 [.agg (up32 st).toArray, .int .i64 (a : Nat), .int .i64 (b : Nat), .int .i64 (c : Nat), .int .i64 (d : Nat)].toArray w fun r w' => r = .returned (.agg (up32 (quarterF st a b c d)).toArray) ∧ St ⟨w, h, []⟩ h [] w' := by
  obtain ⟨s0, e0⟩ : ∃ s0, s0 = st := ⟨_, rfl⟩
  have l0 : s0.length = 16 := by rw [e0, h16]
  obtain ⟨s1, e1⟩ : ∃ x, x = s0.set a (s0.getD a 0 + s0.getD b 0) := ⟨_, rfl⟩
  have l1 : s1.length = 16 := by rw [e1, List.length_set, l0]
  have ca0 := getD_at (l := s0) (i := a) (by omega)
  have cb0 := getD_at (l := s0) (i := b) (by omega)
  obtain ⟨s2, e2⟩ : ∃ x, x = s1.set d (rotL (s1.getD d 0 ^^^ s1.getD a 0) (turnK 16)) := ⟨_, rfl⟩
  have l2 : s2.length = 16 := by rw [e2, List.length_set, l1]
  have cd1 := getD_at (l := s1) (i := d) (by omega)
  have ca1 := getD_at (l := s1) (i := a) (by omega)
  obtain ⟨s3, e3⟩ : ∃ x, x = s2.set c (s2.getD c 0 + s2.getD d 0) := ⟨_, rfl⟩
  have l3 : s3.length = 16 := by rw [e3, List.length_set, l2]
  have cc2 := getD_at (l := s2) (i := c) (by omega)
  have cd2 := getD_at (l := s2) (i := d) (by omega)
  obtain ⟨s4, e4⟩ : ∃ x, x = s3.set b (rotL (s3.getD b 0 ^^^ s3.getD c 0) (turnK 12)) := ⟨_, rfl⟩
  have l4 : s4.length = 16 := by rw [e4, List.length_set, l3]
  have cb3 := getD_at (l := s3) (i := b) (by omega)
  have cc3 := getD_at (l := s3) (i := c) (by omega)
  obtain ⟨s5, e5⟩ : ∃ x, x = s4.set a (s4.getD a 0 + s4.getD b 0) := ⟨_, rfl⟩
  have l5 : s5.length = 16 := by rw [e5, List.length_set, l4]
  have ca4 := getD_at (l := s4) (i := a) (by omega)
  have cb4 := getD_at (l := s4) (i := b) (by omega)
  obtain ⟨s6, e6⟩ : ∃ x, x = s5.set d (rotL (s5.getD d 0 ^^^ s5.getD a 0) (turnK 8)) := ⟨_, rfl⟩
  have l6 : s6.length = 16 := by rw [e6, List.length_set, l5]
  have cd5 := getD_at (l := s5) (i := d) (by omega)
  have ca5 := getD_at (l := s5) (i := a) (by omega)
  obtain ⟨s7, e7⟩ : ∃ x, x = s6.set c (s6.getD c 0 + s6.getD d 0) := ⟨_, rfl⟩
  have l7 : s7.length = 16 := by rw [e7, List.length_set, l6]
  have cc6 := getD_at (l := s6) (i := c) (by omega)
  have cd6 := getD_at (l := s6) (i := d) (by omega)
  obtain ⟨s8, e8⟩ : ∃ x, x = s7.set b (rotL (s7.getD b 0 ^^^ s7.getD c 0) (turnK 7)) := ⟨_, rfl⟩
  have l8 : s8.length = 16 := by rw [e8, List.length_set, l7]
  have cb7 := getD_at (l := s7) (i := b) (by omega)
  have cc7 := getD_at (l := s7) (i := c) (by omega)
  have eq : quarterF st a b c d = s8 := by rw [e8, e7, e6, e5, e4, e3, e2, e1, e0]; rfl
  rw [eq]
  subst e0
  refine calls_enter Tryz.func128 rfl Tryz.ntmps128 rfl s ?_
  repeat' (first|refine zw272 ?_|(refine ta_ ?_;intro _)|(refine zk0 ?_ ?_<;>intro ht)|fail)
  repeat' (first|refine zw273 ?_|(refine ta_ ?_;intro _)|(refine zk0 ?_ ?_<;>intro ht)|fail)
  refine cx_region_draw' rfl (by kernel_rfl) ?_
  repeat' (first|refine zw274 ?_|(refine ycf ?_;(first|(refine zg0 ?_ ?_<;>intro ht)|(refine tb_ ?_ ?_ ?_;(·(exact to_));(·intro _;(exact to_));intro _)))|fail)
  repeat' (first|refine zw275 ?_|(refine ta_ ?_;intro _)|(refine zk0 ?_ ?_<;>intro ht)|fail)
  refine cx_region_draw' rfl (by kernel_rfl) ?_
  repeat' (first|refine zw276 ?_|(refine ycf ?_;(first|(refine zg0 ?_ ?_<;>intro ht)|(refine tb_ ?_ ?_ ?_;(·(exact to_));(·intro _;(exact to_));intro _)))|fail)
  (refine ycn (ycp Tryz.func140 rfl (by kernel_rfl) rfl) (rLeft_sp (s1.getD d 0 ^^^ s1.getD a 0) 16 h) rfl rfl rfl ?_ ?_; (· (exact to_)))
  repeat' (first|refine zw276 ?_|(refine ycf ?_;(first|(refine zg0 ?_ ?_<;>intro ht)|(refine tb_ ?_ ?_ ?_;(·(exact to_));(·intro _;(exact to_));intro _)))|fail)
  repeat' (first|refine zw277 ?_|(refine ta_ ?_;intro _)|(refine zk0 ?_ ?_<;>intro ht)|fail)
  refine cx_region_draw' rfl (by kernel_rfl) ?_
  repeat' (first|refine zw278 ?_|(refine ycf ?_;(first|(refine zg0 ?_ ?_<;>intro ht)|(refine tb_ ?_ ?_ ?_;(·(exact to_));(·intro _;(exact to_));intro _)))|fail)
  repeat' (first|refine zw279 ?_|(refine ta_ ?_;intro _)|(refine zk0 ?_ ?_<;>intro ht)|fail)
  refine cx_region_draw' rfl (by kernel_rfl) ?_
  repeat' (first|refine zw280 ?_|(refine ycf ?_;(first|(refine zg0 ?_ ?_<;>intro ht)|(refine tb_ ?_ ?_ ?_;(·(exact to_));(·intro _;(exact to_));intro _)))|fail)
  (refine ycn (ycp Tryz.func140 rfl (by kernel_rfl) rfl) (rLeft_sp (s3.getD b 0 ^^^ s3.getD c 0) 12 h) rfl rfl rfl ?_ ?_; (· (exact to_)))
  repeat' (first|refine zw280 ?_|(refine ycf ?_;(first|(refine zg0 ?_ ?_<;>intro ht)|(refine tb_ ?_ ?_ ?_;(·(exact to_));(·intro _;(exact to_));intro _)))|fail)
  repeat' (first|refine zw281 ?_|(refine ta_ ?_;intro _)|(refine zk0 ?_ ?_<;>intro ht)|fail)
  refine cx_region_draw' rfl (by kernel_rfl) ?_
  repeat' (first|refine zw282 ?_|(refine ycf ?_;(first|(refine zg0 ?_ ?_<;>intro ht)|(refine tb_ ?_ ?_ ?_;(·(exact to_));(·intro _;(exact to_));intro _)))|fail)
  repeat' (first|refine zw283 ?_|(refine ta_ ?_;intro _)|(refine zk0 ?_ ?_<;>intro ht)|fail)
  refine cx_region_draw' rfl (by kernel_rfl) ?_
  repeat' (first|refine zw284 ?_|(refine ycf ?_;(first|(refine zg0 ?_ ?_<;>intro ht)|(refine tb_ ?_ ?_ ?_;(·(exact to_));(·intro _;(exact to_));intro _)))|fail)
  (refine ycn (ycp Tryz.func140 rfl (by kernel_rfl) rfl) (rLeft_sp (s5.getD d 0 ^^^ s5.getD a 0) 8 h) rfl rfl rfl ?_ ?_; (· (exact to_)))
  repeat' (first|refine zw284 ?_|(refine ycf ?_;(first|(refine zg0 ?_ ?_<;>intro ht)|(refine tb_ ?_ ?_ ?_;(·(exact to_));(·intro _;(exact to_));intro _)))|fail)
  repeat' (first|refine zw285 ?_|(refine ta_ ?_;intro _)|(refine zk0 ?_ ?_<;>intro ht)|fail)
  refine cx_region_draw' rfl (by kernel_rfl) ?_
  repeat' (first|refine zw286 ?_|(refine ycf ?_;(first|(refine zg0 ?_ ?_<;>intro ht)|(refine tb_ ?_ ?_ ?_;(·(exact to_));(·intro _;(exact to_));intro _)))|fail)
  repeat' (first|refine zw287 ?_|(refine ta_ ?_;intro _)|(refine zk0 ?_ ?_<;>intro ht)|fail)
  refine cx_region_draw' rfl (by kernel_rfl) ?_
  repeat' (first|refine zw288 ?_|(refine ycf ?_;(first|(refine zg0 ?_ ?_<;>intro ht)|(refine tb_ ?_ ?_ ?_;(·(exact to_));(·intro _;(exact to_));intro _)))|fail)
  (refine ycn (ycp Tryz.func140 rfl (by kernel_rfl) rfl) (rLeft_sp (s7.getD b 0 ^^^ s7.getD c 0) 7 h) rfl rfl rfl ?_ ?_; (· (exact to_)))
  repeat' (first|refine zw288 ?_|(refine ycf ?_;(first|(refine zg0 ?_ ?_<;>intro ht)|(refine tb_ ?_ ?_ ?_;(·(exact to_));(·intro _;(exact to_));intro _)))|fail)
  repeat' (first|refine zw289 ?_|(refine ta_ ?_;intro _)|(refine zk0 ?_ ?_<;>intro ht)|fail)
  exact nx_ret1 rfl (rv_cells rfl (yaz 0 rfl) (w_sz l8)) (fun w' s' => ⟨rfl, s'.nil⟩)
end Go.Proofs.YtgeepceieckooaaGreatDoor
end
