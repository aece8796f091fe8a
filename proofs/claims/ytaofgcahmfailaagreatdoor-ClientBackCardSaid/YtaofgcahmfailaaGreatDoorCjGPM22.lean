/-
  Part 22 of a proof: CjD CjA CjB CjE SbR.
  Conditions: each theorem states its own.
-/
import Derived.Test.YtaofgcahmfailaaGreatDoorCjGPM21
set_option maxRecDepth 100000
set_option linter.unusedVariables false
section
namespace Go.Proofs.YtaofgcahmfailaaGreatDoor
open Go Go.Ck
set_option maxHeartbeats 1000000
theorem ESeal_long (bv : Nat) (nm : List Int) (vn vv pv : Value) (q : Hdr) (del : Bool) (hnl : 64 < nm.length) (h : View) (hsn : Bs8 h vn nm) (hsp : Bs8 h pv q.past) (w : World) (s : St ⟨w, h, []⟩ h [] w) :
    Calls Tryz.prog 25 [.pointer (some ⟨bv, 0, none⟩), vn, .agg (hdc q pv).toArray, vv, .bool del].toArray w fun e w' => e = .returned (.tuple #[.agg zEnv, .int .i64 1]) ∧ St ⟨w, h, []⟩ h [] w' := by
  obtain ⟨_, adn, capn, rfl, hcapn, _⟩ := id hsn
  obtain ⟨_, adp, capp, rfl, hcapp, _⟩ := id hsp
  have HN := name_sp _ nm h hsn
  rw [decide_eq_false (show ¬ (1 ≤ nm.length ∧ nm.length ≤ 64) by omega)] at HN
  refine calls_enter Tryz.func25 rfl Tryz.ntmps25 rfl s ?_
  repeat' (first|(refine ycf ?_;apply ybk;(·first|(first|exact tk_|(apply qv_eql_pnil<;>rfl)|(apply qv_nilCheck;rfl)));(·rfl);(·rfl))|refine t1_ ?_|(refine ta_ ?_;intro _)|((fail_if_success (refine ybi rfl ?_));refine ybj rfl ?_ ?_<;>(intro ht;rw [ht];first|replace ht := oet_ ht|replace ht := oef_ ht|skip))|(refine ych ?_;first|(refine ybw rfl ?_ ?_<;>intro ht)|(refine ybx rfl ?_ ?_<;>intro ht)))
  (refine ycn (ycp Tryz.func34 rfl (by kernel_rfl) rfl) (HN) rfl rfl rfl ?_ ?_; (· (exact to_)))
  repeat' (first|(refine ycf ?_;apply ybk;(·first|(first|exact tk_|(apply yax (cs := zEnv.toList)<;>rfl)));(·rfl);(·rfl))|(refine ybg 0 rfl rfl rfl rfl (Nat.le_of_ble_eq_true rfl) rfl (ybh (z := zEnv.toList) rfl) rfl rfl ?_ ?_ ?_;(·(exact to_));(·(exact to_)))|refine t1_ ?_|(refine ta_ ?_;intro _)|((fail_if_success (refine ybi rfl ?_));refine ybj rfl ?_ ?_<;>(intro ht;rw [ht];first|replace ht := oet_ ht|replace ht := oef_ ht|skip))|(refine ych ?_;first|(refine ybw rfl ?_ ?_<;>intro ht)|(refine ybx rfl ?_ ?_<;>intro ht)))
  exact nx_ret2 rfl (rv_cells rfl (yaz 0 rfl) rfl) (rv_tmp rfl) (fun w' s' => ⟨rfl, s'.nil⟩)
theorem CWrite_long (b : Nat) (id : Int) (bv : Nat) (ep ct : Int) (bm : Nat) (K : List (ByteArray × Value)) (nm : List Int) (n : Int) (del : Bool) (u : List Int) (l : List Dt) (vn vv cv : Value)
    (hid : 1 ≤ id ∧ id ≤ 16) (hn0 : 0 ≤ n ∧ n < 1000000) (hct : 0 ≤ ct ∧ ct < 1000000) (hK : numK K nm n) (hhd : headE u l (id, n + 1) = 0) (hnl : 64 < nm.length)
    (h : View) (hsn : Bs8 h vn nm) (hc : Cx h cv u l) (w : World) (s : St ⟨w, h, doms [clR b id bv ep ct bm, cmR bm K]⟩ h [clR b id bv ep ct bm, cmR bm K] w) :
    Calls Tryz.prog 9 [.pointer (some ⟨b, 0, none⟩), vn, vv, .bool del, cv].toArray w fun e w' => ∃ h' : View, e = .returned (.tuple #[.agg (bcs (List.replicate 32 0)).toArray, sbv zSb, .int .i64 1]) ∧
      St ⟨w, h, doms [clR b id bv ep ct bm, cmR bm K]⟩ h' [clR b id bv ep ct bm, cmR bm K] w' ∧ True := by
  have hk0 : checkC u l = 0 := by
    unfold headE at hhd
    split at hhd
    · assumption
    · exact hhd
  have hcl : l.length ≤ 32 := (check_right hk0).2.1
  have hc' := hc
  obtain ⟨hu, mv, rfl, hs⟩ := hc
  have H1 := head_sp b id bv ep ct bm K nm n u l vn _ hid hn0 hct hK (by omega) h hsn hc'
  rw [hhd] at H1
  simp only [↓reduceIte, true_implies] at H1
  obtain ⟨q, eq⟩ : ∃ q : Hdr, q = ⟨ep, ct + 1, id, n + 1, encW u l⟩ := ⟨_, rfl⟩
  have q4 : q.past = encW u l := by rw [eq]
  rw [← eq] at H1
  refine calls_enter Tryz.func9 rfl Tryz.ntmps9 rfl s ?_
  repeat' (first|(refine ycf ?_;apply ybk;(·first|(first|exact tk_|(apply qv_eql_pnil<;>rfl)|(apply qv_nilCheck;rfl)|(apply yad;(·rfl);(·exact yaz 2 rfl);(·exact ycj hu))));(·rfl);(·rfl))|(refine ybg 0 rfl rfl rfl rfl (Nat.le_of_ble_eq_true rfl) rfl (ybh (z := zEnv.toList) rfl) rfl rfl ?_ ?_ ?_;(·(exact to_));(·(exact to_)))|refine t1_ ?_|(refine ta_ ?_;intro _)|((fail_if_success (refine ybi rfl ?_));refine ybj rfl ?_ ?_<;>(intro ht;rw [ht];first|replace ht := oet_ ht|replace ht := oef_ ht|skip))|(refine ych ?_;first|(refine ybw rfl ?_ ?_<;>intro ht)|(refine ybx rfl ?_ ?_<;>intro ht)))
  rename_i b9 b10 b11
  refine rx_call_l (ycp Tryz.func24 rfl (by kernel_rfl) rfl) (pick2 3 3 rfl rfl) H1 rfl rfl rfl ybf (fun _ _ _ => ybf) ?_
  rintro ⟨h1, vp⟩ hvp hle1
  dsimp only at hvp hle1 ⊢
  have hvp : Bs8 h1 vp q.past := by rw [q4]; exact hvp
  have hle1 : Le h h1 := hle1
  repeat' (first|(refine ycf ?_;apply ybk;(·first|(exact tk_));(·rfl);(·rfl)) | (refine ybg 0 rfl rfl rfl rfl (by show 0 + 5 ≤ 5;omega) (by obtain ⟨_, adp, capp, rfl, _⟩ := hvp;rfl) (ybh rfl) rfl rfl ?_ ?_ ?_;(·(exact to_));(·(exact to_))) | refine t1_ ?_ | (refine ta_ ?_;intro _) | ((fail_if_success (refine ybi rfl ?_));refine ybj rfl ?_ ?_<;>(intro ht;rw [ht];first|replace ht := oet_ ht | replace ht := oef_ ht | skip)) | (refine ych ?_;first|(refine ybw rfl ?_ ?_<;>intro ht) | (refine ybx rfl ?_ ?_<;>intro ht)))
  rename_i b13
  have E1 := ESeal_long bv nm vn vv vp q del hnl h1 (hsn.mono hle1) hvp
  refine cx_perm (L' := [Res.blk b13 (.cells (hdc q vp).toArray 86 (0, 0)), clR b id bv ep ct bm, cmR bm K, Res.blk b11 (.cells (sbc zSb).toArray 47 (0, 0)), Res.blk b10 (.cells (bcs (List.replicate 32 0)).toArray 43 (0, 0)), Res.blk b9 (.cells (cxc u mv).toArray 42 (0, 0))]) (.refl _) ?_
  refine cx_cut (X := Nat) (fun y => [(0, .pointer (some ⟨b, 0, none⟩)), (1, vn), (9, .pointer (some ⟨b9, 0, none⟩)), (10, .pointer (some ⟨b10, 0, none⟩)), (11, .pointer (some ⟨b11, 0, none⟩)), (12, .int .i64 0), (13, .pointer (some ⟨b13, 0, none⟩)), (14, .int .i64 1), (15, .pointer (some ⟨y, 0, none⟩))]) (fun _ => h1)
    (fun y => [Res.blk y (.cells zEnv 90 (0, 0)), clR b id bv ep ct bm, cmR bm K, Res.blk b10 (.cells (bcs (List.replicate 32 0)).toArray 43 (0, 0)), Res.blk b11 (.cells (sbc zSb).toArray 47 (0, 0))]) (fun _ => True) ?_ ?_
  · refine cx_region_floX [Res.blk b13 (.cells (hdc q vp).toArray 86 (0, 0)), clR b id bv ep ct bm] [8, 12, 13, 14] [0, 1, 2, 3, 4, 5, 6, 7] [8, 9, 10, 11] 12 [13, 14] rfl (by kernel_rfl) ?_
    repeat' (refine ycf ?_;(first|(first|(apply ybm;(·(first|(first|exact tk_|(apply qv_nilCheck;rfl)|(apply yad;(·rfl);(·exact yaz 0 rfl);(·rfl)))|(apply yae;(·rfl);(·(first|exact yay 1 rfl rfl)))|exact tq_));(·rfl);(·rfl);(·(first|exact hd_two tmm_ tmm_|exact hd_two' hle tmm_ tmm_)))|refine ybl rfl rfl ?_|((fail_if_success (refine ybi rfl ?_));refine ybj rfl ?_ ?_<;>(intro ht;rw [ht];first|replace ht := oet_ ht|replace ht := oef_ ht|skip))|(refine tb_ ?_ ?_ ?_;(·(first|exact ybf|(refine .inl ?_;(first|exact hd_two tmm_ tmm_|exact hd_two' hle tmm_ tmm_))|exact to_));(·intro _;(first|exact ybf|(refine .inl ?_;(first|exact hd_two tmm_ tmm_|exact hd_two' hle tmm_ tmm_))|exact to_));intro _)|(first|(refine tqs_ ?_ ?_ ?_;(·(first|exact ybf|(refine .inl ?_;(first|exact hd_two tmm_ tmm_|exact hd_two' hle tmm_ tmm_))|exact to_));(·(first|exact ybf|(refine .inl ?_;(first|exact hd_two tmm_ tmm_|exact hd_two' hle tmm_ tmm_))|exact to_))))|(apply ybn;(·(first|(first|exact tk_|(apply qv_nilCheck;rfl)|(apply yad;(·rfl);(·exact yaz 0 rfl);(·rfl)))|(apply yae;(·rfl);(·(first|exact yay 1 rfl rfl)))|exact tq_));(·rfl);(·rfl);(·rfl);(·(first|exact ybf|(refine .inl ?_;(first|exact hd_two tmm_ tmm_|exact hd_two' hle tmm_ tmm_))|exact to_))))|refine ycg ?_))
    refine nx_flo 8 [9, 10, 11] [] (by kernel_rfl) ?_ ?_
    · (refine ycn (ycp Tryz.func25 rfl (by kernel_rfl) rfl) (E1) rfl rfl rfl ?_ ?_;(·(first|exact ybf|(refine .inl ?_;(first|exact hd_two tmm_ tmm_|exact hd_two' hle tmm_ tmm_))|exact to_)))
      repeat' (refine ycf ?_;(first|(first|(apply ybm;(·(first|(first|exact tk_|(apply qv_nilCheck;rfl)|(apply yad;(·rfl);(·exact yaz 0 rfl);(·rfl)))|(apply yae;(·rfl);(·(first|exact yay 1 rfl rfl)))|exact tq_));(·rfl);(·rfl);(·(first|exact hd_two tmm_ tmm_|exact hd_two' hle tmm_ tmm_)))|refine ybl rfl rfl ?_|((fail_if_success (refine ybi rfl ?_));refine ybj rfl ?_ ?_<;>(intro ht;rw [ht];first|replace ht := oet_ ht|replace ht := oef_ ht|skip))|(refine tb_ ?_ ?_ ?_;(·(first|exact ybf|(refine .inl ?_;(first|exact hd_two tmm_ tmm_|exact hd_two' hle tmm_ tmm_))|exact to_));(·intro _;(first|exact ybf|(refine .inl ?_;(first|exact hd_two tmm_ tmm_|exact hd_two' hle tmm_ tmm_))|exact to_));intro _)|(first|(refine tqs_ ?_ ?_ ?_;(·(first|exact ybf|(refine .inl ?_;(first|exact hd_two tmm_ tmm_|exact hd_two' hle tmm_ tmm_))|exact to_));(·(first|exact ybf|(refine .inl ?_;(first|exact hd_two tmm_ tmm_|exact hd_two' hle tmm_ tmm_))|exact to_))))|(apply ybn;(·(first|(first|exact tk_|(apply qv_nilCheck;rfl)|(apply yad;(·rfl);(·exact yaz 0 rfl);(·rfl)))|(apply yae;(·rfl);(·(first|exact yay 1 rfl rfl)))|exact tq_));(·rfl);(·rfl);(·rfl);(·(first|exact ybf|(refine .inl ?_;(first|exact hd_two tmm_ tmm_|exact hd_two' hle tmm_ tmm_))|exact to_))))|refine ycg ?_))
      refine nx_flo_end ?_
      repeat' (refine ycf ?_;(first|(first|(apply ybm;(·(first|(first|exact tk_|(apply qv_nilCheck;rfl)|(apply yad;(·rfl);(·exact yaz 0 rfl);(·rfl)))|(apply yae;(·rfl);(·(first|exact yay 1 rfl rfl)))|exact tq_));(·rfl);(·rfl);(·(first|exact hd_two tmm_ tmm_|exact hd_two' hle tmm_ tmm_)))|refine ybl rfl rfl ?_|((fail_if_success (refine ybi rfl ?_));refine ybj rfl ?_ ?_<;>(intro ht;rw [ht];first|replace ht := oet_ ht|replace ht := oef_ ht|skip))|(refine tb_ ?_ ?_ ?_;(·(first|exact ybf|(refine .inl ?_;(first|exact hd_two tmm_ tmm_|exact hd_two' hle tmm_ tmm_))|exact to_));(·intro _;(first|exact ybf|(refine .inl ?_;(first|exact hd_two tmm_ tmm_|exact hd_two' hle tmm_ tmm_))|exact to_));intro _)|(first|(refine ybg 0 rfl rfl rfl rfl (nble rfl) rfl (ybh (z := zEnv.toList) rfl) rfl rfl ?_ ?_ ?_;(·(first|exact ybf|(refine .inl ?_;(first|exact hd_two tmm_ tmm_|exact hd_two' hle tmm_ tmm_))|exact to_));(·(first|exact ybf|(refine .inl ?_;(first|exact hd_two tmm_ tmm_|exact hd_two' hle tmm_ tmm_))|exact to_)))|(refine tqs_ ?_ ?_ ?_;(·(first|exact ybf|(refine .inl ?_;(first|exact hd_two tmm_ tmm_|exact hd_two' hle tmm_ tmm_))|exact to_));(·(first|exact ybf|(refine .inl ?_;(first|exact hd_two tmm_ tmm_|exact hd_two' hle tmm_ tmm_))|exact to_))))|(apply ybn;(·(first|(first|exact tk_|(apply qv_nilCheck;rfl)|(apply yad;(·rfl);(·exact yaz 0 rfl);(·rfl)))|(apply yae;(·rfl);(·(first|exact yay 1 rfl rfl)))|exact tq_));(·rfl);(·rfl);(·rfl);(·(first|exact ybf|(refine .inl ?_;(first|exact hd_two tmm_ tmm_|exact hd_two' hle tmm_ tmm_))|exact to_))))|refine ycg ?_))
      rename_i b15
      refine nx_cut b15 trivial ts_ (fun w' s' => ?_)
      exact s'.picks [0, 1, 1, 2, 1]
    · repeat' (refine ycf ?_;(first|(first|(apply ybm;(·(first|(first|exact tk_|(apply qv_nilCheck;rfl)|(apply yad;(·rfl);(·exact yaz 0 rfl);(·rfl)))|(apply yae;(·rfl);(·(first|exact yay 1 rfl rfl)))|exact tq_));(·rfl);(·rfl);(·(first|exact hd_two tmm_ tmm_|exact hd_two' hle tmm_ tmm_)))|refine ybl rfl rfl ?_|((fail_if_success (refine ybi rfl ?_));refine ybj rfl ?_ ?_<;>(intro ht;rw [ht];first|replace ht := oet_ ht|replace ht := oef_ ht|skip))|(refine tb_ ?_ ?_ ?_;(·(first|exact ybf|(refine .inl ?_;(first|exact hd_two tmm_ tmm_|exact hd_two' hle tmm_ tmm_))|exact to_));(·intro _;(first|exact ybf|(refine .inl ?_;(first|exact hd_two tmm_ tmm_|exact hd_two' hle tmm_ tmm_))|exact to_));intro _)|(first|(refine tqs_ ?_ ?_ ?_;(·(first|exact ybf|(refine .inl ?_;(first|exact hd_two tmm_ tmm_|exact hd_two' hle tmm_ tmm_))|exact to_));(·(first|exact ybf|(refine .inl ?_;(first|exact hd_two tmm_ tmm_|exact hd_two' hle tmm_ tmm_))|exact to_))))|(apply ybn;(·(first|(first|exact tk_|(apply qv_nilCheck;rfl)|(apply yad;(·rfl);(·exact yaz 0 rfl);(·rfl)))|(apply yae;(·rfl);(·(first|exact yay 1 rfl rfl)))|exact tq_));(·rfl);(·rfl);(·rfl);(·(first|exact ybf|(refine .inl ?_;(first|exact hd_two tmm_ tmm_|exact hd_two' hle tmm_ tmm_))|exact to_))))|refine ycg ?_))
      rename_i b15
      (refine ycn (ycp Tryz.func25 rfl (by kernel_rfl) rfl) (E1) rfl rfl rfl ?_ ?_;(·(first|exact ybf|(refine .inl ?_;(first|exact hd_two tmm_ tmm_|exact hd_two' hle tmm_ tmm_))|exact to_)))
      repeat' (refine ycf ?_;(first|(first|(apply ybm;(·(first|(first|exact tk_|(apply qv_nilCheck;rfl)|(apply yad;(·rfl);(·exact yaz 0 rfl);(·rfl)))|(apply yae;(·rfl);(·(first|exact yay 1 rfl rfl)))|exact tq_));(·rfl);(·rfl);(·(first|exact hd_two tmm_ tmm_|exact hd_two' hle tmm_ tmm_)))|refine ybl rfl rfl ?_|((fail_if_success (refine ybi rfl ?_));refine ybj rfl ?_ ?_<;>(intro ht;rw [ht];first|replace ht := oet_ ht|replace ht := oef_ ht|skip))|(refine tb_ ?_ ?_ ?_;(·(first|exact ybf|(refine .inl ?_;(first|exact hd_two tmm_ tmm_|exact hd_two' hle tmm_ tmm_))|exact to_));(·intro _;(first|exact ybf|(refine .inl ?_;(first|exact hd_two tmm_ tmm_|exact hd_two' hle tmm_ tmm_))|exact to_));intro _)|(first|(refine ybg 0 rfl rfl rfl rfl (nble rfl) rfl (ybh (z := zEnv.toList) rfl) rfl rfl ?_ ?_ ?_;(·(first|exact ybf|(refine .inl ?_;(first|exact hd_two tmm_ tmm_|exact hd_two' hle tmm_ tmm_))|exact to_));(·(first|exact ybf|(refine .inl ?_;(first|exact hd_two tmm_ tmm_|exact hd_two' hle tmm_ tmm_))|exact to_)))|(refine tqs_ ?_ ?_ ?_;(·(first|exact ybf|(refine .inl ?_;(first|exact hd_two tmm_ tmm_|exact hd_two' hle tmm_ tmm_))|exact to_));(·(first|exact ybf|(refine .inl ?_;(first|exact hd_two tmm_ tmm_|exact hd_two' hle tmm_ tmm_))|exact to_))))|(apply ybn;(·(first|(first|exact tk_|(apply qv_nilCheck;rfl)|(apply yad;(·rfl);(·exact yaz 0 rfl);(·rfl)))|(apply yae;(·rfl);(·(first|exact yay 1 rfl rfl)))|exact tq_));(·rfl);(·rfl);(·rfl);(·(first|exact ybf|(refine .inl ?_;(first|exact hd_two tmm_ tmm_|exact hd_two' hle tmm_ tmm_))|exact to_))))|refine ycg ?_))
      refine nx_cut b15 trivial ts_ (fun w' s' => ?_)
      exact s'.picks [0, 1, 1, 2, 1]
  rintro b15 _
  refine yby ?_
  repeat' (first|(refine ycf ?_;apply ybk;(·first|(first|exact tk_|(exact qv_build_arr (cs := bcs (List.replicate 32 0)) rfl rfl)|(apply yax (cs := sbc zSb)<;>rfl)));(·rfl);(·rfl))|refine t1_ ?_|(refine ta_ ?_;intro _)|((fail_if_success (refine ybi rfl ?_));refine ybj rfl ?_ ?_<;>(intro ht;rw [ht];first|replace ht := oet_ ht|replace ht := oef_ ht|skip))|(refine ych ?_;first|(refine ybw rfl ?_ ?_<;>intro ht)|(refine ybx rfl ?_ ?_<;>intro ht)))
  exact nx_ret3 rfl (rv_cells rfl (yaz 3 rfl) rfl) (rv_cells rfl (yaz 4 rfl) rfl) (rv_tmp rfl) (fun w' s' => ⟨h1, rfl, s'.picks [1, 1], trivial⟩)
end Go.Proofs.YtaofgcahmfailaaGreatDoor
end

section
namespace Go.Proofs.YtaofgcahmfailaaGreatDoor
open Go Go.Ck
set_option maxHeartbeats 4000000
theorem bytes_sub {l m : List Int} (h : Bytes l) (hs : ∀ x ∈ m, x ∈ l) : Bytes m := fun x hx => h x (hs x hx)
theorem one_f {y1 : Flo} {D : List (Flo × Nat)} (h : D.map (·.1) = [y1]) : ∃ b1, D = [(y1, b1)] := by
  obtain ⟨p1, D1, rfl, h1, h2⟩ := List.map_eq_cons_iff.1 h
  obtain rfl := List.map_eq_nil_iff.1 h2
  exact ⟨p1.2, by rw [← h1]⟩
theorem bs_suf {h : View} {ad : Option Addr} {cap : Nat} {l : List Int} (s : Bs8 h (.slice ad l.length cap) l) {j : Nat} (hj : j ≤ l.length) : Bs8 h (.slice (cutF ad cap j 1) (l.length - j) (cap - j)) (l.drop j) := by
  have := sc_drop s (by omega) hj
  unfold Bs8
  rw [List.length_drop]
  rw [Nat.mul_one] at this
  unfold bcs at this ⊢
  rw [List.map_drop]
  exact this
theorem aOpen_sp (va vs : Value) (key nonce a se : List Int) (hk : Bytes key) (hn : Bytes nonce) (hk32 : key.length = 32) (hn12 : nonce.length = 12) (ya : Bytes a) (ys : Bytes se) (la : a.length ≤ 400000) (ls : 16 ≤ se.length ∧ se.length ≤ 400000) (h : View) (ha : Bs8 h va a) (hs : Bs8 h vs se) (w : World) (s : St ⟨w, h, []⟩ h [] w) :
    Calls Tryz.prog 83 [.agg (bcs key).toArray, .agg (bcs nonce).toArray, va, vs].toArray w fun e w' => ∃ x : View × Value, e = .returned (.tuple #[x.2, .int .i64 (match aeadO key nonce a se with | some _ => 0 | none => 6)]) ∧ St ⟨w, h, []⟩ x.1 [] w' ∧ Bs8 x.1 x.2 ((aeadO key nonce a se).getD []) := by
  obtain ⟨_, ada, capa, rfl, hcapa, _⟩ := id ha
  obtain ⟨_, ads, caps, rfl, hcaps, _⟩ := id hs
  have k1 : (bcs key).length = 32 := by rw [bcs_len, hk32]
  have k2 : (bcs nonce).length = 12 := by rw [bcs_len, hn12]
  obtain ⟨n, hn1⟩ : ∃ n, n = se.length - 16 := ⟨_, rfl⟩
  have ht : Bs8 h (.slice ads n caps) (se.take n) := bs_pre hs (by omega)
  have hd : Bs8 h (.slice (cutF ads caps n 1) (se.length - n) (caps - n)) (se.drop n) := bs_suf hs (by omega)
  have yt : Bytes (se.take n) := bytes_sub ys fun x hx => List.mem_of_mem_take hx
  have yd : Bytes (se.drop n) := bytes_sub ys fun x hx => List.mem_of_mem_drop hx
  have lt : (se.take n).length = n := by simp; omega
  have ld : (se.drop n).length = 16 := by simp; omega
  have eO : aeadO key nonce a se = if aeadT key nonce a (se.take n) = se.drop n then some (streamF key 1 nonce (se.take n)) else none := by unfold aeadO; rw [hn1]
  rw [eO]
  have T1 := atag_sp _ _ key nonce a (se.take n) hk hn hk32 hn12 ya yt la (by omega) h ha ht
  have tl := aeadT_len key nonce a (se.take n)
  have ty := aeadT_by key nonce a (se.take n)
  generalize aeadT key nonce a (se.take n) = t at T1 tl ty ⊢
  have hot : (bcs t).length = 16 := by rw [bcs_len, tl]
  refine calls_enter Tryz.func83 rfl Tryz.ntmps83 rfl s ?_
  repeat' (first|(refine ycf ?_;apply ybk;(·first|(exact tk_));(·rfl);(·rfl))|refine t1_ ?_|(refine ta_ ?_;intro _)|((fail_if_success (refine ybi rfl ?_));refine ybj rfl ?_ ?_<;>(intro ht;rw [ht];first|replace ht := oet_ ht|replace ht := oef_ ht|skip))|(refine ych ?_;first|(refine ybw rfl ?_ ?_<;>intro ht)|(refine ybx rfl ?_ ?_<;>intro ht)))
  rename_i b4 b5
  rw [show ((se.length : Int) - 16) = ((n : Nat) : Int) by omega]
  refine cx_perm (L' := [Res.blk b5 (.cells (bcs nonce).toArray 143 (0, 0)), Res.blk b4 (.cells (bcs key).toArray 25 (0, 0))]) (.refl _) ?_
  refine cx_region_float [0, 1, 2, 3, 4, 5, 6] [(7, 11, fun b => .pointer (some ⟨b, 0, none⟩), .cells (bcs (List.replicate 16 0)).toArray 167 (0, 0))] [8] rfl (by kernel_rfl) ?_
  intro D ys hD
  refine gx_with (List.forall_mem_cons.2 ⟨⟨rfl, rfl, rfl, by kernel_rfl, fun _ _ _ => MA.cast (ybc (T := 167)) rfl⟩, fun y hy => (by cases hy)⟩) (by decide) (fun hok hnd => ?_)
  iterate 6
    refine gx_q rfl ?_
    repeat' (refine ycf ?_;(first|(first|(apply ybm;(·(first|(first|(apply yad;(·rfl);(·exact yaz 1 rfl);(·exact k1))|(apply yad;(·rfl);(·exact yaz 0 rfl);(·exact k2))|(apply qv_slice_to;(·rfl);(·rfl);(·omega);(·omega)))|exact tq_));(·rfl);(·rfl);(·(first|exact fun _ s => s|exact fun _ s => Hd.sub s (Le.refl h) (fun r hr => List.mem_append_left _ hr)|exact fun _ s => Hd.sub s (Le.trans (Le.refl h) hle) (fun r hr => List.mem_append_right [] (List.mem_append_left _ hr)))))|refine ybl rfl rfl ?_|((fail_if_success (refine ybi rfl ?_));refine ybj rfl ?_ ?_<;>(intro ht;rw [ht];first|replace ht := oet_ ht|replace ht := oef_ ht|skip))|(refine tb_ ?_ ?_ ?_;(·(first|exact ybf|(refine .inl ?_;(first|exact fun _ s => s|exact fun _ s => Hd.sub s (Le.refl h) (fun r hr => List.mem_append_left _ hr)|exact fun _ s => Hd.sub s (Le.trans (Le.refl h) hle) (fun r hr => List.mem_append_right [] (List.mem_append_left _ hr))))|exact to_));(·intro _;(first|exact ybf|(refine .inl ?_;(first|exact fun _ s => s|exact fun _ s => Hd.sub s (Le.refl h) (fun r hr => List.mem_append_left _ hr)|exact fun _ s => Hd.sub s (Le.trans (Le.refl h) hle) (fun r hr => List.mem_append_right [] (List.mem_append_left _ hr))))|exact to_));intro _)|(first|(refine tqs_ ?_ ?_ ?_;(·(first|exact ybf|(refine .inl ?_;(first|exact fun _ s => s|exact fun _ s => Hd.sub s (Le.refl h) (fun r hr => List.mem_append_left _ hr)|exact fun _ s => Hd.sub s (Le.trans (Le.refl h) hle) (fun r hr => List.mem_append_right [] (List.mem_append_left _ hr))))|exact to_));(·(first|exact ybf|(refine .inl ?_;(first|exact fun _ s => s|exact fun _ s => Hd.sub s (Le.refl h) (fun r hr => List.mem_append_left _ hr)|exact fun _ s => Hd.sub s (Le.trans (Le.refl h) hle) (fun r hr => List.mem_append_right [] (List.mem_append_left _ hr))))|exact to_))))|(apply ybn;(·(first|(first|(apply yad;(·rfl);(·exact yaz 1 rfl);(·exact k1))|(apply yad;(·rfl);(·exact yaz 0 rfl);(·exact k2))|(apply qv_slice_to;(·rfl);(·rfl);(·omega);(·omega)))|exact tq_));(·rfl);(·rfl);(·rfl);(·(first|exact ybf|(refine .inl ?_;(first|exact fun _ s => s|exact fun _ s => Hd.sub s (Le.refl h) (fun r hr => List.mem_append_left _ hr)|exact fun _ s => Hd.sub s (Le.trans (Le.refl h) hle) (fun r hr => List.mem_append_right [] (List.mem_append_left _ hr))))|exact to_))))|refine ycg ?_))
    refine gx_putn ?_
  refine gx_step hok hnd rfl rfl (fun D w s => Hd.sub s (Le.refl h) (fun r hr => List.mem_append_left _ hr)) (fun D ys hD => ?_) _ _ hD
  (refine ycn (ycp Tryz.func78 rfl (by kernel_rfl) rfl) (T1) rfl rfl rfl ?_ ?_;(·(first|exact ybf|(refine .inl ?_;(first|exact fun _ s => s|exact fun _ s => Hd.sub s (Le.refl h) (fun r hr => List.mem_append_left _ hr)|exact fun _ s => Hd.sub s (Le.trans (Le.refl h) hle) (fun r hr => List.mem_append_right [] (List.mem_append_left _ hr))))|exact to_)))
  repeat' (refine ycf ?_;(first|(first|(apply ybm;(·(first|(first|(apply yad;(·rfl);(·exact yaz 1 rfl);(·exact k1))|(apply yad;(·rfl);(·exact yaz 0 rfl);(·exact k2))|(apply qv_slice_to;(·rfl);(·rfl);(·omega);(·omega)))|exact tq_));(·rfl);(·rfl);(·(first|exact fun _ s => s|exact fun _ s => Hd.sub s (Le.refl h) (fun r hr => List.mem_append_left _ hr)|exact fun _ s => Hd.sub s (Le.trans (Le.refl h) hle) (fun r hr => List.mem_append_right [] (List.mem_append_left _ hr)))))|refine ybl rfl rfl ?_|((fail_if_success (refine ybi rfl ?_));refine ybj rfl ?_ ?_<;>(intro ht;rw [ht];first|replace ht := oet_ ht|replace ht := oef_ ht|skip))|(refine tb_ ?_ ?_ ?_;(·(first|exact ybf|(refine .inl ?_;(first|exact fun _ s => s|exact fun _ s => Hd.sub s (Le.refl h) (fun r hr => List.mem_append_left _ hr)|exact fun _ s => Hd.sub s (Le.trans (Le.refl h) hle) (fun r hr => List.mem_append_right [] (List.mem_append_left _ hr))))|exact to_));(·intro _;(first|exact ybf|(refine .inl ?_;(first|exact fun _ s => s|exact fun _ s => Hd.sub s (Le.refl h) (fun r hr => List.mem_append_left _ hr)|exact fun _ s => Hd.sub s (Le.trans (Le.refl h) hle) (fun r hr => List.mem_append_right [] (List.mem_append_left _ hr))))|exact to_));intro _)|(first|(refine tqs_ ?_ ?_ ?_;(·(first|exact ybf|(refine .inl ?_;(first|exact fun _ s => s|exact fun _ s => Hd.sub s (Le.refl h) (fun r hr => List.mem_append_left _ hr)|exact fun _ s => Hd.sub s (Le.trans (Le.refl h) hle) (fun r hr => List.mem_append_right [] (List.mem_append_left _ hr))))|exact to_));(·(first|exact ybf|(refine .inl ?_;(first|exact fun _ s => s|exact fun _ s => Hd.sub s (Le.refl h) (fun r hr => List.mem_append_left _ hr)|exact fun _ s => Hd.sub s (Le.trans (Le.refl h) hle) (fun r hr => List.mem_append_right [] (List.mem_append_left _ hr))))|exact to_))))|(apply ybn;(·(first|(first|(apply yad;(·rfl);(·exact yaz 1 rfl);(·exact k1))|(apply yad;(·rfl);(·exact yaz 0 rfl);(·exact k2))|(apply qv_slice_to;(·rfl);(·rfl);(·omega);(·omega)))|exact tq_));(·rfl);(·rfl);(·rfl);(·(first|exact ybf|(refine .inl ?_;(first|exact fun _ s => s|exact fun _ s => Hd.sub s (Le.refl h) (fun r hr => List.mem_append_left _ hr)|exact fun _ s => Hd.sub s (Le.trans (Le.refl h) hle) (fun r hr => List.mem_append_right [] (List.mem_append_left _ hr))))|exact to_))))|refine ycg ?_))
  refine gx_putn ?_
  refine gx_end hok hnd rfl rfl (fun D w s => Hd.sub s (Le.refl h) (fun r hr => List.mem_append_left _ hr)) (fun D hD => ?_) _ _ hD
  obtain ⟨b11, rfl⟩ := one_f hD
  refine rx_to (F' := [(23, .agg (bcs t).toArray), (2, .slice ada a.length capa), (3, .slice ads se.length caps), (4, .pointer (some ⟨b4, 0, none⟩)), (5, .pointer (some ⟨b5, 0, none⟩)), (10, .int .i64 (n : Nat)), (11, .pointer (some ⟨b11, 0, none⟩))]) (L' := [Res.blk b5 (.cells (bcs nonce).toArray 143 (0, 0)), Res.blk b4 (.cells (bcs key).toArray 25 (0, 0)), Res.blk b11 (.cells (bcs (List.replicate 16 0)).toArray 167 (0, 0))]) ts_ rfl ?_
  repeat' (refine ycf ?_;(first|(first|(apply ybm;(·(first|(first|(apply yad;(·rfl);(·exact yaz 1 rfl);(·exact k1))|(apply yad;(·rfl);(·exact yaz 0 rfl);(·exact k2))|(apply qv_slice_to;(·rfl);(·rfl);(·omega);(·omega)))|exact tq_));(·rfl);(·rfl);(·(first|exact fun _ s => Hd.sub s (Le.refl h) (fun r hr => List.mem_append_left [_] hr))))|refine ybl rfl rfl ?_|((fail_if_success (refine ybi rfl ?_));refine ybj rfl ?_ ?_<;>(intro ht;rw [ht];first|replace ht := oet_ ht|replace ht := oef_ ht|skip))|(refine tb_ ?_ ?_ ?_;(·(first|exact ybf|(refine .inl ?_;(first|exact fun _ s => Hd.sub s (Le.refl h) (fun r hr => List.mem_append_left [_] hr)))|exact to_));(·intro _;(first|exact ybf|(refine .inl ?_;(first|exact fun _ s => Hd.sub s (Le.refl h) (fun r hr => List.mem_append_left [_] hr)))|exact to_));intro _)|(first|(refine ybg 2 rfl rfl rfl (by show (bcs t).toArray.size = 16;simpa using hot) (by show 0 + (bcs t).toArray.size ≤ 16;rw [List.size_toArray, hot];omega) (List.all_eq_true.2 (bcs_one t)) (ybh (by show (bcs t).length = 16;rw [hot])) rfl rfl ?_ ?_ ?_;(·(first|exact ybf|(refine .inl ?_;(first|exact fun _ s => Hd.sub s (Le.refl h) (fun r hr => List.mem_append_left [_] hr)))|exact to_));(·(first|exact ybf|(refine .inl ?_;(first|exact fun _ s => Hd.sub s (Le.refl h) (fun r hr => List.mem_append_left [_] hr)))|exact to_)))|(refine tqs_ ?_ ?_ ?_;(·(first|exact ybf|(refine .inl ?_;(first|exact fun _ s => Hd.sub s (Le.refl h) (fun r hr => List.mem_append_left [_] hr)))|exact to_));(·(first|exact ybf|(refine .inl ?_;(first|exact fun _ s => Hd.sub s (Le.refl h) (fun r hr => List.mem_append_left [_] hr)))|exact to_))))|(apply ybn;(·(first|(first|(apply yad;(·rfl);(·exact yaz 1 rfl);(·exact k1))|(apply yad;(·rfl);(·exact yaz 0 rfl);(·exact k2))|(apply qv_slice_to;(·rfl);(·rfl);(·omega);(·omega)))|exact tq_));(·rfl);(·rfl);(·rfl);(·(first|exact ybf|(refine .inl ?_;(first|exact fun _ s => Hd.sub s (Le.refl h) (fun r hr => List.mem_append_left [_] hr)))|exact to_))))|refine ycg ?_))
  repeat' (first|refine tw_ ?_|(refine ta_ ?_;intro _)|((fail_if_success (refine ybi rfl ?_));refine ybj rfl ?_ ?_<;>(intro ht;rw [ht];first|replace ht := oet_ ht|replace ht := oef_ ht|skip))|(refine ych ?_;first|(refine ybw rfl ?_ ?_<;>intro ht)|(refine ybx rfl ?_ ?_<;>intro ht)))
  refine cx_bview 2 rfl rfl fun h1 hle1 hK => ?_
  have hK : h1 b11 = some (.cells (bcs t).toArray 167 (0, 0)) := hK
  have st : Bs8 h1 (.slice (some ⟨b11, 0, none⟩) 16 16) t := by
    unfold Bs8
    rw [tl]
    exact ⟨by rw [hot], some ⟨b11, 0, none⟩, 16, rfl, Nat.le_refl _, .inr ⟨b11, 0, _, _, _, rfl, hK, fun j u hj => by simpa using hj⟩⟩
  have hd1 := hd.mono hle1
  have SM := bSame_sp _ _ t (se.drop n) h1 st hd1 ty yd (by omega) (by omega)
  refine cx_region_draw [] rfl (by kernel_rfl) ?_
  repeat' (refine ycf ?_;(first|(first|(apply ybm;(·(first|(first|exact tk_|(refine qv_slice_arr rfl)|(refine qv_slice_from rfl rfl (by omega)))|exact tq_));(·rfl);(·rfl);(·(exact fun _ s => Hd.sub s (Le.refl _) (fun r hr => by cases hr))))|refine ybl rfl rfl ?_|((fail_if_success (refine ybi rfl ?_));refine ybj rfl ?_ ?_<;>(intro ht;rw [ht];first|replace ht := oet_ ht|replace ht := oef_ ht|skip))|(refine tb_ ?_ ?_ ?_;(·(first|exact ybf|(refine .inl ?_;(exact fun _ s => Hd.sub s (Le.refl _) (fun r hr => by cases hr)))|exact to_));(·intro _;(first|exact ybf|(refine .inl ?_;(exact fun _ s => Hd.sub s (Le.refl _) (fun r hr => by cases hr)))|exact to_));intro _)|(first|(refine tqs_ ?_ ?_ ?_;(·(first|exact ybf|(refine .inl ?_;(exact fun _ s => Hd.sub s (Le.refl _) (fun r hr => by cases hr)))|exact to_));(·(first|exact ybf|(refine .inl ?_;(exact fun _ s => Hd.sub s (Le.refl _) (fun r hr => by cases hr)))|exact to_))))|(apply ybn;(·(first|(first|exact tk_|(refine qv_slice_arr rfl)|(refine qv_slice_from rfl rfl (by omega)))|exact tq_));(·rfl);(·rfl);(·rfl);(·(first|exact ybf|(refine .inl ?_;(exact fun _ s => Hd.sub s (Le.refl _) (fun r hr => by cases hr)))|exact to_))))|refine ycg ?_))
  (refine ycn (ycp Tryz.func96 rfl (by kernel_rfl) rfl) (SM) rfl rfl rfl ?_ ?_;(·(first|exact ybf|(refine .inl ?_;(exact fun _ s => Hd.sub s (Le.refl _) (fun r hr => by cases hr)))|exact to_)))
  repeat' (refine ycf ?_;(first|(first|(apply ybm;(·(first|(first|exact tk_|(refine qv_slice_arr rfl)|(refine qv_slice_from rfl rfl (by omega)))|exact tq_));(·rfl);(·rfl);(·(exact fun _ s => Hd.sub s (Le.refl _) (fun r hr => by cases hr))))|refine ybl rfl rfl ?_|((fail_if_success (refine ybi rfl ?_));refine ybj rfl ?_ ?_<;>(intro ht;rw [ht];first|replace ht := oet_ ht|replace ht := oef_ ht|skip))|(refine tb_ ?_ ?_ ?_;(·(first|exact ybf|(refine .inl ?_;(exact fun _ s => Hd.sub s (Le.refl _) (fun r hr => by cases hr)))|exact to_));(·intro _;(first|exact ybf|(refine .inl ?_;(exact fun _ s => Hd.sub s (Le.refl _) (fun r hr => by cases hr)))|exact to_));intro _)|(first|(refine tqs_ ?_ ?_ ?_;(·(first|exact ybf|(refine .inl ?_;(exact fun _ s => Hd.sub s (Le.refl _) (fun r hr => by cases hr)))|exact to_));(·(first|exact ybf|(refine .inl ?_;(exact fun _ s => Hd.sub s (Le.refl _) (fun r hr => by cases hr)))|exact to_))))|(apply ybn;(·(first|(first|exact tk_|(refine qv_slice_arr rfl)|(refine qv_slice_from rfl rfl (by omega)))|exact tq_));(·rfl);(·rfl);(·rfl);(·(first|exact ybf|(refine .inl ?_;(exact fun _ s => Hd.sub s (Le.refl _) (fun r hr => by cases hr)))|exact to_))))|refine ycg ?_))
  by_cases hte : t = se.drop n
  · rw [decide_eq_true hte, if_pos hte]
    repeat' (first|refine tw_ ?_|(refine ta_ ?_;intro _)|((fail_if_success (refine ybi rfl ?_));refine ybj rfl ?_ ?_<;>(intro ht;rw [ht];first|replace ht := oet_ ht|replace ht := oef_ ht|skip))|(refine ych ?_;first|(refine ybw rfl ?_ ?_<;>intro ht)|(refine ybx rfl ?_ ?_<;>intro ht)))
    have S1 := Stream_sp key 1 nonce _ (se.take n) hk hn hk32 hn12 (by omega) yt h1 (ht.mono hle1)
    refine cx_region_draw [Res.blk b5 (.cells (bcs nonce).toArray 143 (0, 0)), Res.blk b4 (.cells (bcs key).toArray 25 (0, 0))] rfl (by kernel_rfl) ?_
    repeat' (refine ycf ?_;(first|(first|(apply ybm;(·(first|(first|(apply yad;(·rfl);(·exact yaz 1 rfl);(·exact k1))|(apply yad;(·rfl);(·exact yaz 0 rfl);(·exact k2))|(apply qv_slice_to;(·rfl);(·rfl);(·omega);(·omega)))|exact tq_));(·rfl);(·rfl);(·(first|exact fun _ s => s|exact fun _ s => s.tl|exact fun _ s => Hd.sub s hle (fun r hr => List.mem_cons_of_mem _ hr))))|refine ybl rfl rfl ?_|((fail_if_success (refine ybi rfl ?_));refine ybj rfl ?_ ?_<;>(intro ht;rw [ht];first|replace ht := oet_ ht|replace ht := oef_ ht|skip))|(refine tb_ ?_ ?_ ?_;(·(first|exact ybf|(refine .inl ?_;(first|exact fun _ s => s|exact fun _ s => s.tl|exact fun _ s => Hd.sub s hle (fun r hr => List.mem_cons_of_mem _ hr)))|exact to_));(·intro _;(first|exact ybf|(refine .inl ?_;(first|exact fun _ s => s|exact fun _ s => s.tl|exact fun _ s => Hd.sub s hle (fun r hr => List.mem_cons_of_mem _ hr)))|exact to_));intro _)|(first|(refine tqs_ ?_ ?_ ?_;(·(first|exact ybf|(refine .inl ?_;(first|exact fun _ s => s|exact fun _ s => s.tl|exact fun _ s => Hd.sub s hle (fun r hr => List.mem_cons_of_mem _ hr)))|exact to_));(·(first|exact ybf|(refine .inl ?_;(first|exact fun _ s => s|exact fun _ s => s.tl|exact fun _ s => Hd.sub s hle (fun r hr => List.mem_cons_of_mem _ hr)))|exact to_))))|(apply ybn;(·(first|(first|(apply yad;(·rfl);(·exact yaz 1 rfl);(·exact k1))|(apply yad;(·rfl);(·exact yaz 0 rfl);(·exact k2))|(apply qv_slice_to;(·rfl);(·rfl);(·omega);(·omega)))|exact tq_));(·rfl);(·rfl);(·rfl);(·(first|exact ybf|(refine .inl ?_;(first|exact fun _ s => s|exact fun _ s => s.tl|exact fun _ s => Hd.sub s hle (fun r hr => List.mem_cons_of_mem _ hr)))|exact to_))))|refine ycg ?_))
    (refine yco (ycp Tryz.func75 rfl (by kernel_rfl) rfl) (S1) rfl rfl rfl ?_ ?_ ?_;(·(first|exact ybf|(refine .inl ?_;(first|exact fun _ s => s|exact fun _ s => s.tl|exact fun _ s => Hd.sub s hle (fun r hr => List.mem_cons_of_mem _ hr)))|exact to_));(·intro _ _ hle;(first|exact ybf|(refine .inl ?_;(first|exact fun _ s => s|exact fun _ s => s.tl|exact fun _ s => Hd.sub s hle (fun r hr => List.mem_cons_of_mem _ hr)))|exact to_));intro x px hle)
    refine rx_persist rfl fun h3 hle3 hv3 => ?_
    have hv3 : Bs8 h3 x (streamF key 1 nonce (se.take n)) := hv3
    repeat' (refine ycf ?_;(first|(first|(apply ybm;(·exact tq_);(·rfl);(·rfl);(·(first|exact fun _ s => Hd.sub s hle3 (fun r hr => hr))))|refine ybl rfl rfl ?_|((fail_if_success (refine ybi rfl ?_));refine ybj rfl ?_ ?_<;>(intro ht;rw [ht];first|replace ht := oet_ ht|replace ht := oef_ ht|skip))|(refine tb_ ?_ ?_ ?_;(·(first|exact ybf|(refine .inl ?_;(first|exact fun _ s => Hd.sub s hle3 (fun r hr => hr)))|exact to_));(·intro _;(first|exact ybf|(refine .inl ?_;(first|exact fun _ s => Hd.sub s hle3 (fun r hr => hr)))|exact to_));intro _)|(first|(refine tqs_ ?_ ?_ ?_;(·(first|exact ybf|(refine .inl ?_;(first|exact fun _ s => Hd.sub s hle3 (fun r hr => hr)))|exact to_));(·(first|exact ybf|(refine .inl ?_;(first|exact fun _ s => Hd.sub s hle3 (fun r hr => hr)))|exact to_))))|(apply ybn;(·exact tq_);(·rfl);(·rfl);(·rfl);(·(first|exact ybf|(refine .inl ?_;(first|exact fun _ s => Hd.sub s hle3 (fun r hr => hr)))|exact to_))))|refine ycg ?_))
    repeat' (first|refine tw_ ?_|(refine ta_ ?_;intro _)|((fail_if_success (refine ybi rfl ?_));refine ybj rfl ?_ ?_<;>(intro ht;rw [ht];first|replace ht := oet_ ht|replace ht := oef_ ht|skip))|(refine ych ?_;first|(refine ybw rfl ?_ ?_<;>intro ht)|(refine ybx rfl ?_ ?_<;>intro ht)))
    exact nx_ret2 rfl (rv_tmp rfl) (rv_tmp rfl) (fun w' s' => ⟨(h3, x), rfl, s'.nil, hv3⟩)
  · rw [decide_eq_false hte, if_neg hte]
    repeat' (first|refine tw_ ?_|(refine ta_ ?_;intro _)|((fail_if_success (refine ybi rfl ?_));refine ybj rfl ?_ ?_<;>(intro ht;rw [ht];first|replace ht := oet_ ht|replace ht := oef_ ht|skip))|(refine ych ?_;first|(refine ybw rfl ?_ ?_<;>intro ht)|(refine ybx rfl ?_ ?_<;>intro ht)))
    exact nx_ret2 rfl (rv_tmp rfl) (rv_tmp rfl) (fun w' s' => ⟨(h1, .slice none 0 0), rfl, s'.nil, Sc.nil h1 1 none 0⟩)
end Go.Proofs.YtaofgcahmfailaaGreatDoor
end

section
namespace Go.Proofs.YtaofgcahmfailaaGreatDoor
open Go Go.Ck
set_option maxHeartbeats 4000000
theorem VOpenR_sp (bv : Nat) (key : List Int) (bn bu bt : Nat) (ep c n : Int) (vw vs : Value) (wi se : List Int) (hk : Bytes key) (hk32 : key.length = 32) (hok : sealOk ep c n) (hsl : 16 ≤ se.length ∧ se.length ≤ 8192) (hwl : wi.length ≤ 400000) (yw : Bytes wi) (ys : Bytes se)
    (h : View) (hv : Vb h bv false key bn bu bt) (hw : Bs8 h vw wi) (hb : Bs8 h vs se) (hg : ShG h) (w : World) (s : St ⟨w, h, []⟩ h [] w) :
    Calls Tryz.prog 67 [.pointer (some ⟨bv, 0, none⟩), .int .i64 ep, .int .i64 c, .int .i64 n, vw, vs].toArray w fun e w' => ∃ x : View × Value, e = .returned (.tuple #[x.2, .int .i64 (match aeadO (sealK key ep) (nonceF c n) wi se with | some _ => 0 | none => 6)]) ∧
      St ⟨w, h, []⟩ x.1 [] w' ∧ Bs8 x.1 x.2 ((aeadO (sealK key ep) (nonceF c n) wi se).getD []) := by
  obtain ⟨_, adw, capw, rfl, hcapw, _⟩ := id hw
  obtain ⟨_, ads, caps, rfl, hcaps, _⟩ := id hb
  have R1 := vright_sp ep c n h
  rw [if_pos hok] at R1
  have K1 := vkeys_sp bv false key bn bu bt ep c n hk hk32 hok h hv hg
  have kl := sealK_len key ep
  have kb := sealK_by key ep
  have nl := nonceF_len c n
  have nb := nonceF_by c n
  generalize sealK key ep = kk at K1 kl kb ⊢
  generalize nonceF c n = nn at K1 nl nb ⊢
  have S1 := aOpen_sp _ _ kk nn wi se kb nb kl nl yw ys hwl (by omega) h hw hb
  have hok1 : (bcs kk).length = 32 := by rw [bcs_len, kl]
  have hon : (bcs nn).length = 12 := by rw [bcs_len, nl]
  refine calls_enter Tryz.func67 rfl Tryz.ntmps67 rfl s ?_
  repeat' (first|(refine ycf ?_;apply ybk;(·first|(first|exact tk_|(apply qv_eql_pnil<;>rfl)|(apply qv_nilCheck;rfl))|(apply yae;(·rfl);(·(first|exact hv.at hk32 (.inl ⟨rfl, rfl⟩)|exact hv.at hk32 (.inr (.inr (.inr ⟨rfl, rfl⟩)))))));(·rfl);(·rfl))|refine t1_ ?_|(refine ta_ ?_;intro _)|((fail_if_success (refine ybi rfl ?_));refine ybj rfl ?_ ?_<;>(intro ht;rw [ht];first|replace ht := oet_ ht|replace ht := oef_ ht|skip))|(refine ych ?_;first|(refine ybw rfl ?_ ?_<;>intro ht)|(refine ybx rfl ?_ ?_<;>intro ht)))
  (refine ycn (ycp Tryz.func58 rfl (by kernel_rfl) rfl) (R1) rfl rfl rfl ?_ ?_; (· (exact to_)))
  repeat' (first|(refine ycf ?_;apply ybk;(·first|(first|exact tk_|(apply qv_eql_pnil<;>rfl)|(apply qv_nilCheck;rfl))|(apply yae;(·rfl);(·(first|exact hv.at hk32 (.inl ⟨rfl, rfl⟩)|exact hv.at hk32 (.inr (.inr (.inr ⟨rfl, rfl⟩)))))));(·rfl);(·rfl))|refine t1_ ?_|(refine ta_ ?_;intro _)|((fail_if_success (refine ybi rfl ?_));refine ybj rfl ?_ ?_<;>(intro ht;rw [ht];first|replace ht := oet_ ht|replace ht := oef_ ht|skip))|(refine ych ?_;first|(refine ybw rfl ?_ ?_<;>intro ht)|(refine ybx rfl ?_ ?_<;>intro ht)))
  (refine ycn (ycp Tryz.func59 rfl (by kernel_rfl) rfl) (K1) rfl rfl rfl ?_ ?_; (· (exact to_)))
  repeat' (first|(refine ycf ?_;apply ybk;(·first|(first|exact tk_|(apply yad;(·rfl);(·exact yaz 1 rfl);(·exact hok1))|(apply yad;(·rfl);(·exact yaz 0 rfl);(·exact hon))));(·rfl);(·rfl))|(first|(refine ybg 1 rfl rfl rfl (by show (bcs kk).toArray.size = 32;simpa using hok1) (by show 0 + (bcs kk).toArray.size ≤ _;rw [List.size_toArray, hok1];exact nble rfl) (List.all_eq_true.2 (bcs_one kk)) (ybh (by show (bcs kk).length = _;rw [hok1];rfl)) rfl rfl ?_ ?_ ?_;(·(exact to_));(·(exact to_)))|(refine ybg 0 rfl rfl rfl (by show (bcs nn).toArray.size = 12;simpa using hon) (by show 0 + (bcs nn).toArray.size ≤ _;rw [List.size_toArray, hon];exact nble rfl) (List.all_eq_true.2 (bcs_one nn)) (ybh (by show (bcs nn).length = _;rw [hon];rfl)) rfl rfl ?_ ?_ ?_;(·(exact to_));(·(exact to_))))|refine t1_ ?_|(refine ta_ ?_;intro _)|((fail_if_success (refine ybi rfl ?_));refine ybj rfl ?_ ?_<;>(intro ht;rw [ht];first|replace ht := oet_ ht|replace ht := oef_ ht|skip))|(refine ych ?_;first|(refine ybw rfl ?_ ?_<;>intro ht)|(refine ybx rfl ?_ ?_<;>intro ht)))
  (refine yco (ycp Tryz.func83 rfl (by kernel_rfl) rfl) (S1) rfl rfl rfl ?_ ?_ ?_; (· (exact to_)); (· intro _ _ hle; (exact to_)); intro x px hle)
  obtain ⟨h2, v2⟩ := x
  dsimp only at px hle ⊢
  repeat' (first|(refine ycf ?_;apply ybk;(·first|exact tk_);(·rfl);(·rfl))|refine t1_ ?_|(refine ta_ ?_;intro _)|((fail_if_success (refine ybi rfl ?_));refine ybj rfl ?_ ?_<;>(intro ht;rw [ht];first|replace ht := oet_ ht|replace ht := oef_ ht|skip))|(refine ych ?_;first|(refine ybw rfl ?_ ?_<;>intro ht)|(refine ybx rfl ?_ ?_<;>intro ht)))
  exact nx_ret2 rfl (rv_tmp rfl) (rv_tmp rfl) (fun w' s' => ⟨(h2, v2), rfl, s'.nil, px⟩)
theorem openC_false : OpenC false := fun bv key bn bu bt N T nm ek se vn pv sv q hk hk32 he32 hN hNl hTl hnm hnl hok hsl h hT hv hsn hsp hss ye yp ys hg w s => by
  obtain ⟨_, adn, capn, rfl, hcapn, _⟩ := id hsn
  obtain ⟨_, adp, capp, rfl, hcapp, _⟩ := id hsp
  obtain ⟨_, ads, caps, rfl, hcaps, _⟩ := id hss
  have HR := eright_sp ek q _ _ se he32 h hsp hss
  have HN := name_sp _ nm h hsn
  have e1 : decide (q.ok ∧ 16 ≤ se.length ∧ se.length ≤ 8192) = true := by simpa using ⟨hok, hsl⟩
  have e2 : decide (1 ≤ nm.length ∧ nm.length ≤ 64) = true := by simpa using hnl
  have hbk : (blindR key nm).length = 32 := blindR_len key nm
  rw [e1] at HR
  rw [e2] at HN
  refine calls_enter Tryz.func46 rfl Tryz.ntmps46 rfl s ?_
  repeat' (first|(refine ycf ?_;apply ybk;(·first|(first|exact tk_|(apply qv_eql_pnil<;>rfl)|(apply qv_nilCheck;rfl)|(apply yad;(·rfl);(·exact yaz 0 rfl);(·exact envc_len he32))));(·rfl);(·rfl))|(refine ybg 0 rfl rfl rfl (by show (envc ek q _ _).toArray.size = 38;simpa using envc_len he32) (by show 0 + (envc ek q _ _).toArray.size ≤ _;rw [List.size_toArray, envc_len he32];exact nble rfl) (List.all_eq_true.2 (envc_one rfl rfl)) (ybh (by show (envc ek q _ _).length = _;rw [envc_len he32];rfl)) rfl rfl ?_ ?_ ?_;(·(exact to_));(·(exact to_)))|refine t1_ ?_|(refine ta_ ?_;intro _)|((fail_if_success (refine ybi rfl ?_));refine ybj rfl ?_ ?_<;>(intro ht;rw [ht];first|replace ht := oet_ ht|replace ht := oef_ ht|skip))|(refine ych ?_;first|(refine ybw rfl ?_ ?_<;>intro ht)|(refine ybx rfl ?_ ?_<;>intro ht)))
  (refine ycn (ycp Tryz.func34 rfl (by kernel_rfl) rfl) (HN) rfl rfl rfl ?_ ?_; (· (exact to_)))
  repeat' (first|(refine ycf ?_;apply ybk;(·first|(first|exact tk_|(apply qv_eql_pnil<;>rfl)|(apply qv_nilCheck;rfl)|(apply yad;(·rfl);(·exact yaz 0 rfl);(·exact envc_len he32))));(·rfl);(·rfl))|(refine ybg 0 rfl rfl rfl (by show (envc ek q _ _).toArray.size = 38;simpa using envc_len he32) (by show 0 + (envc ek q _ _).toArray.size ≤ _;rw [List.size_toArray, envc_len he32];exact nble rfl) (List.all_eq_true.2 (envc_one rfl rfl)) (ybh (by show (envc ek q _ _).length = _;rw [envc_len he32];rfl)) rfl rfl ?_ ?_ ?_;(·(exact to_));(·(exact to_)))|refine t1_ ?_|(refine ta_ ?_;intro _)|((fail_if_success (refine ybi rfl ?_));refine ybj rfl ?_ ?_<;>(intro ht;rw [ht];first|replace ht := oet_ ht|replace ht := oef_ ht|skip))|(refine ych ?_;first|(refine ybw rfl ?_ ?_<;>intro ht)|(refine ybx rfl ?_ ?_<;>intro ht)))
  (refine ycn (ycp Tryz.func42 rfl (by kernel_rfl) rfl) (HR) rfl rfl rfl ?_ ?_; (· (exact to_)))
  repeat' (first|(refine ycf ?_;apply ybk;(·first|(first|exact tk_|(apply qv_eql_pnil<;>rfl)|(apply qv_nilCheck;rfl)|(apply yad;(·rfl);(·exact yaz 0 rfl);(·exact envc_len he32))));(·rfl);(·rfl))|(refine ybg 0 rfl rfl rfl (by show (envc ek q _ _).toArray.size = 38;simpa using envc_len he32) (by show 0 + (envc ek q _ _).toArray.size ≤ _;rw [List.size_toArray, envc_len he32];exact nble rfl) (List.all_eq_true.2 (envc_one rfl rfl)) (ybh (by show (envc ek q _ _).length = _;rw [envc_len he32];rfl)) rfl rfl ?_ ?_ ?_;(·(exact to_));(·(exact to_)))|refine t1_ ?_|(refine ta_ ?_;intro _)|((fail_if_success (refine ybi rfl ?_));refine ybj rfl ?_ ?_<;>(intro ht;rw [ht];first|replace ht := oet_ ht|replace ht := oef_ ht|skip))|(refine ych ?_;first|(refine ybw rfl ?_ ?_<;>intro ht)|(refine ybx rfl ?_ ?_<;>intro ht)))
  (refine ycn (ycp Tryz.func37 rfl (by kernel_rfl) rfl) (BlindR_sp bv key bn bu bt _ nm hk hk32 hnm hnl h hv hsn (hg rfl)) rfl rfl rfl ?_ ?_; (· (exact to_)))
  generalize hbkk : blindR key nm = bk at hbk ⊢
  have hol : (bcs bk).length = 32 := by rw [bcs_len, hbk]
  by_cases hbe : bk = ek
  · have hd : (!decide (bk = ek)) = false := by simpa using hbe
    have hop : openX false key N T nm ek q se = (match aeadO (sealK key q.ep) (nonceF q.cl q.ct) (boundF ek q) se with | some p => valF p | none => ([], false, 6)) := by show openR key nm ek q se = _;unfold openR;rw [hbkk, if_pos hbe];cases aeadO (sealK key q.ep) (nonceF q.cl q.ct) (boundF ek q) se<;>rfl
    rw [hop]
    have hneq : ∀ {n : Nat} {F : List (Nat × Value)} {h : View} {L : List Res} {dst : Option Nat} {ty T' : Nat} {pos : String} {af : Array Edge} {gd : Option (Nat × Bool)} {x y : Operand}, ev F x = some (.agg (bcs bk).toArray) → ev F y = some (.agg (bcs ek).toArray) → QV Tryz.prog n F h L ⟨dst, .binOp .neq 43 x y T', ty, pos, af, gd⟩ (.bool false) := fun hx hy => by rw [← hd]; exact arr_neq hx hy hbk he32
    repeat' (first|(refine ycf ?_;apply ybk;(·first|(first|exact tk_|(refine hneq rfl rfl)|(apply yad;(·rfl);(·exact yaz 0 rfl);(·exact hol))|(apply yad;(·rfl);(·exact env_key (yaz 1 rfl));(·rw [bcs_len, he32]))|(apply yad;(·rfl);(·exact yaz 1 rfl);(·exact envc_len he32))));(·rfl);(·rfl))|(refine ybg 0 rfl rfl rfl (by show (bcs bk).toArray.size = 32;simpa using hol) (by show 0 + (bcs bk).toArray.size ≤ _;rw [List.size_toArray, hol];exact nble rfl) (List.all_eq_true.2 (bcs_one bk)) (ybh (by show (bcs bk).length = _;rw [hol];rfl)) rfl rfl ?_ ?_ ?_;(·(exact to_));(·(exact to_)))|refine t1_ ?_|(refine ta_ ?_;intro _)|((fail_if_success (refine ybi rfl ?_));refine ybj rfl ?_ ?_<;>(intro ht;rw [ht];first|replace ht := oet_ ht|replace ht := oef_ ht|skip))|(refine ych ?_;first|(refine ybw rfl ?_ ?_<;>intro ht)|(refine ybx rfl ?_ ?_<;>intro ht)))
    have hbl := boundF_len (q := q) he32
    (refine yco (ycp Tryz.func39 rfl (by kernel_rfl) rfl) (bound_sp ek q _ _ he32 hok rfl h hsp) rfl rfl rfl ?_ ?_ ?_; (· (exact to_)); (· intro _ _ hle; (exact to_)); intro x px hle)
    obtain ⟨bo, vo⟩ := x
    clear px hle
    repeat' (first|(refine ycf ?_;apply ybk;(·first|(exact tk_));(·rfl);(·rfl))|refine t1_ ?_|(refine ta_ ?_;intro _)|((fail_if_success (refine ybi rfl ?_));refine ybj rfl ?_ ?_<;>(intro ht;rw [ht];first|replace ht := oet_ ht|replace ht := oef_ ht|skip))|(refine ych ?_;first|(refine ybw rfl ?_ ?_<;>intro ht)|(refine ybx rfl ?_ ?_<;>intro ht)))
    (refine rx_call_2 (ycp Tryz.func40 rfl (by kernel_rfl) rfl) (Done_sp bo vo (boundF ek q) (by rw [hbl]; have := hok.2.2.2.2; omega) h) rfl rfl rfl ?_ ?_ ?_; (· (exact to_)); (· intro _ _ hle; (exact to_)); intro x px hle)
    refine rx_persistA (by intro z hz; simp only [doms, List.flatMap_cons, List.flatMap_nil, List.mem_append, Res.mp, List.mem_singleton] at hz ⊢; simp; rcases hz with hz | hz; (· simp_all); (· simp_all)) fun h2 hle2 hvw => ?_
    have hvw : Bs8 h2 x (boundF ek q) := hvw
    obtain ⟨_, adw, capw, rfl, hcapw, _⟩ := id hvw
    have hv2 := hv.mono hle2
    have hT2 := hT.mono hle2
    have hss2 := hss.mono hle2
    repeat' (first|(refine ycf ?_;apply ybk;(·first|(exact tk_)|(apply yae;(·rfl);(·(first|exact (env_head he32 (yaz 3 rfl)).cell (j := 0) rfl|exact (env_head he32 (yaz 3 rfl)).cell (j := 1) rfl|exact (env_head he32 (yaz 3 rfl)).cell (j := 2) rfl|exact env_seal he32 (yaz 3 rfl)))));(·rfl);(·rfl))|refine t1_ ?_|(refine ta_ ?_;intro _)|((fail_if_success (refine ybi rfl ?_));refine ybj rfl ?_ ?_<;>(intro ht;rw [ht];first|replace ht := oet_ ht|replace ht := oef_ ht|skip))|(refine ych ?_;first|(refine ybw rfl ?_ ?_<;>intro ht)|(refine ybx rfl ?_ ?_<;>intro ht)))
    have V1 := VOpenR_sp bv key bn bu bt q.ep q.cl q.ct _ _ (boundF ek q) se hk hk32 hok.sealk hsl (by rw [hbl]; have := hok.2.2.2.2; omega) (boundF_by ye yp) ys h2 hv2 hvw hss2 ((hg rfl).mono hle2)
    have yo : ∀ p, aeadO (sealK key q.ep) (nonceF q.cl q.ct) (boundF ek q) se = some p → Bytes p ∧ p.length ≤ 900000 := fun p hp => by
      unfold aeadO at hp
      split at hp
      · cases hp
        exact ⟨strmF_by _ _ _ _ _, by rw [streamF_len]; simp; omega⟩
      · cases hp
    generalize aeadO (sealK key q.ep) (nonceF q.cl q.ct) (boundF ek q) se = O at V1 yo ⊢
    (refine yco (ycp Tryz.func67 rfl (by kernel_rfl) rfl) (V1) rfl rfl rfl ?_ ?_ ?_; (· (exact to_)); (· intro _ _ hle; (exact to_)); intro x px hle)
    obtain ⟨h3, vo2⟩ := x
    dsimp only at px hle ⊢
    cases O with
    | none =>
      repeat' (first|(refine ycf ?_;apply ybk;(·first|(exact tk_));(·rfl);(·rfl))|refine t1_ ?_|(refine ta_ ?_;intro _)|((fail_if_success (refine ybi rfl ?_));refine ybj rfl ?_ ?_<;>(intro ht;rw [ht];first|replace ht := oet_ ht|replace ht := oef_ ht|skip))|(refine ych ?_;first|(refine ybw rfl ?_ ?_<;>intro ht)|(refine ybx rfl ?_ ?_<;>intro ht)))
      refine nx_ret3 rfl (rv_tmp rfl) (rv_tmp rfl) (rv_tmp rfl) (fun w' s' => ⟨(h3, .slice none 0 0), rfl, ?_, Sc.nil _ _ _ _⟩)
      exact s'.picks [4, 4]
    | some r =>
      obtain ⟨yr, lr⟩ := yo r rfl
      have hvo : Bs8 h3 vo2 r := px
      obtain ⟨_, ado, capo, rfl, hcapo, _⟩ := id hvo
      repeat' (first|(refine ycf ?_;apply ybk;(·first|(exact tk_));(·rfl);(·rfl))|refine t1_ ?_|(refine ta_ ?_;intro _)|((fail_if_success (refine ybi rfl ?_));refine ybj rfl ?_ ?_<;>(intro ht;rw [ht];first|replace ht := oet_ ht|replace ht := oef_ ht|skip))|(refine ych ?_;first|(refine ybw rfl ?_ ?_<;>intro ht)|(refine ybx rfl ?_ ?_<;>intro ht)))
      (refine yco (ycp Tryz.func68 rfl (by kernel_rfl) rfl) (value_sp _ r yr lr h3 hvo) rfl rfl rfl ?_ ?_ ?_; (· (exact to_)); (· intro _ _ hle; (exact to_)); intro x px hle)
      obtain ⟨h4, vr⟩ := x
      dsimp only at px ⊢
      repeat' (first|(refine ycf ?_;apply ybk;(·first|(exact tk_));(·rfl);(·rfl))|refine t1_ ?_|(refine ta_ ?_;intro _)|((fail_if_success (refine ybi rfl ?_));refine ybj rfl ?_ ?_<;>(intro ht;rw [ht];first|replace ht := oet_ ht|replace ht := oef_ ht|skip))|(refine ych ?_;first|(refine ybw rfl ?_ ?_<;>intro ht)|(refine ybx rfl ?_ ?_<;>intro ht)))
      refine nx_ret3 rfl (rv_tmp rfl) (rv_tmp rfl) (rv_tmp rfl) (fun w' s' => ⟨(h4, vr), rfl, ?_, px⟩)
      exact s'.picks [4, 4]
  · have hd : (!decide (bk = ek)) = true := by simpa using hbe
    have hop : openX false key N T nm ek q se = ([], false, 6) := by show openR key nm ek q se = _; unfold openR; rw [hbkk, if_neg hbe]
    rw [hop]
    have hneq : ∀ {n : Nat} {F : List (Nat × Value)} {h : View} {L : List Res} {dst : Option Nat} {ty T' : Nat} {pos : String} {af : Array Edge} {gd : Option (Nat × Bool)} {x y : Operand}, ev F x = some (.agg (bcs bk).toArray) → ev F y = some (.agg (bcs ek).toArray) → QV Tryz.prog n F h L ⟨dst, .binOp .neq 43 x y T', ty, pos, af, gd⟩ (.bool true) := fun hx hy => by rw [← hd]; exact arr_neq hx hy hbk he32
    repeat' (first|(refine ycf ?_;apply ybk;(·first|(first|exact tk_|(refine hneq rfl rfl)|(apply yad;(·rfl);(·exact yaz 0 rfl);(·exact hol))|(apply yad;(·rfl);(·exact env_key (yaz 1 rfl));(·rw [bcs_len, he32]))));(·rfl);(·rfl))|(refine ybg 0 rfl rfl rfl (by show (bcs bk).toArray.size = 32;simpa using hol) (by show 0 + (bcs bk).toArray.size ≤ _;rw [List.size_toArray, hol];exact nble rfl) (List.all_eq_true.2 (bcs_one bk)) (ybh (by show (bcs bk).length = _;rw [hol];rfl)) rfl rfl ?_ ?_ ?_;(·(exact to_));(·(exact to_)))|refine t1_ ?_|(refine ta_ ?_;intro _)|((fail_if_success (refine ybi rfl ?_));refine ybj rfl ?_ ?_<;>(intro ht;rw [ht];first|replace ht := oet_ ht|replace ht := oef_ ht|skip))|(refine ych ?_;first|(refine ybw rfl ?_ ?_<;>intro ht)|(refine ybx rfl ?_ ?_<;>intro ht)))
    refine nx_ret3 rfl (rv_tmp rfl) (rv_tmp rfl) (rv_tmp rfl) (fun w' s' => ⟨(h, .slice none 0 0), rfl, ?_, Sc.nil _ _ _ _⟩)
    exact s'.picks [2, 2]
end Go.Proofs.YtaofgcahmfailaaGreatDoor
end

section
namespace Go.Proofs.YtaofgcahmfailaaGreatDoor
open Go Go.Ck
set_option maxHeartbeats 1000000
theorem of8b (a b : Int) : BitVec.ofInt 8 (bx a b) = BitVec.ofInt 8 a ^^^ BitVec.ofInt 8 b := by
  unfold bx
  apply BitVec.eq_of_toNat_eq
  rw [BitVec.toNat_ofInt]
  have := (BitVec.ofInt 8 a ^^^ BitVec.ofInt 8 b).isLt
  omega
theorem bx_twice {a x : Int} (hx : 0 ≤ x ∧ x < 256) : bx a (bx a x) = x := by
  have h1 : bx a (bx a x) = ((BitVec.ofInt 8 a ^^^ BitVec.ofInt 8 (bx a x)).toNat : Int) := rfl
  rw [h1, of8b, ← BitVec.xor_assoc, BitVec.xor_self, BitVec.zero_xor, of8 hx]
def keyS (key : List Int) (n : W32) (nonce : List Int) (i : Nat) : Int := (blockF key (n + BitVec.ofNat 32 (i / 64)) nonce).getD (i % 64) 0
theorem strm_at {key : List Int} {n : W32} {nonce b : List Int} {i : Nat} (hi : i < b.length) : ∀ k, i < 64 * k → (strmF key n nonce b k)[i]? = some (bx (keyS key n nonce i) b[i])
  | 0, h => by omega
  | k + 1, h => by
    have hl := strmF_len key n nonce b k
    rw [strmF]
    by_cases hk : i < 64 * k
    · rw [List.getElem?_append_left (by omega)]
      exact strm_at hi k hk
    · rw [List.getElem?_append_right (by omega), hl]
      have e1 : min (64 * k) b.length = 64 * k := by omega
      have e2 : i / 64 = k := by omega
      have e3 : i % 64 = i - 64 * k := by omega
      have hbl := blockF_len key (n + BitVec.ofNat 32 k) nonce
      rw [e1]
      unfold mixB keyS
      rw [e2, e3, List.getElem?_zipWith, List.getElem?_drop, show 64 * k + (i - 64 * k) = i by omega, List.getElem?_eq_getElem hi, List.getElem?_eq_getElem (by omega : i - 64 * k < (blockF key (n + BitVec.ofNat 32 k) nonce).length)]
      rw [List.getD_eq_getElem?_getD, List.getElem?_eq_getElem (by omega : i - 64 * k < (blockF key (n + BitVec.ofNat 32 k) nonce).length)]
      rfl
theorem stream_at {key : List Int} {n : W32} {nonce b : List Int} {i : Nat} (hi : i < b.length) : (streamF key n nonce b)[i]? = some (bx (keyS key n nonce i) b[i]) := strm_at hi _ (by omega)
theorem stream_twice {key : List Int} {n : W32} {nonce b : List Int} (hb : Bytes b) : streamF key n nonce (streamF key n nonce b) = b := by
  have hl := streamF_len key n nonce b
  refine List.ext_getElem? fun i => ?_
  by_cases hi : i < b.length
  · have hi2 : i < (streamF key n nonce b).length := by omega
    rw [stream_at hi2, List.getElem?_eq_getElem hi]
    have e : (streamF key n nonce b)[i] = bx (keyS key n nonce i) b[i] := by
      have := stream_at (key := key) (n := n) (nonce := nonce) hi
      rw [List.getElem?_eq_getElem hi2] at this
      exact Option.some.inj this
    rw [e, bx_twice (hb _ (List.getElem_mem hi))]
  · rw [List.getElem?_eq_none (by rw [streamF_len, hl]; omega), List.getElem?_eq_none (by omega)]
theorem aeadO_S {key nonce wth b : List Int} (hb : Bytes b) : aeadO key nonce wth (aeadS key nonce wth b) = some b := by
  have hl := streamF_len key 1 nonce b
  have tl := aeadT_len key nonce wth (streamF key 1 nonce b)
  have h1 : (aeadS key nonce wth b).length - 16 = (streamF key 1 nonce b).length := by rw [aeadS_len]; omega
  have e1 : (aeadS key nonce wth b).take ((aeadS key nonce wth b).length - 16) = streamF key 1 nonce b := by
    rw [h1]; unfold aeadS; exact List.take_left
  have e2 : (aeadS key nonce wth b).drop ((aeadS key nonce wth b).length - 16) = aeadT key nonce wth (streamF key 1 nonce b) := by
    rw [h1]; unfold aeadS; exact List.drop_left
  unfold aeadO
  rw [e1, e2, if_pos rfl, stream_twice hb]
theorem openR_in {key nm : List Int} {q : Hdr} {b : List Int} (hb : Bytes b) : openR key nm (blindR key nm) q (sealR key q.ep q.cl q.ct (boundF (blindR key nm) q) b) = valF b := by
  unfold openR
  rw [if_pos rfl]
  unfold sealR
  rw [aeadO_S hb]
end Go.Proofs.YtaofgcahmfailaaGreatDoor
end

section
namespace Go.Proofs.YtaofgcahmfailaaGreatDoor
open Go Go.Ck
set_option maxHeartbeats 4000000
theorem tm_ {p : Prop} (h : p := by (first|exact List.mem_of_getElem? (i := 0) rfl | exact List.mem_of_getElem? (i := 1) rfl | exact List.mem_of_getElem? (i := 2) rfl | exact List.mem_of_getElem? (i := 3) rfl)) : p := h
end Go.Proofs.YtaofgcahmfailaaGreatDoor
end
