/-
  Part 17 of a proof: RdL CkFlA CkFlB RdM RdO RdP CkPiece RdR RdS RdT CiFa CjE SeA SeB SeC CkLendL SeD SeE.
  Conditions: each theorem states its own.
-/
import Derived.Test.YtgeepceieckooaaGreatDoorSeEPM16
set_option maxRecDepth 100000
set_option linter.unusedVariables false
set_option linter.unusedSimpArgs false
section
namespace Go.Proofs.YtgeepceieckooaaGreatDoor
open Go Go.Ck
set_option maxHeartbeats 4000000
theorem rBound_sp (ek : List Int) (q : Hdr) (se : List Int) (hq : q.ok) (he : ek.length ≤ 1000) (h : View) (w : World) (s : St ⟨w, h, []⟩ h [] w) :
    Calls Tryz.prog 34 [.agg (renv ek q se).toArray].toArray w fun e w' => e = .returned (.string (bstr (boundF ek q))) ∧ St ⟨w, h, []⟩ h [] w' := by
  obtain ⟨h1, h2, h3, h4, h5⟩ := hq
  have N1 := refNum_sp q.ep (by omega) (by omega) h
  have N2 := refNum_sp q.ct (by omega) (by omega) h
  have N3 := refNum_sp q.cl (by omega) (by omega) h
  have N4 := refNum_sp q.nu (by omega) (by omega) h
  have B1 := rBytes_sp q.past (by omega) h
  have c1 : bstr ek ++ bstr (num8 q.ep) = bstr (ek ++ num8 q.ep) := bstr_app _ _
  have z1 : (bstr ek).size + (bstr (num8 q.ep)).size < 1000000 := by rw [bstr_size, bstr_size, num8_len]; omega
  have c2 : bstr (ek ++ num8 q.ep) ++ bstr (num8 q.ct) = bstr (ek ++ num8 q.ep ++ num8 q.ct) := bstr_app _ _
  have z2 : (bstr (ek ++ num8 q.ep)).size + (bstr (num8 q.ct)).size < 1000000 := by rw [bstr_size, bstr_size, List.length_append, num8_len, num8_len]; omega
  have c3 : bstr (ek ++ num8 q.ep ++ num8 q.ct) ++ bstr (num8 q.cl) = bstr (ek ++ num8 q.ep ++ num8 q.ct ++ num8 q.cl) := bstr_app _ _
  have z3 : (bstr (ek ++ num8 q.ep ++ num8 q.ct)).size + (bstr (num8 q.cl)).size < 1000000 := by rw [bstr_size, bstr_size, List.length_append, List.length_append, num8_len, num8_len, num8_len]; omega
  have c4 : bstr (ek ++ num8 q.ep ++ num8 q.ct ++ num8 q.cl) ++ bstr (num8 q.nu) = bstr (ek ++ num8 q.ep ++ num8 q.ct ++ num8 q.cl ++ num8 q.nu) := bstr_app _ _
  have z4 : (bstr (ek ++ num8 q.ep ++ num8 q.ct ++ num8 q.cl)).size + (bstr (num8 q.nu)).size < 1000000 := by rw [bstr_size, bstr_size, List.length_append, List.length_append, List.length_append, num8_len, num8_len, num8_len, num8_len]; omega
  have c5 : bstr (ek ++ num8 q.ep ++ num8 q.ct ++ num8 q.cl ++ num8 q.nu) ++ bstr (num4 q.past.length ++ q.past) = bstr (boundF ek q) := by
    rw [bstr_app]
    congr 1
    unfold boundF
    simp only [List.append_assoc]
  have z5 : (bstr (ek ++ num8 q.ep ++ num8 q.ct ++ num8 q.cl ++ num8 q.nu)).size + (bstr (num4 q.past.length ++ q.past)).size < 1000000 := by
    rw [bstr_size, bstr_size]
    simp only [List.length_append, num8_len, num4_len]
    omega
  generalize boundF ek q = X at c5 ⊢
  refine calls_enter Tryz.func34 rfl Tryz.ntmps34 rfl s ?_
  repeat' (first|refine zw385 ?_|(refine ta_ ?_;intro _)|(refine zk0 ?_ ?_<;>intro ht)|fail)
  refine cx_region_draw' rfl (by kernel_rfl) ?_
  repeat' (first|refine zw386 ?_|(refine ycf ?_;(first|(refine zg0 ?_ ?_<;>intro ht)|(refine tb_ ?_ ?_ ?_;(·(exact to_));(·intro _;(exact to_));intro _)))|fail)
  (refine ycn (ycp Tryz.func73 rfl (by kernel_rfl) rfl) (N1) rfl rfl rfl ?_ ?_; (· (exact to_)))
  repeat' (first|refine zw386 ?_|(refine ycf ?_;(first|(refine zg0 ?_ ?_<;>intro ht)|(refine tb_ ?_ ?_ ?_;(·(exact to_));(·intro _;(exact to_));intro _)))|fail)
  (refine ycn (ycp Tryz.func73 rfl (by kernel_rfl) rfl) (N2) rfl rfl rfl ?_ ?_; (· (exact to_)))
  repeat' (first|refine zw386 ?_|(refine ycf ?_;(first|(refine zg0 ?_ ?_<;>intro ht)|(refine tb_ ?_ ?_ ?_;(·(exact to_));(·intro _;(exact to_));intro _)))|fail)
  (refine ycn (ycp Tryz.func73 rfl (by kernel_rfl) rfl) (N3) rfl rfl rfl ?_ ?_; (· (exact to_)))
  repeat' (first|refine zw386 ?_|(refine ycf ?_;(first|(refine zg0 ?_ ?_<;>intro ht)|(refine tb_ ?_ ?_ ?_;(·(exact to_));(·intro _;(exact to_));intro _)))|fail)
  (refine ycn (ycp Tryz.func73 rfl (by kernel_rfl) rfl) (N4) rfl rfl rfl ?_ ?_; (· (exact to_)))
  repeat' (first|refine zw386 ?_|(refine ycf ?_;(first|(refine zg0 ?_ ?_<;>intro ht)|(refine tb_ ?_ ?_ ?_;(·(exact to_));(·intro _;(exact to_));intro _)))|fail)
  (refine ycn (ycp Tryz.func52 rfl (by kernel_rfl) rfl) (B1) rfl rfl rfl ?_ ?_; (· (exact to_)))
  repeat' (first|refine zw386 ?_|(refine ycf ?_;(first|(refine zg0 ?_ ?_<;>intro ht)|(refine tb_ ?_ ?_ ?_;(·(exact to_));(·intro _;(exact to_));intro _)))|fail)
  repeat' (first|refine zw385 ?_|(refine ta_ ?_;intro _)|(refine zk0 ?_ ?_<;>intro ht)|fail)
  exact nx_ret1 rfl (rv_tmp rfl) (fun w' s' => ⟨rfl, s'.nil⟩)
theorem boundF_len' (ek : List Int) (q : Hdr) : (boundF ek q).length = ek.length + 36 + q.past.length := by
  unfold boundF
  simp only [List.length_append, num8_len, num4_len]
theorem rEWrite_sp (ek : List Int) (q : Hdr) (se : List Int) (hq : q.ok) (he : ek.length ≤ 1000) (hs : se.length ≤ 10000) (h : View) (w : World) (s : St ⟨w, h, []⟩ h [] w) :
    Calls Tryz.prog 19 [.agg (renv ek q se).toArray].toArray w fun e w' => e = .returned (.string (bstr (encE ek q se))) ∧ St ⟨w, h, []⟩ h [] w' := by
  have B1 := rBound_sp ek q se hq he h
  have B2 := rBytes_sp se (by omega) h
  have hbl := boundF_len' ek q
  have hq5 := hq.2.2.2.2
  have c1 : bstr (boundF ek q) ++ bstr (num4 se.length ++ se) = bstr (encE ek q se) := by
    rw [bstr_app]
    congr 1
    unfold encE
    simp only [List.append_assoc]
  have z1 : (bstr (boundF ek q)).size + (bstr (num4 se.length ++ se)).size < 1000000 := by
    rw [bstr_size, bstr_size, List.length_append, num4_len]
    omega
  generalize encE ek q se = X at c1 ⊢
  refine calls_enter Tryz.func19 rfl Tryz.ntmps19 rfl s ?_
  repeat' (first|refine zw387 ?_|(refine ta_ ?_;intro _)|(refine zk0 ?_ ?_<;>intro ht)|fail)
  refine cx_region_draw' rfl (by kernel_rfl) ?_
  repeat' (first|refine zw388 ?_|(refine ycf ?_;(first|(refine zg0 ?_ ?_<;>intro ht)|(refine tb_ ?_ ?_ ?_;(·(exact to_));(·intro _;(exact to_));intro _)))|fail)
  (refine ycn (ycp Tryz.func34 rfl (by kernel_rfl) rfl) (B1) rfl rfl rfl ?_ ?_; (· (exact to_)))
  repeat' (first|refine zw388 ?_|(refine ycf ?_;(first|(refine zg0 ?_ ?_<;>intro ht)|(refine tb_ ?_ ?_ ?_;(·(exact to_));(·intro _;(exact to_));intro _)))|fail)
  (refine ycn (ycp Tryz.func52 rfl (by kernel_rfl) rfl) (B2) rfl rfl rfl ?_ ?_; (· (exact to_)))
  repeat' (first|refine zw388 ?_|(refine ycf ?_;(first|(refine zg0 ?_ ?_<;>intro ht)|(refine tb_ ?_ ?_ ?_;(·(exact to_));(·intro _;(exact to_));intro _)))|fail)
  repeat' (first|refine zw387 ?_|(refine ta_ ?_;intro _)|(refine zk0 ?_ ?_<;>intro ht)|fail)
  exact nx_ret1 rfl (rv_tmp rfl) (fun w' s' => ⟨rfl, s'.nil⟩)
end Go.Proofs.YtgeepceieckooaaGreatDoor
end

section
namespace Go.Ck
open Go
structure Flg where
  i : Nat
  s : Nat
  p : Value → Res → Prop
abbrev Dng := List (Flg × (Value × Res))
section
variable {P : Program} {n : Nat} {K : Bs} {g : Tg} {Y : List Flg} {F F0 : List (Nat × Value)} {h h0 : View} {L : List Res} {Q : Exit → Act → World → Prop}
structure FlgOk (P : Program) (n : Nat) (K : Bs) (g : Tg) (F0 : List (Nat × Value)) (h0 : View) (y : Flg) : Prop where
  dst : (nthO g.ops.toList y.i).dst = some y.s
  okd : okd n (some y.s) = true
  gd : (nthO g.ops.toList y.i).guard = none
  lo : g.lo y.i = true
  wp : ∀ h L, Le h0 h → ∀ a w, Fr n F0 a → St K h L w → (nthO g.ops.toList y.i).wp P a w (fun a' w' => ∃ v R, a' = a.put (some y.s) v ∧ y.p v R ∧ St K h (R :: L) w') NoQ
structure Flts (P : Program) (n : Nat) (K : Bs) (g : Tg) (F0 : List (Nat × Value)) (h0 : View) (Y : List Flg) : Prop where
  ok : ∀ y ∈ Y, FlgOk P n K g F0 h0 y
  ns : (Y.map (·.s)).Nodup
  ni : (Y.map (·.i)).Nodup
end
end Go.Ck
end

section
namespace Go.Ck
open Go
section
variable {P : Program} {n : Nat} {K : Bs} {g : Tg} {F : List (Nat × Value)} {h : View} {L : List Res} {Q : Exit → Act → World → Prop}
end
end Go.Ck
namespace Go.Ck
open Go
section
variable {P : Program} {n : Nat} {K : Bs} {g : Tg} {F : List (Nat × Value)} {h : View} {L : List Res} {Q : Exit → Act → World → Prop} {l : List Nat} {dst : Option Nat} {v : Value} {D : Dng}
theorem cx_st {c : Code} {L' : List Res} (hs : ∀ w, St K h L w → St K h L' w) (hx : CX P n K c F h L' Q) : CX P n K c F h L Q := by
  unfold CX at *
  exact fun a w f s => hx a w f (hs w s)
theorem hd_m {h h' : View} {L LS : List Res} (hl : Le h h') (hm : ∀ r ∈ LS, r ∈ L) : ∀ w, Hd h' L w → Hd h LS w := fun w s => Hd.sub s hl hm
theorem all_m1 {A : Res} {L : List Res} (h : A ∈ L) : ∀ r ∈ [A], r ∈ L := fun r hr => by rw [List.mem_singleton.1 hr]; exact h
theorem all_m2 {A B : Res} {L : List Res} (h1 : A ∈ L) (h2 : B ∈ L) : ∀ r ∈ [A, B], r ∈ L := fun r hr => by
  rcases List.mem_cons.1 hr with rfl | hr
  · exact h1
  · rw [List.mem_singleton.1 hr]; exact h2
theorem tmh_ {p : Prop} (h : p := by (first|exact List.mem_of_getElem? (i := 0) rfl | exact List.mem_of_getElem? (i := 1) rfl | exact List.mem_of_getElem? (i := 2) rfl | exact List.mem_of_getElem? (i := 3) rfl | exact List.mem_of_getElem? (i := 4) rfl | exact List.mem_of_getElem? (i := 5) rfl | exact List.mem_of_getElem? (i := 6) rfl | exact List.mem_of_getElem? (i := 7) rfl)) : p := h
end
end Go.Ck
end

section
namespace Go.Proofs.YtgeepceieckooaaGreatDoor
open Go Go.Ck
set_option maxHeartbeats 4000000
theorem rESeal_no (vw : Value) (nm val : List Int) (ek : List Int) (q : Hdr) (se : List Int) (del : Bool) (hno : ¬ ((1 ≤ nm.length ∧ nm.length ≤ 64) ∧ q.ok)) (h : View) (w : World) (s : St ⟨w, h, []⟩ h [] w) :
    Calls Tryz.prog 10 [vw, .string (bstr nm), .agg (renv ek q se).toArray, .string (bstr val), .bool del].toArray w fun e w' => e = .returned (.tuple #[.agg (renv [] zHdr []).toArray, .int .i64 1]) ∧ St ⟨w, h, []⟩ h [] w' := by
  have N1 := rName_sp nm.length h
  have H1 := rhead_sp ek q se h
  refine calls_enter Tryz.func10 rfl Tryz.ntmps10 rfl s ?_
  repeat' (first|refine zw389 ?_|(refine ta_ ?_;intro _)|(refine zk0 ?_ ?_<;>intro ht)|fail)
  by_cases h1 : 1 ≤ nm.length ∧ nm.length ≤ 64
  · have h2 : ¬ q.ok := fun q2 => hno ⟨h1, q2⟩
    rw [decide_eq_true h1] at N1
    rw [decide_eq_false h2] at H1
    (refine ycn (ycp Tryz.func30 rfl (by kernel_rfl) rfl) (N1) rfl rfl rfl ?_ ?_; (· (exact to_)))
    repeat' (first|refine zw389 ?_|(refine ta_ ?_;intro _)|(refine zk0 ?_ ?_<;>intro ht)|fail)
    (refine ycn (ycp Tryz.func31 rfl (by kernel_rfl) rfl) (H1) rfl rfl rfl ?_ ?_; (· (exact to_)))
    repeat' (first|refine zw389 ?_|(refine ta_ ?_;intro _)|(refine zk0 ?_ ?_<;>intro ht)|fail)
    exact nx_ret2 rfl (rv_cells rfl (yaz 0 rfl) rfl) (rv_tmp rfl) (fun w' s' => ⟨rfl, s'.nil⟩)
  · rw [decide_eq_false h1] at N1
    (refine ycn (ycp Tryz.func30 rfl (by kernel_rfl) rfl) (N1) rfl rfl rfl ?_ ?_; (· (exact to_)))
    repeat' (first|refine zw389 ?_|(refine ta_ ?_;intro _)|(refine zk0 ?_ ?_<;>intro ht)|fail)
    exact nx_ret2 rfl (rv_cells rfl (yaz 0 rfl) rfl) (rv_tmp rfl) (fun w' s' => ⟨rfl, s'.nil⟩)
theorem rESeal_sp (bw : Nat) (idl : Bool) (key : List Int) (vn vl : Value) (N : List (List Int)) (D : List Sd) (nm val ek se : List Int) (q : Hdr) (del : Bool) (hk : Bytes key) (hk32 : key.length = 32) (hN : Names N) (hNl : N.length < 900000) (hDl : D.length < 900000)
    (hn : Bytes nm) (hnl : 1 ≤ nm.length ∧ nm.length ≤ 64) (hok : q.ok) (yp : Bytes q.past) (hnew : (q.cl, q.ct) ∉ usD D) (yv : Bytes val) (hvl : val.length ≤ 3999) (h : View) (w : World) (s : St ⟨w, h, doms [dvB bw idl key vn vl, rowN vn N, rowSd vl D]⟩ h [dvB bw idl key vn vl, rowN vn N, rowSd vl D] w) :
    Calls Tryz.prog 10 [.pointer (some ⟨bw, 0, none⟩), .string (bstr nm), .agg (renv ek q se).toArray, .string (bstr val), .bool del].toArray w fun e w' => ∃ y : Value × Value, e = .returned (.tuple #[.agg (renv (nameX idl key N nm) q (sealX idl key (usD D) q.ep q.cl q.ct (boundF (nameX idl key N nm) q) (padW (inF del val)))).toArray, .int .i64 0]) ∧
      St ⟨w, h, doms [dvB bw idl key vn vl, rowN vn N, rowSd vl D]⟩ h [dvB bw idl key y.1 y.2, rowN y.1 (addX idl N nm), rowSd y.2 (D ++ [⟨q.ep, q.cl, q.ct, boundF (nameX idl key N nm) q, padW (inF del val), sealX idl key (usD D) q.ep q.cl q.ct (boundF (nameX idl key N nm) q) (padW (inF del val))⟩])] w' ∧ True := by
  have N1 := rName_sp nm.length h
  have H1 := rhead_sp ek q se h
  rw [decide_eq_true hnl] at N1
  rw [decide_eq_true hok] at H1
  have l1 := nameX_len idl key N nm
  have y1 := nameX_by idl key N nm
  have DB := DocBlind_sp bw idl key vn vl N nm hk hk32 hN hNl hn hnl h
  generalize nameX idl key N nm = nk at l1 y1 DB ⊢
  have B1 := rBound_sp nk q se hok (by omega) h
  have bl := boundF_len' nk q
  have by1 : Bytes (boundF nk q) := boundF_by y1 yp
  have hp5 := hok.2.2.2.2
  have hsok : sealOk q.ep q.cl q.ct := ⟨⟨hok.2.2.1.1, hok.2.2.1.2, hok.2.1.1, hok.2.1.2⟩, hok.1.1, hok.1.2⟩
  have yi : Bytes (inF del val) := inF_by yv
  have hil : (inF del val).length ≤ 4000 := by
    cases del
    · show (1 :: val).length ≤ 4000; rw [List.length_cons]; omega
    · show ([0] : List Int).length ≤ 4000; decide
  have P1 := rPad_sp (inF del val) yi hil h
  have pl : (padW (inF del val)).length ≤ 5000 := by
    have := sizeF_bd (n := (inF del val).length) (by omega) (by omega)
    rw [padW_len hil]
    omega
  have py : Bytes (padW (inF del val)) := padW_by yi
  have DS := fun (v : Value) => DocSeal_sp bw idl key v vl D q.ep q.cl q.ct (boundF nk q) (padW (inF del val)) hk hk32 hDl hsok hnew (by omega) pl by1 py h
  generalize sealX idl key (usD D) q.ep q.cl q.ct (boundF nk q) (padW (inF del val)) = X at DS ⊢
  generalize padW (inF del val) = pw at P1 DS ⊢
  generalize boundF nk q = bd at B1 DS ⊢
  refine calls_enter Tryz.func10 rfl Tryz.ntmps10 rfl s ?_
  repeat' (first|refine zw390 ?_|(refine ta_ ?_;intro _)|(refine zk0 ?_ ?_<;>intro ht)|fail)
  (refine ycn (ycp Tryz.func30 rfl (by kernel_rfl) rfl) (N1) rfl rfl rfl ?_ ?_; (· (exact to_)))
  repeat' (first|refine zw390 ?_|(refine ta_ ?_;intro _)|(refine zk0 ?_ ?_<;>intro ht)|fail)
  (refine ycn (ycp Tryz.func31 rfl (by kernel_rfl) rfl) (H1) rfl rfl rfl ?_ ?_; (· (exact to_)))
  have c1 : (⟨#[1]⟩ : ByteArray) ++ bstr val = bstr (1 :: val) := by
    have : (⟨#[1]⟩ : ByteArray) = bstr [1] := rfl
    rw [this, bstr_app]
    rfl
  have z1 : (⟨#[1]⟩ : ByteArray).size + (bstr val).size < 1000000 := by
    rw [bstr_size]
    show 1 + val.length < 1000000
    omega
  cases del with
  | false =>
    have ei : inF false val = 1 :: val := rfl
    rw [ei] at P1
    repeat' (first|refine zw391 ?_|(refine ta_ ?_;intro _)|(refine zk0 ?_ ?_<;>intro ht)|fail)
    refine rx_call_l (ycp Tryz.func32 rfl (by kernel_rfl) rfl) (pick2 2 2 rfl rfl) DB rfl rfl rfl ybf (fun _ _ _ => ybf) ?_
    intro vn2 _ _
    repeat' (first|refine zw392 ?_|(refine ta_ ?_;intro _)|(refine zk0 ?_ ?_<;>intro ht)|fail)
    rename_i b7 b10 _ _
    refine cx_region_any [Res.blk b7 (.cells (renv nk q se).toArray 28 (0, 0))] [9, 11, 12] [] [0, 1, 2, 3, 4, 5, 6, 7, 8, 9, 10, 11, 12, 13, 14, 15, 16, 17] rfl (by kernel_rfl) ?_
    refine tx_run false [0, 1, 2, 3, 4, 5, 6, 7, 8, 10] [9, 11, 12, 13, 14, 15, 16, 17] (by kernel_rfl) ?_
    repeat' (first|refine zw393 ?_|(refine ycf ?_;(first|(refine zg0 ?_ ?_<;>intro ht)|(refine tb_ ?_ ?_ ?_;(·exact zc141);(·exact zc164);intro _)))|fail)
    refine nx_tq ?_
    refine tx_1 false 9 [11, 12, 13, 14, 15, 16, 17] (by kernel_rfl) ?_
    (refine ycn (ycp Tryz.func34 rfl (by kernel_rfl) rfl) (B1) rfl rfl rfl ?_ ?_;(·exact zc141))
    refine ycg ?_
    refine nx_tq ?_
    refine tx_1 false 11 [12, 13, 14, 15, 16, 17] (by kernel_rfl) ?_
    (refine ycn (ycp Tryz.func35 rfl (by kernel_rfl) rfl) (P1) rfl rfl rfl ?_ ?_;(·exact zc141))
    refine ycg ?_
    refine nx_tq ?_
    refine tx_1 false 12 [13, 14, 15, 16, 17] (by kernel_rfl) ?_
    refine rx_call_l (ycp Tryz.func33 rfl (by kernel_rfl) rfl) (pick2 0 3 rfl rfl) (DS vn2) rfl rfl rfl (.inl fun _ s => hd_m (Le.refl _) (all_m1 tmh_) _ s) (fun _ _ _ => .inl fun _ s => hd_m (Le.refl _) (all_m1 tmh_) _ s) ?_
    intro vl2 _ _
    refine ycg ?_
    refine nx_tq ?_
    refine tx_run false [13, 14, 15, 16, 17] [] (by kernel_rfl) ?_
    repeat' (first|refine zw394 ?_|(refine ycf ?_;(first|(refine zg0 ?_ ?_<;>intro ht)|(refine tb_ ?_ ?_ ?_;(·exact zc141);(·exact zc164);intro _)))|fail)
    refine nx_tq ?_
    refine tx_end ?_
    repeat' (first|refine zw395 ?_|(refine ta_ ?_;intro _)|(refine zk0 ?_ ?_<;>intro ht)|fail)
    exact nx_ret2 rfl (rv_cells rfl (yaz 3 rfl) rfl) (rv_tmp rfl) (fun w' s' => ⟨(vn2, vl2), rfl, s'.picks [0, 1, 0], trivial⟩)
  | true =>
    have ei : bstr (inF true val) = ⟨#[0]⟩ := rfl
    rw [ei] at P1
    repeat' (first|refine zw396 ?_|(refine ta_ ?_;intro _)|(refine zk0 ?_ ?_<;>intro ht)|fail)
    refine rx_call_l (ycp Tryz.func32 rfl (by kernel_rfl) rfl) (pick2 2 2 rfl rfl) DB rfl rfl rfl ybf (fun _ _ _ => ybf) ?_
    intro vn2 _ _
    repeat' (first|refine zw392 ?_|(refine ta_ ?_;intro _)|(refine zk0 ?_ ?_<;>intro ht)|fail)
    rename_i b7 b10 _ _
    refine cx_region_any [Res.blk b7 (.cells (renv nk q se).toArray 28 (0, 0))] [9, 11, 12] [] [0, 1, 2, 3, 4, 5, 6, 7, 8, 9, 10, 11, 12, 13, 14, 15, 16, 17] rfl (by kernel_rfl) ?_
    refine tx_run false [0, 1, 2, 3, 4, 5, 6, 7, 8, 10] [9, 11, 12, 13, 14, 15, 16, 17] (by kernel_rfl) ?_
    repeat' (first|refine zw393 ?_|(refine ycf ?_;(first|(refine zg0 ?_ ?_<;>intro ht)|(refine tb_ ?_ ?_ ?_;(·exact zc141);(·exact zc164);intro _)))|fail)
    refine nx_tq ?_
    refine tx_1 false 9 [11, 12, 13, 14, 15, 16, 17] (by kernel_rfl) ?_
    (refine ycn (ycp Tryz.func34 rfl (by kernel_rfl) rfl) (B1) rfl rfl rfl ?_ ?_;(·exact zc141))
    refine ycg ?_
    refine nx_tq ?_
    refine tx_1 false 11 [12, 13, 14, 15, 16, 17] (by kernel_rfl) ?_
    (refine ycn (ycp Tryz.func35 rfl (by kernel_rfl) rfl) (P1) rfl rfl rfl ?_ ?_;(·exact zc141))
    refine ycg ?_
    refine nx_tq ?_
    refine tx_1 false 12 [13, 14, 15, 16, 17] (by kernel_rfl) ?_
    refine rx_call_l (ycp Tryz.func33 rfl (by kernel_rfl) rfl) (pick2 0 3 rfl rfl) (DS vn2) rfl rfl rfl (.inl fun _ s => hd_m (Le.refl _) (all_m1 tmh_) _ s) (fun _ _ _ => .inl fun _ s => hd_m (Le.refl _) (all_m1 tmh_) _ s) ?_
    intro vl2 _ _
    refine ycg ?_
    refine nx_tq ?_
    refine tx_run false [13, 14, 15, 16, 17] [] (by kernel_rfl) ?_
    repeat' (first|refine zw394 ?_|(refine ycf ?_;(first|(refine zg0 ?_ ?_<;>intro ht)|(refine tb_ ?_ ?_ ?_;(·exact zc141);(·exact zc164);intro _)))|fail)
    refine nx_tq ?_
    refine tx_end ?_
    repeat' (first|refine zw395 ?_|(refine ta_ ?_;intro _)|(refine zk0 ?_ ?_<;>intro ht)|fail)
    exact nx_ret2 rfl (rv_cells rfl (yaz 3 rfl) rfl) (rv_tmp rfl) (fun w' s' => ⟨(vn2, vl2), rfl, s'.picks [0, 1, 0], trivial⟩)
end Go.Proofs.YtgeepceieckooaaGreatDoor
end

section
namespace Go.Proofs.YtgeepceieckooaaGreatDoor
open Go Go.Ck
set_option maxHeartbeats 4000000
theorem qv_eql_pnn {P : Program} {n : Nat} {F : List (Nat × Value)} {h : View} {L : List Res} {dst : Option Nat} {ty : Nat} {pos : String} {af : Array Edge} {gd : Option (Nat × Bool)} {T T' e : Nat} {x y : Operand} [tu : TyU P T (.pointer e)] (hx : ev F x = some (.pointer none)) (hy : ev F y = some (.pointer none)) :
    QV P n F h L ⟨dst, .binOp .eql T x y T', ty, pos, af, gd⟩ (.bool true) := by
  refine .mk fun a w f s => ?_
  have hp : P.underlying T = some (.pointer (P.pointee T)) := by
    have := tu.u
    simp [Program.pointee, this]
  have hg : (eqGuard .eql T x y (.pointer none) (.pointer none)).run P w = .ok () w := by simp [eqGuard]
  have he := run_equal_pointer_nil (P := P) (w := w) T none hp
  simp only [execOp, f.ev hx, f.ev hy, Sem.run_bind, hg, Result.andThen_ok, binOp, he]
  rfl
theorem ESeal_no (bv : Nat) (nm : List Int) (vn vv pv : Value) (q : Hdr) (del : Bool) (hno : ¬ ((1 ≤ nm.length ∧ nm.length ≤ 64) ∧ q.ok)) (h : View) (hsn : Bs8 h vn nm) (hsp : Bs8 h pv q.past) (w : World) (s : St ⟨w, h, []⟩ h [] w) :
    Calls Tryz.prog 9 [.pointer (some ⟨bv, 0, none⟩), vn, .agg (hdc q pv).toArray, vv, .bool del].toArray w fun e w' => e = .returned (.tuple #[.agg zEnv, .int .i64 1]) ∧ St ⟨w, h, []⟩ h [] w' := by
  obtain ⟨_, adn, capn, rfl, hcapn, _⟩ := id hsn
  obtain ⟨_, adp, capp, rfl, hcapp, _⟩ := id hsp
  have HN := name_sp _ nm h hsn
  have HR := hright_sp q _ h hsp
  refine calls_enter Tryz.func9 rfl Tryz.ntmps9 rfl s ?_
  by_cases h1 : 1 ≤ nm.length ∧ nm.length ≤ 64
  · have h2 : ¬ q.ok := fun q2 => hno ⟨h1, q2⟩
    rw [decide_eq_true h1] at HN
    rw [decide_eq_false h2] at HR
    repeat' (first|refine zw202 ?_|(refine ta_ ?_;intro _)|(refine zk0 ?_ ?_<;>intro ht)|fail)
    (refine ycn (ycp Tryz.func22 rfl (by kernel_rfl) rfl) (HN) rfl rfl rfl ?_ ?_; (· (exact to_)))
    repeat' (first|refine zw202 ?_|(refine ta_ ?_;intro _)|(refine zk0 ?_ ?_<;>intro ht)|fail)
    (refine ycn (ycp Tryz.func23 rfl (by kernel_rfl) rfl) (HR) rfl rfl rfl ?_ ?_; (· (exact to_)))
    repeat' (first|refine zw397 ?_|(refine ta_ ?_;intro _)|(refine zk0 ?_ ?_<;>intro ht)|fail)
    exact nx_ret2 rfl (rv_cells rfl (yaz 0 rfl) rfl) (rv_tmp rfl) (fun w' s' => ⟨rfl, s'.nil⟩)
  · rw [decide_eq_false h1] at HN
    repeat' (first|refine zw202 ?_|(refine ta_ ?_;intro _)|(refine zk0 ?_ ?_<;>intro ht)|fail)
    (refine ycn (ycp Tryz.func22 rfl (by kernel_rfl) rfl) (HN) rfl rfl rfl ?_ ?_; (· (exact to_)))
    repeat' (first|refine zw397 ?_|(refine ta_ ?_;intro _)|(refine zk0 ?_ ?_<;>intro ht)|fail)
    exact nx_ret2 rfl (rv_cells rfl (yaz 0 rfl) rfl) (rv_tmp rfl) (fun w' s' => ⟨rfl, s'.nil⟩)
theorem ESeal_nil (vn vv pv : Value) (q : Hdr) (del : Bool) (h : View) (hpv : ∃ ad m c, pv = .slice ad m c) (w : World) (s : St ⟨w, h, []⟩ h [] w) :
    Calls Tryz.prog 9 [.pointer none, vn, .agg (hdc q pv).toArray, vv, .bool del].toArray w fun e w' => e = .returned (.tuple #[.agg zEnv, .int .i64 1]) ∧ St ⟨w, h, []⟩ h [] w' := by
  obtain ⟨ad, m, c, rfl⟩ := hpv
  refine calls_enter Tryz.func9 rfl Tryz.ntmps9 rfl s ?_
  repeat' (first|refine zw398 ?_|(refine ta_ ?_;intro _)|(refine zk0 ?_ ?_<;>intro ht)|fail)
  exact nx_ret2 rfl (rv_cells rfl (yaz 0 rfl) rfl) (rv_tmp rfl) (fun w' s' => ⟨rfl, s'.nil⟩)
end Go.Proofs.YtgeepceieckooaaGreatDoor
end

section
namespace Go.Proofs.YtgeepceieckooaaGreatDoor
open Go Go.Ck
set_option maxHeartbeats 4000000
theorem qv_eqD {P : Program} {n : Nat} {F : List (Nat × Value)} {h : View} {L : List Res} {o : Oper} {v u : Value} (hq : QV P n F h L o v) (e : v = u) : QV P n F h L o u := e ▸ hq
def qOf (a : AskD) : Hdr := ⟨a.ep, a.ct, a.cl, a.nu, a.past.take 100⟩
theorem askHead_sp (a : AskD) (vn vp vv : Value) (h : View) (ha : a.by') (hp : Bs8 h vp a.past) (hvn : vn.oneCell' = true) (hvv : vv.oneCell' = true) (w : World) (s : St ⟨w, h, []⟩ h [] w) :
    Calls Tryz.prog 8 [.agg (askc a vn vp vv).toArray].toArray w fun e w' => ∃ v : Value, e = .returned (.tuple #[.agg (hdc (qOf a) v).toArray, .agg (renv [] (qOf a) []).toArray]) ∧ St ⟨w, h, []⟩ h [rowB v (a.past.take 100)] w' ∧ True := by
  have C1 := cut_sp vp a.past 100 (by omega) (by have := ha.2.2.2.2.1; omega) h hp
  have yt : Bytes (a.past.take 100) := bytes_take ha.2.1 100
  have tl : (a.past.take 100).length ≤ 100 := by rw [List.length_take]; omega
  obtain ⟨q, hq⟩ : ∃ q, q = qOf a := ⟨_, rfl⟩
  rw [← hq]
  have q1 : a.ep = q.ep := by rw [hq]; rfl
  have q2 : a.ct = q.ct := by rw [hq]; rfl
  have q5 : a.past.take 100 = q.past := by rw [hq]; rfl
  rw [q5] at C1 yt tl ⊢
  have qc3 : a.cl = q.cl := by rw [hq]; rfl
  have qc4 : a.nu = q.nu := by rw [hq]; rfl
  have eas : askc a vn vp vv = [vn, .int .i64 q.ep, .int .i64 q.ct, .int .i64 q.cl, .int .i64 q.nu, vp, vv, .bool a.del] := by rw [← q1, ← q2, ← qc3, ← qc4]; rfl
  rw [eas]
  clear eas q1 q2 q5 qc3 qc4
  obtain ⟨_, adp, capp, rfl, _, _⟩ := id hp
  refine calls_enter Tryz.func8 rfl Tryz.ntmps8 rfl s ?_
  repeat' (first|refine tw_ ?_|(refine ta_ ?_;intro _)|(refine zk0 ?_ ?_<;>intro ht)|fail)
  refine yco (ycp Tryz.func7 rfl (by kernel_rfl) rfl) C1 rfl rfl rfl ybf (fun _ _ _ => ybf) ?_
  intro v _ _
  repeat' (first|refine tw_ ?_|(refine ta_ ?_;intro _)|(refine zk0 ?_ ?_<;>intro ht)|fail)
  rename_i b1 b2 b3 _ _
  have hdot : ∀ (h' : View) (L : List Res), L[0]? = some (Res.blk b1 (.cells #[vn, .int .i64 q.ep, .int .i64 q.ct, .int .i64 q.cl, .int .i64 q.nu, .slice adp a.past.length capp, vv, .bool a.del] 26 (0, 0))) → Cells h' L ⟨b1, 0 + 3, none⟩ [.int .i64 q.cl, .int .i64 q.nu] := fun h' L hL => ((yaz 0 hL).drop 3).take 2
  refine cx_rowform 0 rfl ?_ ?_
  · rintro rfl e0 e1
    have ep0 : q.past = [] := List.eq_nil_of_length_eq_zero e0
    have hbz : Bs8 h (.slice none 0 0) [] := Sc.nil h 1 none 0
    have ebz : Value.string (bstr []) = .string (bstr q.past) := by rw [ep0]
    have hfh : fillL (fun i : Nat => ([(0, 1), (1, 1), (2, 2), (4, 1)] : List (Nat × Nat))[i]?) [.int .i64 0, .int .i64 0, .int .i64 0, .int .i64 0, .slice none 0 0] [(0, .int .i64 q.ep), (1, .int .i64 q.ct), (2, .agg #[.int .i64 q.cl, .int .i64 q.nu]), (3, .slice none 0 0)] = some (hdc q (.slice none 0 0)) := by kernel_rfl
    have hfe : fillL (fun i : Nat => ([(0, 1), (1, 1), (2, 1), (3, 2), (5, 1), (6, 1)] : List (Nat × Nat))[i]?) [.string ⟨#[]⟩, .int .i64 0, .int .i64 0, .int .i64 0, .int .i64 0, .string ⟨#[]⟩, .string ⟨#[]⟩] [(1, .int .i64 q.ep), (2, .int .i64 q.ct), (3, .agg #[.int .i64 q.cl, .int .i64 q.nu]), (4, .string (bstr q.past))] = some (renv [] q []) := by kernel_rfl
    refine cx_region_any [Res.blk b1 (.cells #[vn, .int .i64 q.ep, .int .i64 q.ct, .int .i64 q.cl, .int .i64 q.nu, .slice adp a.past.length capp, vv, .bool a.del] 26 (0, 0)), rowB (.slice none 0 0) q.past] [17, 18] [] [0, 1, 2, 3, 4, 5, 6, 7, 8, 9, 10, 11, 12, 13, 14, 15, 16, 17, 18] rfl (by kernel_rfl) ?_
    refine tx_run false [0, 1, 2, 3, 4, 5, 6, 7, 8, 9, 10, 11, 12, 13, 14, 15, 16] [17, 18] (by kernel_rfl) ?_
    repeat' (first|refine zw399 ?_|(refine ycf ?_;(first|(refine zg0 ?_ ?_<;>intro ht)|(refine tb_ ?_ ?_ ?_;(·exact zc143);(·exact zc165);intro _)))|fail)
    refine nx_tq ?_
    refine tx_1 false 17 [18] (by kernel_rfl) ?_
    refine ybg 2 rfl rfl rfl rfl (Nat.le_of_ble_eq_true rfl) rfl (ybh rfl) rfl rfl ?_ ?_ ?_
    · (first|exact ybf|(refine .inl ?_;(exact fun _ s => hd_m (Le.refl _) (all_m2 tmh_ tmh_) _ s))|exact to_)
    · (first|exact ybf|(refine .inl ?_;(exact fun _ s => hd_m (Le.refl _) (all_m2 tmh_ tmh_) _ s))|exact to_)
    refine ycg ?_
    refine nx_tq ?_
    refine tx_1 false 18 [] (by kernel_rfl) ?_
    refine ybg 1 rfl rfl rfl rfl (Nat.le_of_ble_eq_true rfl) rfl (ybh rfl) rfl rfl ?_ ?_ ?_
    · (first|exact ybf|(refine .inl ?_;(exact fun _ s => hd_m (Le.refl _) (all_m2 tmh_ tmh_) _ s))|exact to_)
    · (first|exact ybf|(refine .inl ?_;(exact fun _ s => hd_m (Le.refl _) (all_m2 tmh_ tmh_) _ s))|exact to_)
    refine ycg ?_
    refine nx_tq ?_
    refine tx_end ?_
    refine yby ?_
    refine ybr ?_
    exact nx_ret2 rfl (rv_cells rfl (yaz 2 rfl) rfl) (rv_cells rfl (yaz 1 rfl) rfl) (fun w' s' => ⟨_, rfl, s'.picks [0], trivial⟩)
  · rintro g cap rfl
    have hfh : fillL (fun i : Nat => ([(0, 1), (1, 1), (2, 2), (4, 1)] : List (Nat × Nat))[i]?) [.int .i64 0, .int .i64 0, .int .i64 0, .int .i64 0, .slice none 0 0] [(0, .int .i64 q.ep), (1, .int .i64 q.ct), (2, .agg #[.int .i64 q.cl, .int .i64 q.nu]), (3, .slice (some ⟨g, 0, none⟩) q.past.length cap)] = some (hdc q (.slice (some ⟨g, 0, none⟩) q.past.length cap)) := by kernel_rfl
    have hfe : fillL (fun i : Nat => ([(0, 1), (1, 1), (2, 1), (3, 2), (5, 1), (6, 1)] : List (Nat × Nat))[i]?) [.string ⟨#[]⟩, .int .i64 0, .int .i64 0, .int .i64 0, .int .i64 0, .string ⟨#[]⟩, .string ⟨#[]⟩] [(1, .int .i64 q.ep), (2, .int .i64 q.ct), (3, .agg #[.int .i64 q.cl, .int .i64 q.nu]), (4, .string (bstr q.past))] = some (renv [] q []) := by kernel_rfl
    refine cx_region_any [Res.blk b1 (.cells #[vn, .int .i64 q.ep, .int .i64 q.ct, .int .i64 q.cl, .int .i64 q.nu, .slice adp a.past.length capp, vv, .bool a.del] 26 (0, 0)), rowB (.slice (some ⟨g, 0, none⟩) q.past.length cap) q.past] [17, 18] [] [0, 1, 2, 3, 4, 5, 6, 7, 8, 9, 10, 11, 12, 13, 14, 15, 16, 17, 18] rfl (by kernel_rfl) ?_
    refine tx_run false [0, 1, 2, 3, 4, 5, 6, 7, 8, 9, 10, 11, 12, 13, 14, 15, 16] [17, 18] (by kernel_rfl) ?_
    repeat' (first|refine zw400 ?_|(refine ycf ?_;(first|(refine zg0 ?_ ?_<;>intro ht)|(refine tb_ ?_ ?_ ?_;(·exact zc143);(·exact zc165);intro _)))|fail)
    refine nx_tq ?_
    refine tx_1 false 17 [18] (by kernel_rfl) ?_
    refine ybg 2 rfl rfl rfl rfl (Nat.le_of_ble_eq_true rfl) rfl (ybh rfl) rfl rfl ?_ ?_ ?_
    · (first|exact ybf|(refine .inl ?_;(exact fun _ s => hd_m (Le.refl _) (all_m2 tmh_ tmh_) _ s))|exact to_)
    · (first|exact ybf|(refine .inl ?_;(exact fun _ s => hd_m (Le.refl _) (all_m2 tmh_ tmh_) _ s))|exact to_)
    refine ycg ?_
    refine nx_tq ?_
    refine tx_1 false 18 [] (by kernel_rfl) ?_
    refine ybg 1 rfl rfl rfl rfl (Nat.le_of_ble_eq_true rfl) rfl (ybh rfl) rfl rfl ?_ ?_ ?_
    · (first|exact ybf|(refine .inl ?_;(exact fun _ s => hd_m (Le.refl _) (all_m2 tmh_ tmh_) _ s))|exact to_)
    · (first|exact ybf|(refine .inl ?_;(exact fun _ s => hd_m (Le.refl _) (all_m2 tmh_ tmh_) _ s))|exact to_)
    refine ycg ?_
    refine nx_tq ?_
    refine tx_end ?_
    refine yby ?_
    refine ybr ?_
    exact nx_ret2 rfl (rv_cells rfl (yaz 2 rfl) rfl) (rv_cells rfl (yaz 1 rfl) rfl) (fun w' s' => ⟨_, rfl, s'.picks [0], trivial⟩)
end Go.Proofs.YtgeepceieckooaaGreatDoor
end

section
namespace Go.Ck
open Go
def cReg (id : Nat) : Code → Option Code
  | .region i o d => if Nat.beq i id then some (.region i o d) else none
  | .seq a b => match cReg id a with | some c => some c | none => cReg id b
  | .cond _ a b => match cReg id a with | some c => some c | none => cReg id b
  | .loop a => cReg id a
  | .block _ a => cReg id a
  | _ => none
def cGet : Option Code → Code
  | some c => c
  | none => .skip
section
variable {P : Program} {n : Nat} {K : Bs} {F F' : List (Nat × Value)} {h : View} {L L' : List Res} {Q : Exit → Act → World → Prop}
end
end Go.Ck
end

section
namespace Go.Proofs.YtgeepceieckooaaGreatDoor
open Go Go.Ck
set_option maxHeartbeats 4000000
def cDrop : Nat → Code → Code
  | 0, c => c
  | k + 1, .seq _ b => cDrop k b
  | _, _ => .skip
theorem sealsE_sp (h : View) (w : World) (s : St ⟨w, h, []⟩ h [] w) : Calls Tryz.prog 11 [].toArray w fun e w' => ∃ h' : View, e = .returned (.bool true) ∧ St ⟨w, h, []⟩ h' [] w' ∧ True := by
  have H := seals_sp h w s
  exact H.mono fun e w' he => by
    obtain ⟨h', h1, h2⟩ := he
    exact ⟨h', h1, h2, trivial⟩
theorem openT_true : OpenC true := fun bv key bn bu bt N T nm ek se vn pv sv q hk hk32 he32 hN hNl hTl hnm hnl hok hsl h hT hv hsn hsp hss ye yp ys hg w s =>
  EOpen_sp bv key bn bu bt N T nm ek se vn pv sv q hk hk32 he32 hN hNl hTl hnm hnl hok hsl h hT hv hsn hsp hss w s
end Go.Proofs.YtgeepceieckooaaGreatDoor
end

section
namespace Go.Proofs.YtgeepceieckooaaGreatDoor
open Go Go.Ck
set_option maxHeartbeats 4000000
structure BoxW (P : Program) (y : Code) (Q : Exit → Act → World → Prop) (a : Act) (w : World) : Prop where
  out : y.wp P Q a w
theorem cx_seq_box {P : Program} {n : Nat} {K : Bs} {F : List (Nat × Value)} {h : View} {L : List Res} {Q : Exit → Act → World → Prop} {x y : Code} (hx : CX P n K x F h L (Exit.then (BoxW P y Q) Q)) : CX P n K (.seq x y) F h L Q := by
  refine ybo ?_
  unfold CX at *
  intro a w f s
  refine wp_mono (hx a w f s) fun e a w hq => ?_
  cases e with
  | normal => exact (show BoxW P y Q a w from hq).out
  | _ => exact hq
theorem nx_box {P : Program} {n : Nat} {K : Bs} {F : List (Nat × Value)} {h : View} {L : List Res} {Q : Exit → Act → World → Prop} {y : Code} (hx : CX P n K y F h L Q) : NX n K .normal F h L (Exit.then (BoxW P y Q) Q) := by
  unfold CX at hx
  exact nx_then fun a w f s => ⟨hx a w f s⟩
end Go.Proofs.YtgeepceieckooaaGreatDoor
end

section
namespace Go.Proofs.YtgeepceieckooaaGreatDoor
open Go Go.Ck
set_option maxHeartbeats 4000000
theorem cx_fr {P : Program} {n : Nat} {K : Bs} {F F' : List (Nat × Value)} {h : View} {L L' : List Res} {Q : Exit → Act → World → Prop} {c : Code} (hF : Sub F' F) (hS : ∀ w, St K h L w → St K h L' w) (hx : CX P n K c F' h L' Q) : CX P n K c F h L Q := by
  unfold CX at *
  exact fun a w f s => hx a w (f.sub hF) (hS w s)
end Go.Proofs.YtgeepceieckooaaGreatDoor
end

section
namespace Go.Proofs.YtgeepceieckooaaGreatDoor
open Go Go.Ck
set_option maxHeartbeats 1000000
theorem addN_idx (N : List (List Int)) (nm : List Int) : (addN N nm).idxOf nm = N.idxOf nm := by
  unfold addN
  split
  · rfl
  · rename_i h
    rw [List.idxOf_append, if_neg h, List.idxOf_eq_length h]
    simp
theorem addX_name (idl : Bool) (key : List Int) (N : List (List Int)) (nm : List Int) : nameX idl key (addX idl N nm) nm = nameX idl key N nm := by
  cases idl
  · rfl
  · show blindF key (addN N nm) nm = blindF key N nm
    unfold blindF
    rw [addN_idx]
theorem nput {x : Int} {r : List Int} (h : 0 ≤ x ∧ x ≤ 4611686018427387904) : numC (num8 x ++ r, 0) 8 4611686018427387904 = (x, (r, 0)) :=
  numC_put h.1 h.2 (by have : (256 : Int) ^ 8 = 18446744073709551616 := by decide
                       rw [this]; omega)
theorem rdN4_put {a b c d : Int} {r : List Int} (ha : 0 ≤ a ∧ a ≤ 4611686018427387904) (hb : 0 ≤ b ∧ b ≤ 4611686018427387904) (hc : 0 ≤ c ∧ c ≤ 4611686018427387904) (hd : 0 ≤ d ∧ d ≤ 4611686018427387904) :
    rdN (num8 a ++ (num8 b ++ (num8 c ++ (num8 d ++ r))), 0) 4 = ([a, b, c, d], (r, 0)) := by
  simp only [rdN, nput ha, nput hb, nput hc, nput hd]
  rfl
theorem rd_enc {ek : List Int} {q : Hdr} {se : List Int} (hk : ek.length = 32) (hq : q.ok) (hs : 16 ≤ se.length ∧ se.length ≤ 8192) :
    rdOk (encE ek q se) ∧ (rdK (encE ek q se)).1 = ek ∧ rdQ (encE ek q se) = q ∧ (rdZ (encE ek q se)).1 = se := by
  obtain ⟨⟨e1, e2⟩, ⟨c1, c2⟩, ⟨d1, d2⟩, ⟨n1, n2⟩, pl⟩ := id hq
  have k0 : rdK (encE ek q se) = (ek, (num8 q.ep ++ (num8 q.ct ++ (num8 q.cl ++ (num8 q.nu ++ (num4 q.past.length ++ q.past ++ (num4 se.length ++ se ++ []))))), 0)) := by
    unfold rdK fixC encE boundF
    have e : ek ++ num8 q.ep ++ num8 q.ct ++ num8 q.cl ++ num8 q.nu ++ num4 ↑q.past.length ++ q.past ++ num4 ↑se.length ++ se = ek ++ (num8 q.ep ++ (num8 q.ct ++ (num8 q.cl ++ (num8 q.nu ++ (num4 q.past.length ++ q.past ++ (num4 se.length ++ se ++ [])))))) := by simp
    dsimp only
    rw [e, if_neg (by simp), if_neg (by rw [List.length_append]; omega), List.take_left' hk, List.drop_left' hk]
  have h0 : rdH (encE ek q se) = ([q.ep, q.ct, q.cl, q.nu], (num4 q.past.length ++ q.past ++ (num4 se.length ++ se ++ []), 0)) := by
    unfold rdH
    rw [k0]
    exact rdN4_put (by omega) (by omega) (by omega) (by omega)
  have p0 : rdP (encE ek q se) = (q.past, (num4 se.length ++ se ++ [], 0)) := by
    unfold rdP
    rw [h0]
    exact byC_putV (by omega) (by omega)
  have z0 : rdZ (encE ek q se) = (se, ([], 0)) := by
    unfold rdZ
    rw [p0]
    exact byC_putV (by omega) (by omega)
  have q0 : rdQ (encE ek q se) = q := by
    unfold rdQ
    rw [h0, p0]
    rfl
  refine ⟨⟨?_, ?_, ?_⟩, by rw [k0], q0, by rw [z0]⟩
  · rw [z0]; rfl
  · rw [q0]; exact hq
  · rw [z0]; exact hs
theorem openF_in {key : List Int} {N : List (List Int)} {T : Tab} {nm ek se : List Int} {q : Hdr} {x : Value × List Int} (h1 : blindF key N nm = ek) (h2 : mget T (q.cl, q.ct, q.ep, bstr (boundF ek q), bstr se) = some x) : openX true key N T nm ek q se = valF x.2 := by
  show openF key N T nm ek q se = _
  unfold openF
  rw [if_pos h1, h2]
end Go.Proofs.YtgeepceieckooaaGreatDoor
end

section
namespace Go.Proofs.YtgeepceieckooaaGreatDoor
open Go Go.Ck
set_option maxHeartbeats 1000000
theorem of8b (a b : Int) : BitVec.ofInt 8 (bx a b) = BitVec.ofInt 8 a ^^^ BitVec.ofInt 8 b := by
  unfold bx
  apply BitVec.eq_of_toNat_eq
  rw [BitVec.toNat_ofInt]
  have := (BitVec.ofInt 8 a ^^^ BitVec.ofInt 8 b).isLt
  omega
theorem bx_twice {a x : Int} (hx : 0 ≤ x ∧ x < 256) : bx a (bx a x) = x := by
  have h1 : bx a (bx a x) = ((BitVec.ofInt 8 a ^^^ BitVec.ofInt 8 (bx a x)).toNat : Int) := rfl
  rw [h1, of8b, ← BitVec.xor_assoc, BitVec.xor_self, BitVec.zero_xor, of8 hx]
def keyS (key : List Int) (n : W32) (nonce : List Int) (i : Nat) : Int := (blockF key (n + BitVec.ofNat 32 (i / 64)) nonce).getD (i % 64) 0
theorem strm_at {key : List Int} {n : W32} {nonce b : List Int} {i : Nat} (hi : i < b.length) : ∀ k, i < 64 * k → (strmF key n nonce b k)[i]? = some (bx (keyS key n nonce i) b[i])
  | 0, h => by omega
  | k + 1, h => by
    have hl := strmF_len key n nonce b k
    rw [strmF]
    by_cases hk : i < 64 * k
    · rw [List.getElem?_append_left (by omega)]
      exact strm_at hi k hk
    · rw [List.getElem?_append_right (by omega), hl]
      have e1 : min (64 * k) b.length = 64 * k := by omega
      have e2 : i / 64 = k := by omega
      have e3 : i % 64 = i - 64 * k := by omega
      have hbl := blockF_len key (n + BitVec.ofNat 32 k) nonce
      rw [e1]
      unfold mixB keyS
      rw [e2, e3, List.getElem?_zipWith, List.getElem?_drop, show 64 * k + (i - 64 * k) = i by omega, List.getElem?_eq_getElem hi, List.getElem?_eq_getElem (by omega : i - 64 * k < (blockF key (n + BitVec.ofNat 32 k) nonce).length)]
      rw [List.getD_eq_getElem?_getD, List.getElem?_eq_getElem (by omega : i - 64 * k < (blockF key (n + BitVec.ofNat 32 k) nonce).length)]
      rfl
theorem stream_at {key : List Int} {n : W32} {nonce b : List Int} {i : Nat} (hi : i < b.length) : (streamF key n nonce b)[i]? = some (bx (keyS key n nonce i) b[i]) := strm_at hi _ (by omega)
theorem stream_twice {key : List Int} {n : W32} {nonce b : List Int} (hb : Bytes b) : streamF key n nonce (streamF key n nonce b) = b := by
  have hl := streamF_len key n nonce b
  refine List.ext_getElem? fun i => ?_
  by_cases hi : i < b.length
  · have hi2 : i < (streamF key n nonce b).length := by omega
    rw [stream_at hi2, List.getElem?_eq_getElem hi]
    have e : (streamF key n nonce b)[i] = bx (keyS key n nonce i) b[i] := by
      have := stream_at (key := key) (n := n) (nonce := nonce) hi
      rw [List.getElem?_eq_getElem hi2] at this
      exact Option.some.inj this
    rw [e, bx_twice (hb _ (List.getElem_mem hi))]
  · rw [List.getElem?_eq_none (by rw [streamF_len, hl]; omega), List.getElem?_eq_none (by omega)]
theorem aeadO_S {key nonce wth b : List Int} (hb : Bytes b) : aeadO key nonce wth (aeadS key nonce wth b) = some b := by
  have hl := streamF_len key 1 nonce b
  have tl := aeadT_len key nonce wth (streamF key 1 nonce b)
  have h1 : (aeadS key nonce wth b).length - 16 = (streamF key 1 nonce b).length := by rw [aeadS_len]; omega
  have e1 : (aeadS key nonce wth b).take ((aeadS key nonce wth b).length - 16) = streamF key 1 nonce b := by
    rw [h1]; unfold aeadS; exact List.take_left
  have e2 : (aeadS key nonce wth b).drop ((aeadS key nonce wth b).length - 16) = aeadT key nonce wth (streamF key 1 nonce b) := by
    rw [h1]; unfold aeadS; exact List.drop_left
  unfold aeadO
  rw [e1, e2, if_pos rfl, stream_twice hb]
theorem openR_in {key nm : List Int} {q : Hdr} {b : List Int} (hb : Bytes b) : openR key nm (blindR key nm) q (sealR key q.ep q.cl q.ct (boundF (blindR key nm) q) b) = valF b := by
  unfold openR
  rw [if_pos rfl]
  unfold sealR
  rw [aeadO_S hb]
end Go.Proofs.YtgeepceieckooaaGreatDoor
end

section
namespace Go.Proofs.YtgeepceieckooaaGreatDoor
open Go Go.Ck
set_option maxHeartbeats 1000000
theorem open_sealed (idl : Bool) {key nm val : List Int} {q : Hdr} {del : Bool} {tv : Value} {nk X : List Int} (hv : Bytes val) (hl : val.length ≤ 3999) (hn : nk = nameX idl key [] nm) (hX : X = sealX idl key [] q.ep q.cl q.ct (boundF nk q) (padW (inF del val))) :
    openX idl key (addX idl [] nm) (tabX idl [] ((q.cl, q.ct, q.ep, bstr (boundF nk q), bstr X), tv, padW (inF del val))) nm nk q X = (if del then [] else val, del, 0) := by
  have hpb : Bytes (padW (inF del val)) := padW_by (inF_by hv)
  rw [← valF_pad (del := del) hv (fun _ => hl)]
  cases idl with
  | true =>
    refine openF_in (x := (tv, padW (inF del val))) ?_ ?_
    · rw [hn]
      exact addX_name true key [] nm
    · show (if _ = _ then _ else _) = _
      rw [if_pos rfl]
  | false =>
    show openR key nm nk q X = _
    have hn2 : nk = blindR key nm := hn
    have hX2 : X = sealR key q.ep q.cl q.ct (boundF nk q) (padW (inF del val)) := hX
    rw [hX2, hn2]
    exact openR_in hpb
end Go.Proofs.YtgeepceieckooaaGreatDoor
end

section
namespace Go.Proofs.YtgeepceieckooaaGreatDoor
open Go Go.Ck
set_option maxHeartbeats 4000000
theorem encE_byV {ek se : List Int} {q : Hdr} (ye : Bytes ek) (yp : Bytes q.past) (ys : Bytes se) : Bytes (encE ek q se) := by
  unfold encE
  exact cbytes_app (cbytes_app (boundF_by ye yp) (putLow_bytes' 4 _)) ys
theorem SE_end (w0 : World) (h0 : View) (idl : Bool) (key : List Int) (bv bn bu bt b5 b15 b17 : Nat) (vn va vp vv pv sv tv : Value) (a : AskD) (nm val nk X : List Int) (q : Hdr)
    (hk : Bytes key) (hk32 : key.length = 32) (hn : Bytes nm) (hnl : 1 ≤ nm.length ∧ nm.length ≤ 64) (hok : q.ok) (yp : Bytes q.past) (yval : Bytes val) (lval : val.length ≤ 300)
    (enk : nk = nameX idl key [] nm) (eX : X = sealX idl key [] q.ep q.cl q.ct (boundF nk q) (padW (inF a.del val)))
    (lnk : nk.length = 32) (ynk : Bytes nk) (yX : Bytes X) (lX : 16 ≤ X.length ∧ X.length ≤ 8192)
    (h : View) (hT : idl = true → Bs8 h tv (padW (inF a.del val))) (hv : Vb h bv idl key bn bu bt) (hsn : Bs8 h vn nm) (hsp : Bs8 h pv q.past) (hss : Bs8 h sv X) (hg : ShG h) :
    CX Tryz.prog 181 ⟨w0, h0, []⟩ (cDrop 11 (cGet Tryz.f5.body)) [(5, .pointer (some ⟨b5, 0, none⟩)), (7, .pointer (some ⟨bv, 0, none⟩)), (9, vn), (12, .string (bstr val)), (15, .pointer (some ⟨b15, 0, none⟩)), (17, .pointer (some ⟨b17, 0, none⟩))] h
      [Res.blk b5 (.cells (askc a va vp vv).toArray 26 (0, 0)), Res.blk b15 (.cells (envc nk q pv sv).toArray 41 (0, 0)), Res.blk b17 (.cells (renv nk q X).toArray 28 (0, 0)), nmR bn (addX idl [] nm),
        tbR bt (tabX idl [] ((q.cl, q.ct, q.ep, bstr (boundF nk q), bstr X), tv, padW (inF a.del val)))]
      (bodyPost Tryz.prog Tryz.f5 (fun e w' => ∃ h' : View, e = .returned (.bool true) ∧ St ⟨w0, h0, []⟩ h' [] w')) := by
  have HO : OpenC idl := by cases idl; (· exact openC_false); (· exact openT_true)
  have il : (inF a.del val).length ≤ 4000 := inF_len (fun _ => by omega)
  have pl2 : (padW (inF a.del val)).length ≤ 5000 := by
    have := sizeF_bd (n := (inF a.del val).length) (by omega) (by omega)
    rw [padW_len il]
    omega
  have py : Bytes (padW (inF a.del val)) := padW_by (inF_by yval)
  have ho := open_sealed idl (key := key) (nm := nm) (q := q) (tv := tv) yval (by omega) enk eX
  have hT2 : ∀ x ∈ tabX idl [] ((q.cl, q.ct, q.ep, bstr (boundF nk q), bstr X), tv, padW (inF a.del val)), idl = true ∧ x.2.1 = tv ∧ x.2.2 = padW (inF a.del val) := by
    intro x hx
    unfold tabX at hx
    split at hx
    · simp only [List.nil_append, List.mem_singleton] at hx
      rw [hx]
      exact ⟨by assumption, rfl, rfl⟩
    · cases hx
  have hN1 := addX_names (idl := idl) names_nil hn
  have hNl : (addX idl [] nm).length < 900000 := by
    have hNl := addX_len idl [] nm
    simp at hNl; omega
  have O1 := HO bv key bn bu bt (addX idl [] nm) (tabX idl [] ((q.cl, q.ct, q.ep, bstr (boundF nk q), bstr X), tv, padW (inF a.del val))) nm nk X vn pv sv q hk hk32 lnk hN1 hNl (fun x hx => by rw [(hT2 x hx).2.2]; exact ⟨by omega, py⟩) hn hnl hok lX h
    (fun x hx => by rw [(hT2 x hx).2.1, (hT2 x hx).2.2]; exact hT (hT2 x hx).1) hv hsn hsp hss ynk yp yX (fun _ => hg)
  rw [ho] at O1
  dsimp only at O1
  generalize tabX idl [] ((q.cl, q.ct, q.ep, bstr (boundF nk q), bstr X), tv, padW (inF a.del val)) = T1 at O1 ⊢
  generalize addX idl [] nm = N1 at O1 ⊢
  obtain ⟨adl, hdl⟩ : ∃ b, b = a.del := ⟨_, rfl⟩
  rw [← hdl] at O1
  have eas : askc a va vp vv = [va, .int .i64 a.ep, .int .i64 a.ct, .int .i64 a.cl, .int .i64 a.nu, vp, vv, .bool adl] := by rw [hdl]; rfl
  rw [eas]
  clear eas ho hT2 hT hN1 hNl eX enk hdl il pl2 py
  refine ybo ?_
  repeat' (first|refine zw401 ?_|(refine ta_ ?_;intro _)|(refine zk0 ?_ ?_<;>intro ht)|fail)
  refine rx_call_l (ycp Tryz.func12 rfl (by kernel_rfl) rfl) (pick2 3 3 rfl rfl) O1 rfl rfl rfl ybf (fun _ _ _ => ybf) ?_
  rintro ⟨h1, v1⟩ hv1 hle1
  dsimp only at hv1 hle1 ⊢
  have hp1 := hsp.mono hle1
  have hs1 := hss.mono hle1
  repeat' ((fail_if_success (refine ybo ?_));(first|refine zw183 ?_|(refine ta_ ?_;intro _)|(refine zk0 ?_ ?_<;>intro ht)|fail))
  refine ybo ?_
  refine cx_cut (X := Unit) (fun _ => [(5, .pointer (some ⟨b5, 0, none⟩)), (12, .string (bstr (if adl then [] else val))), (15, .pointer (some ⟨b15, 0, none⟩)), (17, .pointer (some ⟨b17, 0, none⟩)), (22, v1), (23, .bool adl), (24, .int .i64 0)]) (fun _ => h1) (fun _ => [Res.blk b5 (.cells #[va, .int .i64 a.ep, .int .i64 a.ct, .int .i64 a.cl, .int .i64 a.nu, vp, vv, .bool adl] 26 (0, 0)), Res.blk b15 (.cells (envc nk q pv sv).toArray 41 (0, 0)), Res.blk b17 (.cells (renv nk q X).toArray 28 (0, 0))]) (fun _ => True) ?_ ?_
  · cases adl with
    | true => repeat' (first|(refine ycf ?_;apply ybk;(·first|exact tk_);(·rfl);(·rfl))|refine t1_ ?_|(refine ta_ ?_;intro _)|(refine zk0 ?_ ?_<;>intro ht))
              exact nx_cut () trivial ts_ (fun _ s => s.picks [2, 2, 2])
    | false => repeat' (first|(refine ycf ?_;apply ybk;(·first|exact tk_);(·rfl);(·rfl))|refine t1_ ?_|(refine ta_ ?_;intro _)|(refine zk0 ?_ ?_<;>intro ht))
               exact nx_cut () trivial ts_ (fun _ s => s.picks [2, 2, 2])
  intro _ _
  generalize (if adl then [] else val) = z at hv1 ⊢
  refine yby ?_
  refine ybo ?_
  repeat' (first|refine zw401 ?_|(refine ta_ ?_;intro _)|(refine zk0 ?_ ?_<;>intro ht)|fail)
  (refine yco (ycp Tryz.func17 rfl (by kernel_rfl) rfl) (EWrite_sp nk q _ _ X lnk hok lX h1 hp1 hs1) rfl rfl rfl ?_ ?_ ?_; (· (exact to_)); (·exact zc148); intro x px hle)
  refine rx_persist rfl fun h2 hle2 hc2 => ?_
  have hc2 : Bs8 h2 x (encE nk q X) := hc2
  obtain ⟨cv, rfl⟩ : ∃ y, y = x := ⟨x, rfl⟩
  clear px hle
  obtain ⟨r1, r2, r3, r4⟩ := rd_enc lnk hok lX
  have yE := encE_byV ynk yp yX
  have lE : (encE nk q X).length ≤ 140737488355328 := by
    have := boundF_len (q := q) lnk
    have := hok.2.2.2.2
    simp only [encE, List.length_append, num4_len]
    omega
  have RD := ERead_sp cv (encE nk q X) yE lE h2 hc2
  repeat' (first|refine zw183 ?_|(refine ta_ ?_;intro _)|(refine zk0 ?_ ?_<;>intro ht)|fail)
  (refine yco (ycp Tryz.func15 rfl (by kernel_rfl) rfl) (RD) rfl rfl rfl ?_ ?_ ?_; (· (exact to_)); (·exact zc148); intro x px hle)
  obtain ⟨h3, pd, sd⟩ := x
  have hle3 : Le h2 h3 := hle
  clear hle
  dsimp only at px ⊢
  rw [if_pos r1, if_pos r1, r2, r3]
  rw [r3, r4] at px
  obtain ⟨hpd, hsd⟩ := px r1
  clear px RD
  obtain ⟨_, adp, capp, rfl, _, _⟩ := id hpd
  obtain ⟨_, ads, caps, rfl, _, _⟩ := id hsd
  have hp3 := (hp1.mono hle2).mono hle3
  have hs3 := (hs1.mono hle2).mono hle3
  have hc3 := hc2.mono hle3
  have hv3 := (hv1.mono hle2).mono hle3
  clear r1 r2 r3 r4
  repeat' ((fail_if_success (refine ybo ?_));(first|refine zw402 ?_|(refine ta_ ?_;intro _)|(refine zk0 ?_ ?_<;>intro ht)|fail))
  refine ybo ?_
  refine cx_region_draw' rfl (by kernel_rfl) ?_
  repeat' (first|refine zw403 ?_|(refine ycf ?_;(first|(refine zg0 ?_ ?_<;>intro ht)|(refine tb_ ?_ ?_ ?_;(·(exact to_));(·intro _;(exact to_));intro _)))|fail)
  (refine ycn (ycp Tryz.func18 rfl (by kernel_rfl) rfl) (efrom_sp nk q _ _ X lnk h3 hp3 hs3) rfl rfl rfl ?_ ?_; (· (exact to_)))
  repeat' (first|refine zw403 ?_|(refine ycf ?_;(first|(refine zg0 ?_ ?_<;>intro ht)|(refine tb_ ?_ ?_ ?_;(·(exact to_));(·intro _;(exact to_));intro _)))|fail)
  (refine ycn (ycp Tryz.func19 rfl (by kernel_rfl) rfl) (rEWrite_sp nk q X hok (by omega) (by omega) h3) rfl rfl rfl ?_ ?_; (· (exact to_)))
  repeat' (first|refine zw403 ?_|(refine ycf ?_;(first|(refine zg0 ?_ ?_<;>intro ht)|(refine tb_ ?_ ?_ ?_;(·(exact to_));(·intro _;(exact to_));intro _)))|fail)
  (refine ycn (ycp Tryz.func18 rfl (by kernel_rfl) rfl) (efrom_sp nk q _ _ X lnk h3 hpd hsd) rfl rfl rfl ?_ ?_; (· (exact to_)))
  repeat' (first|refine zw403 ?_|(refine ycf ?_;(first|(refine zg0 ?_ ?_<;>intro ht)|(refine tb_ ?_ ?_ ?_;(·(exact to_));(·intro _;(exact to_));intro _)))|fail)
  repeat' (first|refine zw183 ?_|(refine ta_ ?_;intro _)|(refine zk0 ?_ ?_<;>intro ht)|fail)
  exact nx_ret1 rfl (rv_tmp rfl) (fun w' s' => ⟨h3, rfl, s'.nil⟩)
end Go.Proofs.YtgeepceieckooaaGreatDoor
end

section
namespace Go.Proofs.YtgeepceieckooaaGreatDoor
open Go Go.Ck
set_option maxHeartbeats 4000000
theorem SE_loop (w0 : World) (h0 : View) (Q : Exit → Act → World → Prop) (R1 R2 R3 R4 R5 : Res) (v5 v7 v9 v12 v15 v17 pv : Value) (b13 : Nat) (q : Hdr) (yp : Bytes q.past) (pl : q.past.length ≤ 1000000) (h : View) (hpv : ∃ ad cap, pv = .slice ad q.past.length cap)
    (hA : CX Tryz.prog 181 ⟨w0, h0, []⟩ (cDrop 11 (cGet Tryz.f5.body)) [(5, v5), (7, v7), (9, v9), (12, v12), (15, v15), (17, v17)] h [R1, R2, R3, R4, R5] Q) :
    CX Tryz.prog 181 ⟨w0, h0, []⟩ (cDrop 10 (cGet Tryz.f5.body)) [(5, v5), (7, v7), (9, v9), (12, v12), (13, .pointer (some ⟨b13, 0, none⟩)), (15, v15), (17, v17)] h
      [Res.blk b13 (.cells (hdc q pv).toArray 36 (0, 0)), rowB pv q.past, R1, R2, R3, R4, R5] Q := by
  obtain ⟨adp, capp, rfl⟩ := hpv
  refine cx_seq_box ?_
  repeat' (first|refine zw183 ?_|(refine ta_ ?_;intro _)|(refine zk0 ?_ ?_<;>intro ht)|fail)
  refine cx_loop (X := Nat × List Int) (fun y => [(5, v5), (7, v7), (9, v9), (12, v12), (13, .pointer (some ⟨b13, 0, none⟩)), (15, v15), (17, v17), (21, .int .i64 (y.1 : Nat))]) (fun _ => h) (fun y => [Res.blk b13 (.cells (hdc q (.slice adp q.past.length capp)).toArray 36 (0, 0)), Res.row 5 1 (.slice adp q.past.length capp) q.past.length (bcs y.2), R1, R2, R3, R4, R5]) (fun y => y.1 ≤ q.past.length ∧ y.2.length = q.past.length ∧ Bytes y.2) (fun y => q.past.length - y.1) (0, q.past) ⟨Nat.zero_le _, rfl, yp⟩ ts_ (fun _ s => s) ?_
  rintro ⟨i, l⟩ ⟨hi, hl, hy⟩
  dsimp only at hi hl hy ⊢
  by_cases hil : i < q.past.length
  · --exact tk_:= exact tk_
    refine cx_rowform 1 rfl (fun _ h1 _ => (by omega)) ?_
    rintro g cap he
    cases he
    have hb : 0 ≤ l.getD i 0 ∧ l.getD i 0 < 256 := by
      rw [List.getD_eq_getElem?_getD, List.getElem?_eq_getElem (by omega)]
      exact hy _ (List.getElem_mem _)
    generalize hx0 : l.getD i 0 = x0 at hb
    repeat' (first|refine zw404 ?_|(refine ta_ ?_;intro _)|(refine zk0 ?_ ?_<;>intro ht)|fail)
    refine nx_round (i + 1, l.set i (bx x0 1)) ⟨by show i + 1 ≤ _; omega, by simpa using hl, fun z hz => ?_⟩ (by show q.past.length - (i + 1) < q.past.length - i; omega) ts_ (fun _ s => s)
    rcases List.mem_or_eq_of_mem_set hz with hz | rfl
    · exact hy z hz
    · exact bx_by x0 1
  · skip
    repeat' (first|refine zw183 ?_|(refine ta_ ?_;intro _)|(refine zk0 ?_ ?_<;>intro ht)|fail)
    refine nx_box ?_
    exact cx_fr ts_ (fun _ s => s.picks [2, 2, 2, 2, 2]) hA
end Go.Proofs.YtgeepceieckooaaGreatDoor
end

section
namespace Go.Ck
open Go
section
variable {P : Program} {n : Nat} {K : Bs} {F : List (Nat × Value)} {h : View} {L : List Res} {Q : Exit → Act → World → Prop}
theorem row_viewL {e : TypeId} {sz m : Nat} {v : Value} {xs : List Value} {w : World} {Li Lr : List Res} (s : St K h (Li ++ Res.row e sz v m xs :: Lr) w) : ∃ h', Le h h' ∧ Sc h' sz v m xs ∧ St ⟨w, h', doms Li⟩ h' Li w := by
  have hr : Res.row e sz v m xs ∈ Li ++ Res.row e sz v m xs :: Lr := List.mem_append_right _ (List.mem_cons_self ..)
  have ho : w.ownsRow 0 e sz v m xs := s.hd.own _ hr
  have nd := s.nd
  rw [doms_append] at nd
  obtain ⟨n1, _, n3⟩ := List.nodup_append.1 nd
  have s0 : St ⟨w, h, doms Li⟩ h Li w := St.enter (Lr := Res.row e sz v m xs :: Lr) s
  rcases ho.2 with ⟨rfl, h0⟩ | ⟨g, cap, cur, rfl, _, hg, hn, hm, hs, ht⟩
  · subst h0
    have hx : xs = [] := List.eq_nil_of_length_eq_zero (by rw [ho.1]; simp)
    subst hx
    exact ⟨h, Le.refl h, Sc.nil h sz none 0, s0⟩
  · have hgd : g ∈ (Res.row e sz (.slice (some ⟨g, 0, none⟩) m cap) m xs).dom := by simp [Res.row, Value.ownBlock]
    have hb0 : h g = none := s.dis g (mem_doms.2 ⟨_, hr, hgd⟩)
    have hgn : g ∉ doms Li := fun hgi => n3 g hgi g (by rw [doms_cons]; exact List.mem_append_left _ hgd) rfl
    refine ⟨addV h g (.cells cur e (0, 0)), Le.addV hb0, ⟨ho.1, some ⟨g, 0, none⟩, cap, rfl, hn, .inr ⟨g, 0, cur, e, (0, 0), rfl, addV_same, fun j u hj => ?_⟩⟩,
      St.start ⟨fun b o hb => ?_, s0.hd.own⟩ n1 (fun b hb => ?_)⟩
    · rw [← ht, List.getElem?_take] at hj
      split at hj
      · simpa using hj
      · cases hj
    · unfold addV at hb
      split at hb
      · rename_i e; subst e; cases hb; exact hg
      · exact s.hd.view b o hb
    · unfold addV
      rw [if_neg (fun (e' : b = g) => hgn (e' ▸ hb))]
      exact s0.dis b hb
theorem st_lowerL {h h' : View} {w w' : World} {A : List Nat} {Lo : List Res} (hle : Le h h') (s : St ⟨w, h', A⟩ h' Lo w') : St ⟨w, h, A⟩ h Lo w' :=
  ⟨s.os, s.tape, s.output, s.drawn, s.size, s.keep, ⟨fun b o hb => s.hd.view b o (hle b o hb), s.hd.own⟩, s.nd, s.src, Le.refl h, fun _ _ hb => hb, fun b hb => by
    have := s.dis b hb
    cases hx : h b with
    | none => rfl
    | some o => rw [hle b o hx] at this; cases this⟩
theorem rx_call_lendl {g : Rg} {i : Nat} {dst : Option Nat} {op : Op} {ty : Nat} {pos : String} {af : Array Edge} {gd : Option (Nat × Bool)} {r : List (Nat × Oper)} {fn : FuncId} {args : Array Value} {X : Type} {u : X → Value} {LL : X → List Res} {e : TypeId} {sz m : Nat} {v : Value} {xs : List Value} {Li Lr : List Res} (hc : CallOf P n F ⟨dst, op, ty, pos, af, gd⟩ fn args)
    (hp : L.Perm (Li ++ Res.row e sz v m xs :: Lr))
    (hsp : ∀ h', Le h h' → Sc h' sz v m xs → ∀ w, St ⟨w, h', doms Li⟩ h' Li w → Calls P fn args w fun e w' => ∃ x, e = .returned (u x) ∧ St ⟨w, h', doms Li⟩ h' (LL x) w' ∧ True)
    (hw : wantedF g.ops F ⟨dst, op, ty, pos, af, gd⟩ = some true) (hd : okd n dst = true) (hl : g.lo i = true) (h1 : Owe g i h L) (h2 : ∀ x, Owe g i h (LL x ++ Res.row e sz v m xs :: Lr))
    (hx : ∀ x, RX P n K g r (putF dst (u x) F) h (LL x ++ Res.row e sz v m xs :: Lr) Q) : RX P n K g ((i, ⟨dst, op, ty, pos, af, gd⟩) :: r) F h L Q := by
  unfold RX at *
  unfold CallOf at hc
  exact fun a w f s => .inr (.inr ⟨wantedF_ok f hw, hl, h1.imp (fun k => k w s.hd) id, by
    unfold Oper.wp
    rw [hc a w f]
    have s1 : St K h (Li ++ Res.row e sz v m xs :: Lr) w := s.perm hp
    obtain ⟨h', hle, hsc, s0⟩ := row_viewL s1
    refine (hsp h' hle hsc w s0).mono fun e w' he => ?_
    obtain ⟨x, rfl, st, _⟩ := he
    have s' := St.leave (Li := Li) (Lr := Res.row _ sz v m xs :: Lr) s1 (st_lowerL hle st)
    exact ⟨(h2 x).imp (fun k => k _ s'.hd) id, hx x _ _ (f.put hd _) s'⟩⟩)
end
end Go.Ck
end

section
namespace Go.Proofs.YtgeepceieckooaaGreatDoor
open Go Go.Ck
set_option maxHeartbeats 4000000
theorem SE_ok (w0 : World) (h0 : View) (idl : Bool) (key : List Int) (bv bn bu bt bw b5 b13 b14 : Nat) (vn vl va vp vv pv : Value) (a : AskD) (nm val : List Int) (q : Hdr) (h : View)
    (hk : Bytes key) (hk32 : key.length = 32) (hn : Bytes nm) (hnl : 1 ≤ nm.length ∧ nm.length ≤ 64) (hok : q.ok) (yp : Bytes q.past) (yval : Bytes val) (lval : val.length ≤ 300)
    (hpv : ∃ ad cap, pv = .slice ad q.past.length cap) (hsn : Bs8 h vn nm) (hsl : Bs8 h vl val) (hv : Vb h bv idl key bn bu bt) (hg : ShG h) :
    CX Tryz.prog 181 ⟨w0, h0, []⟩ (cDrop 5 (cGet Tryz.f5.body)) [(5, .pointer (some ⟨b5, 0, none⟩)), (7, .pointer (some ⟨bv, 0, none⟩)), (8, .pointer (some ⟨bw, 0, none⟩)), (9, vn), (10, vl), (11, .string (bstr nm)), (12, .string (bstr val)), (13, .pointer (some ⟨b13, 0, none⟩)), (14, .pointer (some ⟨b14, 0, none⟩))] h
      [Res.blk b5 (.cells (askc a va vp vv).toArray 26 (0, 0)), Res.blk b13 (.cells (hdc q pv).toArray 36 (0, 0)), Res.blk b14 (.cells (renv [] q []).toArray 28 (0, 0)), rowB pv q.past, dvB bw idl key (.slice none 0 0) (.slice none 0 0), nmR bn [], usR bu [], tbR bt []]
      (bodyPost Tryz.prog Tryz.f5 (fun e w' => ∃ h' : View, e = .returned (.bool true) ∧ St ⟨w0, h0, []⟩ h' [] w')) := by
  obtain ⟨adp, capp, rfl⟩ := hpv
  obtain ⟨_, adn, capn, rfl, _, _⟩ := id hsn
  obtain ⟨_, adl, capl, rfl, _, _⟩ := id hsl
  have E1 := fun h' (hle : Le h h') (hsc : Bs8 h' (.slice adp q.past.length capp) q.past) => ESealO_sp idl bv key bn bu bt [] [] [] nm val _ _ _ q a.del hk hk32 names_nil (by simp) (by simp) held_nil hn hnl hok (by simp) yval (fun _ => by omega) h' (hv.mono hle) (hsn.mono hle) (hsl.mono hle) hsc yp (hg.mono hle)
  have E2 := fun h => rESeal_sp bw idl key (.slice none 0 0) (.slice none 0 0) [] [] nm val [] [] q a.del hk hk32 names_nil (by simp) (by simp) hn hnl hok yp (by simp [usD]) yval (by omega) h
  rw [show usD [] = [] from rfl] at E2
  have lnk := nameX_len idl key [] nm
  have ynk := nameX_by idl key [] nm
  have il : (inF a.del val).length ≤ 4000 := inF_len (fun _ => by omega)
  have pl2 : 0 < (padW (inF a.del val)).length ∧ (padW (inF a.del val)).length ≤ 5000 := by
    have := sizeF_bd (n := (inF a.del val).length) (by omega) (by omega)
    rw [padW_len il]
    omega
  have lX := sealX_len idl key [] q.ep q.cl q.ct (boundF (nameX idl key [] nm) q) (padW (inF a.del val))
  have yX : Bytes (sealX idl key [] q.ep q.cl q.ct (boundF (nameX idl key [] nm) q) (padW (inF a.del val))) := by
    cases idl
    · exact aeadS_by _ _ _ _
    · exact drawF_by _ _ _ _
  have hEnd := fun (h : View) b15 b17 va' vp' vv' pv' sv' tv' => SE_end w0 h0 idl key bv bn bu bt b5 b15 b17 (.slice adn nm.length capn) va' vp' vv' pv' sv' tv' a nm val _ _ q hk hk32 hn hnl hok yp yval lval rfl rfl lnk ynk yX ⟨by omega, by omega⟩ h
  generalize nameX idl key [] nm = nk at E1 E2 hEnd lnk
  generalize sealX idl key [] q.ep q.cl q.ct (boundF nk q) (padW (inF a.del val)) = X at E1 E2 hEnd
  generalize boundF nk q = bd at E1 E2 hEnd
  generalize padW (inF a.del val) = pw at E1 E2 hEnd
  generalize addX idl [] nm = N1 at E1 E2 hEnd
  clear lX yX ynk
  refine ybo ?_
  repeat' (first|refine zw405 ?_|(refine ta_ ?_;intro _)|(refine zk0 ?_ ?_<;>intro ht)|fail)
  refine rx_call_lendl (Li := [nmR bn [], usR bu [], tbR bt []]) (ycp Tryz.func9 rfl (by kernel_rfl) rfl) ((pick3 5 5 5 rfl rfl rfl).trans (List.Perm.append_left _ (perm_at (k := 3) rfl))) E1 rfl rfl rfl ybf (fun _ => ybf) ?_
  rintro ⟨v1, v2, v3⟩
  dsimp only
  refine rx_rowsl 0 rfl fun a1 c1 e1 => ?_
  subst e1
  refine rx_rowsl 1 rfl fun a2 c2 e2 => ?_
  subst e2
  repeat' (first|refine zw406 ?_|(refine ta_ ?_;intro _)|(refine zk0 ?_ ?_<;>intro ht)|fail)
  refine rx_row 9 1 ?_
  refine rx_row 124 6 ?_
  refine rx_call_l (ycp Tryz.func10 rfl (by kernel_rfl) rfl) (pick3 13 1 0 rfl rfl rfl) (E2 h) rfl rfl rfl ybf (fun _ _ _ => ybf) ?_
  rintro ⟨vN2, vL2⟩ _ _
  dsimp only
  have E3 := ESeal_nil (.slice adn nm.length capn) (.slice adl val.length capl) (.slice adp q.past.length capp) q false h ⟨_, _, _, rfl⟩
  repeat' (first|refine zw407 ?_|(refine ta_ ?_;intro _)|(refine zk0 ?_ ?_<;>intro ht)|fail)
  (refine ycn (ycp Tryz.func9 rfl (by kernel_rfl) rfl) (E3) rfl rfl rfl ?_ ?_; (· (exact to_)))
  repeat' ((fail_if_success (refine ybo ?_));(first|refine zw407 ?_|(refine ta_ ?_;intro _)|(refine zk0 ?_ ?_<;>intro ht)|fail))
  refine ybo ?_
  refine ybo ?_
  rename_i b15 _ _ b17 b19
  refine cx_st (L' := [rowB (.slice a1 q.past.length c1) q.past, rowB (.slice a2 X.length c2) X, rowB v3 (if idl then pw else []), Res.blk b13 (.cells (hdc q (.slice adp q.past.length capp)).toArray 36 (0, 0)), rowB (.slice adp q.past.length capp) q.past, Res.blk b5 (.cells (askc a va vp vv).toArray 26 (0, 0)), Res.blk b15 (.cells (envc nk q (.slice a1 q.past.length c1) (.slice a2 X.length c2)).toArray 41 (0, 0)), Res.blk b17 (.cells (renv nk q X).toArray 28 (0, 0)), nmR bn N1, tbR bt (tabX idl [] ((q.cl, q.ct, q.ep, bstr bd, bstr X), v3, pw))]) (fun w s => s.picks [6, 6, 6, 11, 9, 9, 5, 1, 4, 5]) ?_
  repeat' (first|refine zw183 ?_|(refine ta_ ?_;intro _)|(refine zk0 ?_ ?_<;>intro ht)|fail)
  (refine yco (ycp Tryz.func11 rfl (by kernel_rfl) rfl) (sealsE_sp h) rfl rfl rfl ?_ ?_ ?_; (· (exact to_)); (·exact zc148); intro x px hle)
  obtain ⟨h2, rfl⟩ : ∃ y, y = x := ⟨x, rfl⟩
  have hle2 : Le h h2 := hle
  clear px hle
  have hn2 := hsn.mono hle2
  have hl2 := hsl.mono hle2
  repeat' ((fail_if_success (refine ybo ?_));(first|refine zw408 ?_|(refine ta_ ?_;intro _)|(refine zk0 ?_ ?_<;>intro ht)|fail))
  refine ybo ?_
  refine ybo ?_
  repeat' ((fail_if_success (refine ybo ?_));(first|refine zw183 ?_|(refine ta_ ?_;intro _)|(refine zk0 ?_ ?_<;>intro ht)|fail))
  refine cx_persist rfl fun h3 hle3 hp3 => ?_
  refine cx_persist rfl fun h4 hle4 hX4 => ?_
  refine cx_persist rfl fun h5 hle5 ht5 => ?_
  have hle : Le h h5 := ((hle2.trans hle3).trans hle4).trans hle5
  have hp5 : Bs8 h5 (.slice a1 q.past.length c1) q.past := (Sc.mono hp3 hle4).mono hle5
  have hX5 : Bs8 h5 (.slice a2 X.length c2) X := Sc.mono hX4 hle5
  have ht5 : Bs8 h5 v3 (if idl then pw else []) := ht5
  exact cx_fr ts_ (fun _ s => s) (SE_loop w0 h0 _ _ _ _ _ _ _ _ _ _ _ _ _ b13 q yp (by have := hok.2.2.2.2; omega) h5 ⟨_, _, rfl⟩ (hEnd h5 b15 b17 va vp vv _ _ v3 (fun e => by rw [if_pos e] at ht5; exact ht5) (hv.mono hle) (hsn.mono hle) hp5 hX5 (hg.mono hle)))
end Go.Proofs.YtgeepceieckooaaGreatDoor
end

section
namespace Go.Proofs.YtgeepceieckooaaGreatDoor
open Go Go.Ck
set_option maxHeartbeats 4000000
theorem SE_no (w0 : World) (h0 : View) (R1 R2 R3 R4 : Res) (bv bw b5 b13 b14 : Nat) (vn vl va vp vv pv : Value) (a : AskD) (nm val : List Int) (q : Hdr) (h : View)
    (hno : ¬ ((1 ≤ nm.length ∧ nm.length ≤ 64) ∧ q.ok)) (hpv : ∃ ad cap, pv = .slice ad q.past.length cap) (hsn : Bs8 h vn nm) (hsl : Bs8 h vl val) :
    CX Tryz.prog 181 ⟨w0, h0, []⟩ (cDrop 5 (cGet Tryz.f5.body)) [(5, .pointer (some ⟨b5, 0, none⟩)), (7, .pointer (some ⟨bv, 0, none⟩)), (8, .pointer (some ⟨bw, 0, none⟩)), (9, vn), (10, vl), (11, .string (bstr nm)), (12, .string (bstr val)), (13, .pointer (some ⟨b13, 0, none⟩)), (14, .pointer (some ⟨b14, 0, none⟩))] h
      [Res.blk b5 (.cells (askc a va vp vv).toArray 26 (0, 0)), Res.blk b13 (.cells (hdc q pv).toArray 36 (0, 0)), Res.blk b14 (.cells (renv [] q []).toArray 28 (0, 0)), rowB pv q.past, R1, R2, R3, R4]
      (bodyPost Tryz.prog Tryz.f5 (fun e w' => ∃ h' : View, e = .returned (.bool true) ∧ St ⟨w0, h0, []⟩ h' [] w')) := by
  obtain ⟨adp, capp, rfl⟩ := hpv
  obtain ⟨_, adn, capn, rfl, _, _⟩ := id hsn
  obtain ⟨_, adl, capl, rfl, _, _⟩ := id hsl
  have E1 := fun h' (hle : Le h h') (hsc : Bs8 h' (.slice adp q.past.length capp) q.past) => ESeal_no bv nm _ (.slice adl val.length capl) _ q a.del hno h' (hsn.mono hle) hsc
  have E2 := rESeal_no (.pointer (some ⟨bw, 0, none⟩)) nm val [] q [] a.del hno h
  have E3 := ESeal_nil (.slice adn nm.length capn) (.slice adl val.length capl) (.slice adp q.past.length capp) q false h ⟨_, _, _, rfl⟩
  refine ybo ?_
  repeat' (first|refine zw405 ?_|(refine ta_ ?_;intro _)|(refine zk0 ?_ ?_<;>intro ht)|fail)
  refine rx_call_lend 3 (ycp Tryz.func9 rfl (by kernel_rfl) rfl) rfl E1 rfl rfl rfl ybf ?_
  repeat' (first|refine zw409 ?_|(refine ta_ ?_;intro _)|(refine zk0 ?_ ?_<;>intro ht)|fail)
  (refine ycn (ycp Tryz.func10 rfl (by kernel_rfl) rfl) (E2) rfl rfl rfl ?_ ?_; (· (exact to_)))
  repeat' (first|refine zw410 ?_|(refine ta_ ?_;intro _)|(refine zk0 ?_ ?_<;>intro ht)|fail)
  (refine ycn (ycp Tryz.func9 rfl (by kernel_rfl) rfl) (E3) rfl rfl rfl ?_ ?_; (· (exact to_)))
  repeat' (first|refine zw411 ?_|(refine ta_ ?_;intro _)|(refine zk0 ?_ ?_<;>intro ht)|fail)
  (refine yco (ycp Tryz.func11 rfl (by kernel_rfl) rfl) (sealsE_sp h) rfl rfl rfl ?_ ?_ ?_; (· (exact to_)); (·exact zc148); intro x px hle)
  have hn2 := hsn.mono hle
  have hl2 := hsl.mono hle
  repeat' (first|refine zw412 ?_|(refine ta_ ?_;intro _)|(refine zk0 ?_ ?_<;>intro ht)|fail)
  exact nx_ret1 rfl (rv_tmp rfl) (fun w' s' => ⟨x, rfl, s'.nil⟩)
theorem EnvelopeSeals_sp (idl : Bool) (key : List Int) (a : AskD) (vn vp vv : Value) (h : View) (hk : Bytes key) (hk32 : key.length = 32) (ha : a.by') (hn : Bs8 h vn a.nm) (hp : Bs8 h vp a.past) (hv : Bs8 h vv a.val) (hg : ShG h) (w : World) (s : St ⟨w, h, []⟩ h [] w) :
    Calls Tryz.prog 5 [.bool idl, .agg (bcs key).toArray, .agg (askc a vn vp vv).toArray].toArray w fun e w' => ∃ h' : View, e = .returned (.bool true) ∧ St ⟨w, h, []⟩ h' [] w' := by
  have ha0 := ha
  obtain ⟨yn, yp, yv, ln, lp, lv⟩ := ha
  have hol : (bcs key).length = 32 := by rw [bcs_len, hk32]
  obtain ⟨_, adn, capn, rfl, _, _⟩ := id hn
  obtain ⟨_, adv, capv, rfl, _, _⟩ := id hv
  obtain ⟨_, adp, capp, rfl, _, _⟩ := id hp
  refine calls_enter Tryz.func5 rfl Tryz.ntmps5 rfl s ?_
  repeat' (first|refine zw413 ?_|(refine ta_ ?_;intro _)|(refine zk0 ?_ ?_<;>intro ht)|fail)
  rename_i b4 b5
  (refine yco (ycp Tryz.func6 rfl (by kernel_rfl) rfl) (vaults_sp idl key hk hk32 h) rfl rfl rfl ?_ ?_ ?_; (· (exact to_)); (·exact zc148); intro x px hle)
  obtain ⟨h1, bv, bn, bu, bt, bw⟩ := x
  dsimp only at px hle ⊢
  have hv1 : Vb h1 bv idl key bn bu bt := px
  have hle1 : Le h h1 := hle
  clear px hle
  repeat' ((fail_if_success (refine ybo ?_));(first|refine zw414 ?_|(refine ta_ ?_;intro _)|(refine zk0 ?_ ?_<;>intro ht)|fail))
  refine ybo ?_
  refine cx_region_draw' rfl (by kernel_rfl) ?_
  repeat' (first|refine zw415 ?_|(refine ycf ?_;(first|(refine zg0 ?_ ?_<;>intro ht)|(refine tb_ ?_ ?_ ?_;(·(exact to_));(·intro _;(exact to_));intro _)))|fail)
  (refine yco (ycp Tryz.func7 rfl (by kernel_rfl) rfl) (cut_sp _ a.nm 80 (by omega) ln h1 (hn.mono hle1)) rfl rfl rfl ?_ ?_ ?_; (· (exact to_)); (·exact zc148); intro x px hle)
  obtain ⟨vn2, rfl⟩ : ∃ y, y = x := ⟨x, rfl⟩
  clear px hle
  repeat' (first|refine zw415 ?_|(refine ycf ?_;(first|(refine zg0 ?_ ?_<;>intro ht)|(refine tb_ ?_ ?_ ?_;(·(exact to_));(·intro _;(exact to_));intro _)))|fail)
  (refine yco (ycp Tryz.func7 rfl (by kernel_rfl) rfl) (cut_sp _ a.val 300 (by omega) lv h1 (hv.mono hle1)) rfl rfl rfl ?_ ?_ ?_; (· (exact to_)); (·exact zc148); intro x px hle)
  obtain ⟨vl2, rfl⟩ : ∃ y, y = x := ⟨x, rfl⟩
  clear px hle
  repeat' (first|refine zw415 ?_|(refine ycf ?_;(first|(refine zg0 ?_ ?_<;>intro ht)|(refine tb_ ?_ ?_ ?_;(·(exact to_));(·intro _;(exact to_));intro _)))|fail)
  refine yby ?_
  refine cx_persist rfl fun h2 hle2 hl2 => ?_
  refine cx_persist rfl fun h3 hle3 hn3 => ?_
  have hl3 : Bs8 h3 vl2 (a.val.take 300) := Sc.mono hl2 hle3
  have hn3 : Bs8 h3 vn2 (a.nm.take 80) := hn3
  have ynm : Bytes (a.nm.take 80) := bytes_take yn 80
  have yval : Bytes (a.val.take 300) := bytes_take yv 300
  have lval : (a.val.take 300).length ≤ 300 := by rw [List.length_take]; omega
  generalize a.nm.take 80 = nm at hn3 ynm
  generalize a.val.take 300 = val at hl3 yval lval
  have hle13 := hle2.trans hle3
  have hv3 := hv1.mono hle13
  have hg3 := hg.mono (hle1.trans hle13)
  obtain ⟨_, adm, capm, rfl, _, _⟩ := id hn3
  obtain ⟨_, adl, capl, rfl, _, _⟩ := id hl3
  refine ybo ?_
  refine cx_region_draw' rfl (by kernel_rfl) ?_
  repeat' (first|refine zw416 ?_|(refine ycf ?_;(first|(refine zg0 ?_ ?_<;>intro ht)|(refine tb_ ?_ ?_ ?_;(·(exact to_));(·intro _;(exact to_));intro _)))|fail)
  refine yby ?_
  refine ybo ?_
  repeat' (first|refine zw414 ?_|(refine ta_ ?_;intro _)|(refine zk0 ?_ ?_<;>intro ht)|fail)
  (refine yco (ycp Tryz.func8 rfl (by kernel_rfl) rfl) (askHead_sp a _ _ _ h3 ha0 (hp.mono (hle1.trans hle13)) rfl rfl) rfl rfl rfl ?_ ?_ ?_; (· (exact to_)); (·exact zc148); intro x px hle)
  have ypq : Bytes (qOf a).past := bytes_take yp 100
  change RX _ _ _ _ _ _ _ (rowB x (qOf a).past :: _) _
  generalize qOf a = q at ypq ⊢
  refine rx_rowsl 0 rfl fun ad1 cap1 hpx => ?_
  subst hpx
  repeat' ((fail_if_success (refine ybo ?_));(first|refine zw417 ?_|(refine ta_ ?_;intro _)|(refine zk0 ?_ ?_<;>intro ht)|fail))
  rename_i b13 b14
  by_cases hok : (1 ≤ nm.length ∧ nm.length ≤ 64) ∧ q.ok
  · exact cx_fr ts_ (fun _ s => s.picks [7, 1, 0, 0, 0, 0, 0, 0]) (SE_ok w h idl key bv bn bu bt bw b5 b13 b14 _ _ _ _ _ _ a nm val q h3 hk hk32 ynm hok.1 hok.2 ypq yval lval ⟨_, _, rfl⟩ hn3 hl3 hv3 hg3)
  · exact cx_fr ts_ (fun _ s => s.picks [7, 1, 0, 0, 0, 0, 0, 0]) (SE_no w h _ _ _ _ bv bw b5 b13 b14 _ _ _ _ _ _ a nm val q h3 hok ⟨_, _, rfl⟩ hn3 hl3)
end Go.Proofs.YtgeepceieckooaaGreatDoor
end
