/-
  Part 17 of a proof: RdL CkFlA CkFlB RdM RdN RdO RdP CkCpS RdQ CkPiece RdR RdS.
  Conditions: each theorem states its own.
-/
import Derived.Laws.CopyRow
import Derived.Test.YtgeepceieckooaaGreatDoorRdVPM16
set_option maxRecDepth 100000
set_option linter.unusedVariables false
set_option linter.unusedSimpArgs false
section
namespace Go.Proofs.YtgeepceieckooaaGreatDoor
open Go Go.Ck
set_option maxHeartbeats 4000000
theorem rBound_sp (ek : List Int) (q : Hdr) (se : List Int) (hq : q.ok) (he : ek.length ≤ 1000) (h : View) (w : World) (s : St ⟨w, h, []⟩ h [] w) :
    Calls Tryz.prog 34 [.agg (renv ek q se).toArray].toArray w fun e w' => e = .returned (.string (bstr (boundF ek q))) ∧ St ⟨w, h, []⟩ h [] w' := by
  obtain ⟨h1, h2, h3, h4, h5⟩ := hq
  have N1 := refNum_sp q.ep (by omega) (by omega) h
  have N2 := refNum_sp q.ct (by omega) (by omega) h
  have N3 := refNum_sp q.cl (by omega) (by omega) h
  have N4 := refNum_sp q.nu (by omega) (by omega) h
  have B1 := rBytes_sp q.past (by omega) h
  have c1 : bstr ek ++ bstr (num8 q.ep) = bstr (ek ++ num8 q.ep) := bstr_app _ _
  have z1 : (bstr ek).size + (bstr (num8 q.ep)).size < 1000000 := by rw [bstr_size, bstr_size, num8_len]; omega
  have c2 : bstr (ek ++ num8 q.ep) ++ bstr (num8 q.ct) = bstr (ek ++ num8 q.ep ++ num8 q.ct) := bstr_app _ _
  have z2 : (bstr (ek ++ num8 q.ep)).size + (bstr (num8 q.ct)).size < 1000000 := by rw [bstr_size, bstr_size, List.length_append, num8_len, num8_len]; omega
  have c3 : bstr (ek ++ num8 q.ep ++ num8 q.ct) ++ bstr (num8 q.cl) = bstr (ek ++ num8 q.ep ++ num8 q.ct ++ num8 q.cl) := bstr_app _ _
  have z3 : (bstr (ek ++ num8 q.ep ++ num8 q.ct)).size + (bstr (num8 q.cl)).size < 1000000 := by rw [bstr_size, bstr_size, List.length_append, List.length_append, num8_len, num8_len, num8_len]; omega
  have c4 : bstr (ek ++ num8 q.ep ++ num8 q.ct ++ num8 q.cl) ++ bstr (num8 q.nu) = bstr (ek ++ num8 q.ep ++ num8 q.ct ++ num8 q.cl ++ num8 q.nu) := bstr_app _ _
  have z4 : (bstr (ek ++ num8 q.ep ++ num8 q.ct ++ num8 q.cl)).size + (bstr (num8 q.nu)).size < 1000000 := by rw [bstr_size, bstr_size, List.length_append, List.length_append, List.length_append, num8_len, num8_len, num8_len, num8_len]; omega
  have c5 : bstr (ek ++ num8 q.ep ++ num8 q.ct ++ num8 q.cl ++ num8 q.nu) ++ bstr (num4 q.past.length ++ q.past) = bstr (boundF ek q) := by
    rw [bstr_app]
    congr 1
    unfold boundF
    simp only [List.append_assoc]
  have z5 : (bstr (ek ++ num8 q.ep ++ num8 q.ct ++ num8 q.cl ++ num8 q.nu)).size + (bstr (num4 q.past.length ++ q.past)).size < 1000000 := by
    rw [bstr_size, bstr_size]
    simp only [List.length_append, num8_len, num4_len]
    omega
  generalize boundF ek q = X at c5 ⊢
  refine calls_enter Tryz.func34 rfl Tryz.ntmps34 rfl s ?_
  repeat' (first|refine zw380 ?_|(refine ta_ ?_;intro _)|(refine zk0 ?_ ?_<;>intro ht)|fail)
  refine cx_region_draw' rfl (by kernel_rfl) ?_
  repeat' (first|refine zw381 ?_|(refine ycf ?_;(first|(refine zg0 ?_ ?_<;>intro ht)|(refine tb_ ?_ ?_ ?_;(·(exact to_));(·intro _;(exact to_));intro _)))|fail)
  (refine ycn (ycp Tryz.func73 rfl (by kernel_rfl) rfl) (N1) rfl rfl rfl ?_ ?_; (· (exact to_)))
  repeat' (first|refine zw381 ?_|(refine ycf ?_;(first|(refine zg0 ?_ ?_<;>intro ht)|(refine tb_ ?_ ?_ ?_;(·(exact to_));(·intro _;(exact to_));intro _)))|fail)
  (refine ycn (ycp Tryz.func73 rfl (by kernel_rfl) rfl) (N2) rfl rfl rfl ?_ ?_; (· (exact to_)))
  repeat' (first|refine zw381 ?_|(refine ycf ?_;(first|(refine zg0 ?_ ?_<;>intro ht)|(refine tb_ ?_ ?_ ?_;(·(exact to_));(·intro _;(exact to_));intro _)))|fail)
  (refine ycn (ycp Tryz.func73 rfl (by kernel_rfl) rfl) (N3) rfl rfl rfl ?_ ?_; (· (exact to_)))
  repeat' (first|refine zw381 ?_|(refine ycf ?_;(first|(refine zg0 ?_ ?_<;>intro ht)|(refine tb_ ?_ ?_ ?_;(·(exact to_));(·intro _;(exact to_));intro _)))|fail)
  (refine ycn (ycp Tryz.func73 rfl (by kernel_rfl) rfl) (N4) rfl rfl rfl ?_ ?_; (· (exact to_)))
  repeat' (first|refine zw381 ?_|(refine ycf ?_;(first|(refine zg0 ?_ ?_<;>intro ht)|(refine tb_ ?_ ?_ ?_;(·(exact to_));(·intro _;(exact to_));intro _)))|fail)
  (refine ycn (ycp Tryz.func52 rfl (by kernel_rfl) rfl) (B1) rfl rfl rfl ?_ ?_; (· (exact to_)))
  repeat' (first|refine zw381 ?_|(refine ycf ?_;(first|(refine zg0 ?_ ?_<;>intro ht)|(refine tb_ ?_ ?_ ?_;(·(exact to_));(·intro _;(exact to_));intro _)))|fail)
  repeat' (first|refine zw380 ?_|(refine ta_ ?_;intro _)|(refine zk0 ?_ ?_<;>intro ht)|fail)
  exact nx_ret1 rfl (rv_tmp rfl) (fun w' s' => ⟨rfl, s'.nil⟩)
theorem boundF_len' (ek : List Int) (q : Hdr) : (boundF ek q).length = ek.length + 36 + q.past.length := by
  unfold boundF
  simp only [List.length_append, num8_len, num4_len]
end Go.Proofs.YtgeepceieckooaaGreatDoor
end

section
namespace Go.Ck
open Go
structure Flg where
  i : Nat
  s : Nat
  p : Value → Res → Prop
abbrev Dng := List (Flg × (Value × Res))
section
variable {P : Program} {n : Nat} {K : Bs} {g : Tg} {Y : List Flg} {F F0 : List (Nat × Value)} {h h0 : View} {L : List Res} {Q : Exit → Act → World → Prop}
structure FlgOk (P : Program) (n : Nat) (K : Bs) (g : Tg) (F0 : List (Nat × Value)) (h0 : View) (y : Flg) : Prop where
  dst : (nthO g.ops.toList y.i).dst = some y.s
  okd : okd n (some y.s) = true
  gd : (nthO g.ops.toList y.i).guard = none
  lo : g.lo y.i = true
  wp : ∀ h L, Le h0 h → ∀ a w, Fr n F0 a → St K h L w → (nthO g.ops.toList y.i).wp P a w (fun a' w' => ∃ v R, a' = a.put (some y.s) v ∧ y.p v R ∧ St K h (R :: L) w') NoQ
structure Flts (P : Program) (n : Nat) (K : Bs) (g : Tg) (F0 : List (Nat × Value)) (h0 : View) (Y : List Flg) : Prop where
  ok : ∀ y ∈ Y, FlgOk P n K g F0 h0 y
  ns : (Y.map (·.s)).Nodup
  ni : (Y.map (·.i)).Nodup
end
end Go.Ck
end

section
namespace Go.Ck
open Go
section
variable {P : Program} {n : Nat} {K : Bs} {g : Tg} {F : List (Nat × Value)} {h : View} {L : List Res} {Q : Exit → Act → World → Prop}
end
end Go.Ck
namespace Go.Ck
open Go
section
variable {P : Program} {n : Nat} {K : Bs} {g : Tg} {F : List (Nat × Value)} {h : View} {L : List Res} {Q : Exit → Act → World → Prop} {l : List Nat} {dst : Option Nat} {v : Value} {D : Dng}
theorem cx_st {c : Code} {L' : List Res} (hs : ∀ w, St K h L w → St K h L' w) (hx : CX P n K c F h L' Q) : CX P n K c F h L Q := by
  unfold CX at *
  exact fun a w f s => hx a w f (hs w s)
theorem hd_m {h h' : View} {L LS : List Res} (hl : Le h h') (hm : ∀ r ∈ LS, r ∈ L) : ∀ w, Hd h' L w → Hd h LS w := fun w s => Hd.sub s hl hm
theorem all_m1 {A : Res} {L : List Res} (h : A ∈ L) : ∀ r ∈ [A], r ∈ L := fun r hr => by rw [List.mem_singleton.1 hr]; exact h
theorem all_m2 {A B : Res} {L : List Res} (h1 : A ∈ L) (h2 : B ∈ L) : ∀ r ∈ [A, B], r ∈ L := fun r hr => by
  rcases List.mem_cons.1 hr with rfl | hr
  · exact h1
  · rw [List.mem_singleton.1 hr]; exact h2
theorem tmh_ {p : Prop} (h : p := by (first|exact List.mem_of_getElem? (i := 0) rfl | exact List.mem_of_getElem? (i := 1) rfl | exact List.mem_of_getElem? (i := 2) rfl | exact List.mem_of_getElem? (i := 3) rfl | exact List.mem_of_getElem? (i := 4) rfl | exact List.mem_of_getElem? (i := 5) rfl | exact List.mem_of_getElem? (i := 6) rfl | exact List.mem_of_getElem? (i := 7) rfl)) : p := h
end
end Go.Ck
end

section
namespace Go.Proofs.YtgeepceieckooaaGreatDoor
open Go Go.Ck
set_option maxHeartbeats 4000000
theorem rESeal_no (vw : Value) (nm val : List Int) (ek : List Int) (q : Hdr) (se : List Int) (del : Bool) (hno : ¬ ((1 ≤ nm.length ∧ nm.length ≤ 64) ∧ q.ok)) (h : View) (w : World) (s : St ⟨w, h, []⟩ h [] w) :
    Calls Tryz.prog 10 [vw, .string (bstr nm), .agg (renv ek q se).toArray, .string (bstr val), .bool del].toArray w fun e w' => e = .returned (.tuple #[.agg (renv [] zHdr []).toArray, .int .i64 1]) ∧ St ⟨w, h, []⟩ h [] w' := by
  have N1 := rName_sp nm.length h
  have H1 := rhead_sp ek q se h
  refine calls_enter Tryz.func10 rfl Tryz.ntmps10 rfl s ?_
  repeat' (first|refine zw382 ?_|(refine ta_ ?_;intro _)|(refine zk0 ?_ ?_<;>intro ht)|fail)
  by_cases h1 : 1 ≤ nm.length ∧ nm.length ≤ 64
  · have h2 : ¬ q.ok := fun q2 => hno ⟨h1, q2⟩
    rw [decide_eq_true h1] at N1
    rw [decide_eq_false h2] at H1
    (refine ycn (ycp Tryz.func30 rfl (by kernel_rfl) rfl) (N1) rfl rfl rfl ?_ ?_; (· (exact to_)))
    repeat' (first|refine zw382 ?_|(refine ta_ ?_;intro _)|(refine zk0 ?_ ?_<;>intro ht)|fail)
    (refine ycn (ycp Tryz.func31 rfl (by kernel_rfl) rfl) (H1) rfl rfl rfl ?_ ?_; (· (exact to_)))
    repeat' (first|refine zw382 ?_|(refine ta_ ?_;intro _)|(refine zk0 ?_ ?_<;>intro ht)|fail)
    exact nx_ret2 rfl (rv_cells rfl (yaz 0 rfl) rfl) (rv_tmp rfl) (fun w' s' => ⟨rfl, s'.nil⟩)
  · rw [decide_eq_false h1] at N1
    (refine ycn (ycp Tryz.func30 rfl (by kernel_rfl) rfl) (N1) rfl rfl rfl ?_ ?_; (· (exact to_)))
    repeat' (first|refine zw382 ?_|(refine ta_ ?_;intro _)|(refine zk0 ?_ ?_<;>intro ht)|fail)
    exact nx_ret2 rfl (rv_cells rfl (yaz 0 rfl) rfl) (rv_tmp rfl) (fun w' s' => ⟨rfl, s'.nil⟩)
theorem rESeal_sp (bw : Nat) (idl : Bool) (key : List Int) (vn vl : Value) (N : List (List Int)) (D : List Sd) (nm val ek se : List Int) (q : Hdr) (del : Bool) (hk : Bytes key) (hk32 : key.length = 32) (hN : Names N) (hNl : N.length < 900000) (hDl : D.length < 900000)
    (hn : Bytes nm) (hnl : 1 ≤ nm.length ∧ nm.length ≤ 64) (hok : q.ok) (yp : Bytes q.past) (hnew : (q.cl, q.ct) ∉ usD D) (yv : Bytes val) (hvl : val.length ≤ 3999) (h : View) (w : World) (s : St ⟨w, h, doms [dvB bw idl key vn vl, rowN vn N, rowSd vl D]⟩ h [dvB bw idl key vn vl, rowN vn N, rowSd vl D] w) :
    Calls Tryz.prog 10 [.pointer (some ⟨bw, 0, none⟩), .string (bstr nm), .agg (renv ek q se).toArray, .string (bstr val), .bool del].toArray w fun e w' => ∃ y : Value × Value, e = .returned (.tuple #[.agg (renv (nameX idl key N nm) q (sealX idl key (usD D) q.ep q.cl q.ct (boundF (nameX idl key N nm) q) (padW (inF del val)))).toArray, .int .i64 0]) ∧
      St ⟨w, h, doms [dvB bw idl key vn vl, rowN vn N, rowSd vl D]⟩ h [dvB bw idl key y.1 y.2, rowN y.1 (addX idl N nm), rowSd y.2 (D ++ [⟨q.ep, q.cl, q.ct, boundF (nameX idl key N nm) q, padW (inF del val), sealX idl key (usD D) q.ep q.cl q.ct (boundF (nameX idl key N nm) q) (padW (inF del val))⟩])] w' ∧ True := by
  have N1 := rName_sp nm.length h
  have H1 := rhead_sp ek q se h
  rw [decide_eq_true hnl] at N1
  rw [decide_eq_true hok] at H1
  have l1 := nameX_len idl key N nm
  have y1 := nameX_by idl key N nm
  have DB := DocBlind_sp bw idl key vn vl N nm hk hk32 hN hNl hn hnl h
  generalize nameX idl key N nm = nk at l1 y1 DB ⊢
  have B1 := rBound_sp nk q se hok (by omega) h
  have bl := boundF_len' nk q
  have by1 : Bytes (boundF nk q) := boundF_by y1 yp
  have hp5 := hok.2.2.2.2
  have hsok : sealOk q.ep q.cl q.ct := ⟨⟨hok.2.2.1.1, hok.2.2.1.2, hok.2.1.1, hok.2.1.2⟩, hok.1.1, hok.1.2⟩
  have yi : Bytes (inF del val) := inF_by yv
  have hil : (inF del val).length ≤ 4000 := by
    cases del
    · show (1 :: val).length ≤ 4000; rw [List.length_cons]; omega
    · show ([0] : List Int).length ≤ 4000; decide
  have P1 := rPad_sp (inF del val) yi hil h
  have pl : (padW (inF del val)).length ≤ 5000 := by
    have := sizeF_bd (n := (inF del val).length) (by omega) (by omega)
    rw [padW_len hil]
    omega
  have py : Bytes (padW (inF del val)) := padW_by yi
  have DS := fun (v : Value) => DocSeal_sp bw idl key v vl D q.ep q.cl q.ct (boundF nk q) (padW (inF del val)) hk hk32 hDl hsok hnew (by omega) pl by1 py h
  generalize sealX idl key (usD D) q.ep q.cl q.ct (boundF nk q) (padW (inF del val)) = X at DS ⊢
  generalize padW (inF del val) = pw at P1 DS ⊢
  generalize boundF nk q = bd at B1 DS ⊢
  refine calls_enter Tryz.func10 rfl Tryz.ntmps10 rfl s ?_
  repeat' (first|refine zw383 ?_|(refine ta_ ?_;intro _)|(refine zk0 ?_ ?_<;>intro ht)|fail)
  (refine ycn (ycp Tryz.func30 rfl (by kernel_rfl) rfl) (N1) rfl rfl rfl ?_ ?_; (· (exact to_)))
  repeat' (first|refine zw383 ?_|(refine ta_ ?_;intro _)|(refine zk0 ?_ ?_<;>intro ht)|fail)
  (refine ycn (ycp Tryz.func31 rfl (by kernel_rfl) rfl) (H1) rfl rfl rfl ?_ ?_; (· (exact to_)))
  have c1 : (⟨#[1]⟩ : ByteArray) ++ bstr val = bstr (1 :: val) := by
    have : (⟨#[1]⟩ : ByteArray) = bstr [1] := rfl
    rw [this, bstr_app]
    rfl
  have z1 : (⟨#[1]⟩ : ByteArray).size + (bstr val).size < 1000000 := by
    rw [bstr_size]
    show 1 + val.length < 1000000
    omega
  cases del with
  | false =>
    have ei : inF false val = 1 :: val := rfl
    rw [ei] at P1
    repeat' (first|refine zw384 ?_|(refine ta_ ?_;intro _)|(refine zk0 ?_ ?_<;>intro ht)|fail)
    refine rx_call_l (ycp Tryz.func32 rfl (by kernel_rfl) rfl) (pick2 2 2 rfl rfl) DB rfl rfl rfl ybf (fun _ _ _ => ybf) ?_
    intro vn2 _ _
    repeat' (first|refine zw385 ?_|(refine ta_ ?_;intro _)|(refine zk0 ?_ ?_<;>intro ht)|fail)
    rename_i b7 b10 _ _
    refine cx_region_any [Res.blk b7 (.cells (renv nk q se).toArray 28 (0, 0))] [9, 11, 12] [] [0, 1, 2, 3, 4, 5, 6, 7, 8, 9, 10, 11, 12, 13, 14, 15, 16, 17] rfl (by kernel_rfl) ?_
    refine tx_run false [0, 1, 2, 3, 4, 5, 6, 7, 8, 10] [9, 11, 12, 13, 14, 15, 16, 17] (by kernel_rfl) ?_
    repeat' (first|refine zw386 ?_|(refine ycf ?_;(first|(refine zg0 ?_ ?_<;>intro ht)|(refine tb_ ?_ ?_ ?_;(·exact zc135);(·exact zc165);intro _)))|fail)
    refine nx_tq ?_
    refine tx_1 false 9 [11, 12, 13, 14, 15, 16, 17] (by kernel_rfl) ?_
    (refine ycn (ycp Tryz.func34 rfl (by kernel_rfl) rfl) (B1) rfl rfl rfl ?_ ?_;(·exact zc135))
    refine ycg ?_
    refine nx_tq ?_
    refine tx_1 false 11 [12, 13, 14, 15, 16, 17] (by kernel_rfl) ?_
    (refine ycn (ycp Tryz.func35 rfl (by kernel_rfl) rfl) (P1) rfl rfl rfl ?_ ?_;(·exact zc135))
    refine ycg ?_
    refine nx_tq ?_
    refine tx_1 false 12 [13, 14, 15, 16, 17] (by kernel_rfl) ?_
    refine rx_call_l (ycp Tryz.func33 rfl (by kernel_rfl) rfl) (pick2 0 3 rfl rfl) (DS vn2) rfl rfl rfl (.inl fun _ s => hd_m (Le.refl _) (all_m1 tmh_) _ s) (fun _ _ _ => .inl fun _ s => hd_m (Le.refl _) (all_m1 tmh_) _ s) ?_
    intro vl2 _ _
    refine ycg ?_
    refine nx_tq ?_
    refine tx_run false [13, 14, 15, 16, 17] [] (by kernel_rfl) ?_
    repeat' (first|refine zw387 ?_|(refine ycf ?_;(first|(refine zg0 ?_ ?_<;>intro ht)|(refine tb_ ?_ ?_ ?_;(·exact zc135);(·exact zc165);intro _)))|fail)
    refine nx_tq ?_
    refine tx_end ?_
    repeat' (first|refine zw388 ?_|(refine ta_ ?_;intro _)|(refine zk0 ?_ ?_<;>intro ht)|fail)
    exact nx_ret2 rfl (rv_cells rfl (yaz 3 rfl) rfl) (rv_tmp rfl) (fun w' s' => ⟨(vn2, vl2), rfl, s'.picks [0, 1, 0], trivial⟩)
  | true =>
    have ei : bstr (inF true val) = ⟨#[0]⟩ := rfl
    rw [ei] at P1
    repeat' (first|refine zw389 ?_|(refine ta_ ?_;intro _)|(refine zk0 ?_ ?_<;>intro ht)|fail)
    refine rx_call_l (ycp Tryz.func32 rfl (by kernel_rfl) rfl) (pick2 2 2 rfl rfl) DB rfl rfl rfl ybf (fun _ _ _ => ybf) ?_
    intro vn2 _ _
    repeat' (first|refine zw385 ?_|(refine ta_ ?_;intro _)|(refine zk0 ?_ ?_<;>intro ht)|fail)
    rename_i b7 b10 _ _
    refine cx_region_any [Res.blk b7 (.cells (renv nk q se).toArray 28 (0, 0))] [9, 11, 12] [] [0, 1, 2, 3, 4, 5, 6, 7, 8, 9, 10, 11, 12, 13, 14, 15, 16, 17] rfl (by kernel_rfl) ?_
    refine tx_run false [0, 1, 2, 3, 4, 5, 6, 7, 8, 10] [9, 11, 12, 13, 14, 15, 16, 17] (by kernel_rfl) ?_
    repeat' (first|refine zw386 ?_|(refine ycf ?_;(first|(refine zg0 ?_ ?_<;>intro ht)|(refine tb_ ?_ ?_ ?_;(·exact zc135);(·exact zc165);intro _)))|fail)
    refine nx_tq ?_
    refine tx_1 false 9 [11, 12, 13, 14, 15, 16, 17] (by kernel_rfl) ?_
    (refine ycn (ycp Tryz.func34 rfl (by kernel_rfl) rfl) (B1) rfl rfl rfl ?_ ?_;(·exact zc135))
    refine ycg ?_
    refine nx_tq ?_
    refine tx_1 false 11 [12, 13, 14, 15, 16, 17] (by kernel_rfl) ?_
    (refine ycn (ycp Tryz.func35 rfl (by kernel_rfl) rfl) (P1) rfl rfl rfl ?_ ?_;(·exact zc135))
    refine ycg ?_
    refine nx_tq ?_
    refine tx_1 false 12 [13, 14, 15, 16, 17] (by kernel_rfl) ?_
    refine rx_call_l (ycp Tryz.func33 rfl (by kernel_rfl) rfl) (pick2 0 3 rfl rfl) (DS vn2) rfl rfl rfl (.inl fun _ s => hd_m (Le.refl _) (all_m1 tmh_) _ s) (fun _ _ _ => .inl fun _ s => hd_m (Le.refl _) (all_m1 tmh_) _ s) ?_
    intro vl2 _ _
    refine ycg ?_
    refine nx_tq ?_
    refine tx_run false [13, 14, 15, 16, 17] [] (by kernel_rfl) ?_
    repeat' (first|refine zw387 ?_|(refine ycf ?_;(first|(refine zg0 ?_ ?_<;>intro ht)|(refine tb_ ?_ ?_ ?_;(·exact zc135);(·exact zc165);intro _)))|fail)
    refine nx_tq ?_
    refine tx_end ?_
    repeat' (first|refine zw388 ?_|(refine ta_ ?_;intro _)|(refine zk0 ?_ ?_<;>intro ht)|fail)
    exact nx_ret2 rfl (rv_cells rfl (yaz 3 rfl) rfl) (rv_tmp rfl) (fun w' s' => ⟨(vn2, vl2), rfl, s'.picks [0, 1, 0], trivial⟩)
end Go.Proofs.YtgeepceieckooaaGreatDoor
end

section
namespace Go.Proofs.YtgeepceieckooaaGreatDoor
open Go Go.Ck
set_option maxHeartbeats 4000000
theorem qv_at_cons {P : Program} {n : Nat} {F : List (Nat × Value)} {h : View} {L : List Res} {dst : Option Nat} {ty : Nat} {pos : String} {af : Array Edge} {gd : Option (Nat × Bool)} {T : Nat} {x y : Operand} {v : Int} {r : List Int} {ki : IntKind} {i : Int} (hb : Bytes (v :: r)) [tu : TyU P T .string] (hx : ev F x = some (.string (bstr (v :: r)))) (hy : ev F y = some (.int ki i)) (hi : i = 0) :
    QV P n F h L ⟨dst, .index T x y, ty, pos, af, gd⟩ (.int .u8 v) := qv_at_bstr (k := 0) hb hx hy hi (by simp)
theorem dopen_mem {D : List Sd} {ep cl ct : Int} {wi se p : List Int} (h : dopen D ep cl ct wi se = some p) : ∃ x ∈ D, x.b = p := by
  induction D with
  | nil => cases h
  | cons x D ih =>
    rw [dopen] at h
    split at h
    · cases h; exact ⟨x, List.mem_cons_self .., rfl⟩
    · obtain ⟨y, hy, e⟩ := ih h
      exact ⟨y, List.mem_cons_of_mem _ hy, e⟩
theorem opnD_ok {idl : Bool} {key : List Int} {D : List Sd} {ep cl ct : Int} {wi se p : List Int} (hD : ∀ x ∈ D, x.by' ∧ x.b.length ≤ 900000) (hs : se.length ≤ 8192) (h : opnD idl key D ep cl ct wi se = some p) : Bytes p ∧ p.length ≤ 900000 := by
  unfold opnD at h
  cases idl
  · rw [if_neg (by decide)] at h
    unfold aeadO at h
    split at h
    · cases h
      refine ⟨strmF_by _ _ _ _ _, ?_⟩
      rw [streamF_len, List.length_take]
      omega
    · cases h
  · rw [if_pos rfl] at h
    obtain ⟨x, hx, rfl⟩ := dopen_mem h
    exact ⟨(hD x hx).1.2.1, (hD x hx).2⟩
theorem rEOpen_name (vw : Value) (nm ek : List Int) (q : Hdr) (se : List Int) (hno : ¬ (1 ≤ nm.length ∧ nm.length ≤ 64)) (h : View) (w : World) (s : St ⟨w, h, []⟩ h [] w) :
    Calls Tryz.prog 14 [vw, .string (bstr nm), .agg (renv ek q se).toArray].toArray w fun e w' => e = .returned (.tuple #[.string (bstr []), .bool false, .int .i64 1]) ∧ St ⟨w, h, []⟩ h [] w' := by
  have N1 := rName_sp nm.length h
  rw [decide_eq_false hno] at N1
  refine calls_enter Tryz.func14 rfl Tryz.ntmps14 rfl s ?_
  repeat' (first|refine zw270 ?_|(refine ta_ ?_;intro _)|(refine zk0 ?_ ?_<;>intro ht)|fail)
  (refine ycn (ycp Tryz.func30 rfl (by kernel_rfl) rfl) (N1) rfl rfl rfl ?_ ?_; (· (exact to_)))
  repeat' (first|refine zw270 ?_|(refine ta_ ?_;intro _)|(refine zk0 ?_ ?_<;>intro ht)|fail)
  exact nx_ret3 rfl (rv_tmp rfl) (rv_tmp rfl) (rv_tmp rfl) (fun w' s' => ⟨rfl, s'.nil⟩)
theorem rEOpen_bad (vw : Value) (nm ek : List Int) (q : Hdr) (se : List Int) (hnl : 1 ≤ nm.length ∧ nm.length ≤ 64) (hno : ¬ (q.ok ∧ ek.length = 32 ∧ 16 ≤ se.length ∧ se.length ≤ 8192)) (he : ek.length ≤ 1000000) (hs : se.length ≤ 1000000) (h : View) (w : World) (s : St ⟨w, h, []⟩ h [] w) :
    Calls Tryz.prog 14 [vw, .string (bstr nm), .agg (renv ek q se).toArray].toArray w fun e w' => e = .returned (.tuple #[.string (bstr []), .bool false, .int .i64 2]) ∧ St ⟨w, h, []⟩ h [] w' := by
  have N1 := rName_sp nm.length h
  rw [decide_eq_true hnl] at N1
  have R1 := rRight_sp ek q se hs he h
  rw [decide_eq_false hno] at R1
  refine calls_enter Tryz.func14 rfl Tryz.ntmps14 rfl s ?_
  repeat' (first|refine zw390 ?_|(refine ta_ ?_;intro _)|(refine zk0 ?_ ?_<;>intro ht)|fail)
  (refine ycn (ycp Tryz.func30 rfl (by kernel_rfl) rfl) (N1) rfl rfl rfl ?_ ?_; (· (exact to_)))
  repeat' (first|refine zw390 ?_|(refine ta_ ?_;intro _)|(refine zk0 ?_ ?_<;>intro ht)|fail)
  (refine ycn (ycp Tryz.func39 rfl (by kernel_rfl) rfl) (R1) rfl rfl rfl ?_ ?_; (· (exact to_)))
  repeat' (first|refine zw390 ?_|(refine ta_ ?_;intro _)|(refine zk0 ?_ ?_<;>intro ht)|fail)
  exact nx_ret3 rfl (rv_tmp rfl) (rv_tmp rfl) (rv_tmp rfl) (fun w' s' => ⟨rfl, s'.nil⟩)
theorem rEOpen_sp (bw : Nat) (idl : Bool) (key : List Int) (vn vl : Value) (N : List (List Int)) (D : List Sd) (nm ek se : List Int) (q : Hdr) (hk : Bytes key) (hk32 : key.length = 32) (hN : Names N) (hNl : N.length < 900000) (hDl : D.length < 900000) (hD : ∀ x ∈ D, x.by' ∧ x.b.length ≤ 900000)
    (hn : Bytes nm) (hnl : 1 ≤ nm.length ∧ nm.length ≤ 64) (hok : q.ok) (yp : Bytes q.past) (ye : Bytes ek) (he : ek.length = 32) (ys : Bytes se) (hsl : 16 ≤ se.length ∧ se.length ≤ 8192) (h : View) (w : World) (s : St ⟨w, h, doms [dvB bw idl key vn vl, rowN vn N, rowSd vl D]⟩ h [dvB bw idl key vn vl, rowN vn N, rowSd vl D] w) :
    Calls Tryz.prog 14 [.pointer (some ⟨bw, 0, none⟩), .string (bstr nm), .agg (renv ek q se).toArray].toArray w fun e w' => ∃ vn2 : Value, e = .returned (.tuple #[.string (bstr (openD idl key N D nm ek q se).1), .bool (openD idl key N D nm ek q se).2.1, .int .i64 (openD idl key N D nm ek q se).2.2]) ∧
      St ⟨w, h, doms [dvB bw idl key vn vl, rowN vn N, rowSd vl D]⟩ h [dvB bw idl key vn2 vl, rowN vn2 (addX idl N nm), rowSd vl D] w' ∧ True := by
  have N1 := rName_sp nm.length h
  rw [decide_eq_true hnl] at N1
  have R1 := rRight_sp ek q se (by omega) (by omega) h
  rw [decide_eq_true ⟨hok, he, hsl.1, hsl.2⟩] at R1
  have y1 := nameX_by idl key N nm
  have DB := DocBlind_sp bw idl key vn vl N nm hk hk32 hN hNl hn hnl h
  have eO : openD idl key N D nm ek q se = if nameX idl key N nm = ek then (match opnD idl key D q.ep q.cl q.ct (boundF ek q) se with
    | some p => valF p
    | none => ([], false, 6)) else ([], false, 6) := rfl
  rw [eO]
  clear eO
  generalize nameX idl key N nm = nk at y1 DB ⊢
  have B1 := rBound_sp ek q se hok (by omega) h
  have bl := boundF_len' ek q
  have by1 : Bytes (boundF ek q) := boundF_by ye yp
  have hp5 := hok.2.2.2.2
  have hsok : sealOk q.ep q.cl q.ct := ⟨⟨hok.2.2.1.1, hok.2.2.1.2, hok.2.1.1, hok.2.1.2⟩, hok.1.1, hok.1.2⟩
  have DO := fun (v : Value) => DocOpen_sp bw idl key v vl D q.ep q.cl q.ct (boundF ek q) se hk hk32 hDl (fun x hx => (hD x hx).1) hsok hsl (by omega) by1 ys h
  have hop := fun p => @opnD_ok idl key D q.ep q.cl q.ct (boundF ek q) se p hD hsl.2
  generalize opnD idl key D q.ep q.cl q.ct (boundF ek q) se = o at DO hop ⊢
  generalize boundF ek q = bd at B1 DO
  have hbe := bstr_eqD y1 ye
  refine calls_enter Tryz.func14 rfl Tryz.ntmps14 rfl s ?_
  repeat' (first|refine zw390 ?_|(refine ta_ ?_;intro _)|(refine zk0 ?_ ?_<;>intro ht)|fail)
  (refine ycn (ycp Tryz.func30 rfl (by kernel_rfl) rfl) (N1) rfl rfl rfl ?_ ?_; (· (exact to_)))
  repeat' (first|refine zw390 ?_|(refine ta_ ?_;intro _)|(refine zk0 ?_ ?_<;>intro ht)|fail)
  (refine ycn (ycp Tryz.func39 rfl (by kernel_rfl) rfl) (R1) rfl rfl rfl ?_ ?_; (· (exact to_)))
  repeat' (first|refine zw390 ?_|(refine ta_ ?_;intro _)|(refine zk0 ?_ ?_<;>intro ht)|fail)
  refine rx_call_l (ycp Tryz.func32 rfl (by kernel_rfl) rfl) (pick2 1 1 rfl rfl) DB rfl rfl rfl ybf (fun _ _ _ => ybf) ?_
  intro vn2 _ _
  by_cases hne : nk = ek
  rotate_left
  · have hbn : (!((bstr nk).toList == (bstr ek).toList)) = true := by rw [hbe, decide_eq_false hne]; rfl
    rw [if_neg hne]
    repeat' (first|refine zw391 ?_|(refine ta_ ?_;intro _)|(refine zk0 ?_ ?_<;>intro ht)|fail)
    exact nx_ret3 rfl (rv_tmp rfl) (rv_tmp rfl) (rv_tmp rfl) (fun w' s' => ⟨vn2, rfl, s'.picks [0, 0, 1], trivial⟩)
  have hbn : (!((bstr nk).toList == (bstr ek).toList)) = false := by rw [hbe, decide_eq_true hne]; rfl
  rw [if_pos hne]
  repeat' (first|refine zw391 ?_|(refine ta_ ?_;intro _)|(refine zk0 ?_ ?_<;>intro ht)|fail)
  rename_i b5 _ _
  refine cx_region_any [Res.blk b5 (.cells (renv ek q se).toArray 28 (0, 0))] [9, 12] [] [0, 1, 2, 3, 4, 5, 6, 7, 8, 9, 10, 11, 12, 13, 14, 15, 16, 17] rfl (by kernel_rfl) ?_
  refine tx_run false [0, 1, 2, 3, 4, 5, 6, 7, 8, 10, 11] [9, 12, 13, 14, 15, 16, 17] (by kernel_rfl) ?_
  repeat' (first|refine zw386 ?_|(refine ycf ?_;(first|(refine zg0 ?_ ?_<;>intro ht)|(refine tb_ ?_ ?_ ?_;(·exact zc135);(·exact zc165);intro _)))|fail)
  refine nx_tq ?_
  refine tx_1 false 9 [12, 13, 14, 15, 16, 17] (by kernel_rfl) ?_
  (refine ycn (ycp Tryz.func34 rfl (by kernel_rfl) rfl) (B1) rfl rfl rfl ?_ ?_;(·exact zc135))
  refine ycg ?_
  refine nx_tq ?_
  refine tx_1 false 12 [13, 14, 15, 16, 17] (by kernel_rfl) ?_
  refine rx_call_l (X := Unit) (v := fun _ => .tuple #[.string (bstr (o.getD [])), .int .i64 (opnE o)]) (hh := fun _ => h) (LL := fun _ => [dvB bw idl key vn2 vl, rowSd vl D]) (p := fun _ => True) (ycp Tryz.func40 rfl (by kernel_rfl) rfl) (pick2 0 2 rfl rfl) (fun w s => (DO vn2 w s).mono fun e w' he => ⟨(), he.1, he.2, trivial⟩) rfl rfl rfl (.inl fun _ s => hd_m (Le.refl _) (all_m1 tmh_) _ s) (fun _ _ _ => .inl fun _ s => hd_m (Le.refl _) (all_m1 tmh_) _ s) ?_
  intro _ _ _
  refine ycg ?_
  refine nx_tq ?_
  refine tx_run false [13, 14, 15, 16, 17] [] (by kernel_rfl) ?_
  repeat' (first|refine zw387 ?_|(refine ycf ?_;(first|(refine zg0 ?_ ?_<;>intro ht)|(refine tb_ ?_ ?_ ?_;(·exact zc135);(·exact zc165);intro _)))|fail)
  refine nx_tq ?_
  refine tx_end ?_
  cases o with
  | none =>
    have e6 : opnE none = 6 := rfl
    rw [e6]
    repeat' (first|refine zw3 ?_|(refine ta_ ?_;intro _)|(refine zk0 ?_ ?_<;>intro ht)|fail)
    exact nx_ret3 rfl (rv_tmp rfl) (rv_tmp rfl) (rv_tmp rfl) (fun w' s' => ⟨vn2, rfl, s'.picks [0, 1, 0], trivial⟩)
  | some p =>
    obtain ⟨yp', lp⟩ := hop p rfl
    have C1 := rCut_sp p yp' lp h
    have e0 : opnE (some p) = 0 := rfl
    have hvd := valF_doc p yp' lp
    have sb : Bytes (cutV p) := (RsOk.by (s := (p, 0)) (most := 4000) ⟨yp', by show p.length ≤ 140737488355328; omega⟩ (by omega)).2.1
    have sl : ((cutV p).length : Int) ≤ 4000 := (RsOk.by (s := (p, 0)) (most := 4000) ⟨yp', by show p.length ≤ 140737488355328; omega⟩ (by omega)).2.2
    have eg : (some p : Option (List Int)).getD [] = p := rfl
    rw [e0, eg]
    dsimp only
    rw [hvd]
    clear hvd
    generalize cutV p = l at C1 sb sl ⊢
    repeat' (first|refine zw3 ?_|(refine ta_ ?_;intro _)|(refine zk0 ?_ ?_<;>intro ht)|fail)
    (refine ycn (ycp Tryz.func41 rfl (by kernel_rfl) rfl) (C1) rfl rfl rfl ?_ ?_; (· (exact to_)))
    cases hc : cutOk p with
    | false =>
      rw [if_neg (by simp), if_neg (by simp)]
      repeat' (first|refine zw3 ?_|(refine ta_ ?_;intro _)|(refine zk0 ?_ ?_<;>intro ht)|fail)
      exact nx_ret3 rfl (rv_tmp rfl) (rv_tmp rfl) (rv_tmp rfl) (fun w' s' => ⟨vn2, rfl, s'.picks [0, 1, 0], trivial⟩)
    | true =>
      rw [if_pos rfl]
      cases l with
      | nil =>
        rw [if_neg (by simp)]
        repeat' (first|refine zw270 ?_|(refine ta_ ?_;intro _)|(refine zk0 ?_ ?_<;>intro ht)|fail)
        exact nx_ret3 rfl (rv_tmp rfl) (rv_tmp rfl) (rv_tmp rfl) (fun w' s' => ⟨vn2, rfl, s'.picks [0, 1, 0], trivial⟩)
      | cons x r =>
        have hx := sb x (List.mem_cons_self ..)
        rw [List.length_cons] at sl
        have hlc : (x :: r).length = r.length + 1 := List.length_cons
        have hgd : (x :: r).getD 0 0 = x := rfl
        have hdr : (x :: r).drop 1 = r := rfl
        rw [hgd, hdr]
        by_cases h1 : x ≤ 1
        rotate_left
        · rw [if_neg (fun q => h1 q.2.2.1)]
          repeat' (first|refine zw392 ?_|(refine ta_ ?_;intro _)|(refine zk0 ?_ ?_<;>intro ht)|fail)
          exact nx_ret3 rfl (rv_tmp rfl) (rv_tmp rfl) (rv_tmp rfl) (fun w' s' => ⟨vn2, rfl, s'.picks [0, 1, 0], trivial⟩)
        by_cases h0 : x = 0
        · subst h0
          by_cases hr : r = []
          · subst hr
            rw [if_pos ⟨rfl, by simp, by omega, by simp⟩, decide_eq_true rfl]
            repeat' (first|refine zw393 ?_|(refine ta_ ?_;intro _)|(refine zk0 ?_ ?_<;>intro ht)|fail)
            refine cx_region_any [] [] [] [0, 1, 2, 3, 4, 5, 6, 7] rfl (by kernel_rfl) ?_
            refine tx_run false [0, 1, 2, 3, 4, 5, 6, 7] [] (by kernel_rfl) ?_
            repeat' (first|refine zw394 ?_|(refine ycf ?_;(first|(refine zg0 ?_ ?_<;>intro ht)|(refine tb_ ?_ ?_ ?_;(·exact zc137);(·exact zc166);intro _)))|fail)
            refine nx_tq ?_
            refine tx_end ?_
            repeat' (first|refine zw393 ?_|(refine ta_ ?_;intro _)|(refine zk0 ?_ ?_<;>intro ht)|fail)
            exact nx_ret3 rfl (rv_tmp rfl) (rv_tmp rfl) (rv_tmp rfl) (fun w' s' => ⟨vn2, rfl, s'.picks [0, 1, 0], trivial⟩)
          · have hrl : 0 < r.length := List.length_pos_iff.2 hr
            rw [if_neg (fun q => q.2.2.2 ⟨rfl, by rw [hlc]; omega⟩)]
            repeat' (first|refine zw393 ?_|(refine ta_ ?_;intro _)|(refine zk0 ?_ ?_<;>intro ht)|fail)
            exact nx_ret3 rfl (rv_tmp rfl) (rv_tmp rfl) (rv_tmp rfl) (fun w' s' => ⟨vn2, rfl, s'.picks [0, 1, 0], trivial⟩)
        · have h1' : x = 1 := by omega
          subst h1'
          rw [if_pos ⟨rfl, by simp, by omega, fun q => by omega⟩, decide_eq_false (by omega)]
          repeat' (first|refine zw393 ?_|(refine ta_ ?_;intro _)|(refine zk0 ?_ ?_<;>intro ht)|fail)
          refine cx_region_any [] [] [] [0, 1, 2, 3, 4, 5, 6, 7] rfl (by kernel_rfl) ?_
          refine tx_run false [0, 1, 2, 3, 4, 5, 6, 7] [] (by kernel_rfl) ?_
          repeat' (first|refine zw394 ?_|(refine ycf ?_;(first|(refine zg0 ?_ ?_<;>intro ht)|(refine tb_ ?_ ?_ ?_;(·exact zc137);(·exact zc166);intro _)))|fail)
          refine nx_tq ?_
          refine tx_end ?_
          repeat' (first|refine zw393 ?_|(refine ta_ ?_;intro _)|(refine zk0 ?_ ?_<;>intro ht)|fail)
          exact nx_ret3 rfl (rv_tmp rfl) (rv_tmp rfl) (rv_tmp rfl) (fun w' s' => ⟨vn2, rfl, s'.picks [0, 1, 0], trivial⟩)
end Go.Proofs.YtgeepceieckooaaGreatDoor
end

section
namespace Go.Proofs.YtgeepceieckooaaGreatDoor
open Go Go.Ck
set_option maxHeartbeats 4000000
theorem ESeal_no (bv : Nat) (nm : List Int) (vn vv pv : Value) (q : Hdr) (del : Bool) (hno : ¬ ((1 ≤ nm.length ∧ nm.length ≤ 64) ∧ q.ok)) (h : View) (hsn : Bs8 h vn nm) (hsp : Bs8 h pv q.past) (w : World) (s : St ⟨w, h, []⟩ h [] w) :
    Calls Tryz.prog 9 [.pointer (some ⟨bv, 0, none⟩), vn, .agg (hdc q pv).toArray, vv, .bool del].toArray w fun e w' => e = .returned (.tuple #[.agg zEnv, .int .i64 1]) ∧ St ⟨w, h, []⟩ h [] w' := by
  obtain ⟨_, adn, capn, rfl, hcapn, _⟩ := id hsn
  obtain ⟨_, adp, capp, rfl, hcapp, _⟩ := id hsp
  have HN := name_sp _ nm h hsn
  have HR := hright_sp q _ h hsp
  refine calls_enter Tryz.func9 rfl Tryz.ntmps9 rfl s ?_
  by_cases h1 : 1 ≤ nm.length ∧ nm.length ≤ 64
  · have h2 : ¬ q.ok := fun q2 => hno ⟨h1, q2⟩
    rw [decide_eq_true h1] at HN
    rw [decide_eq_false h2] at HR
    repeat' (first|refine zw208 ?_|(refine ta_ ?_;intro _)|(refine zk0 ?_ ?_<;>intro ht)|fail)
    (refine ycn (ycp Tryz.func22 rfl (by kernel_rfl) rfl) (HN) rfl rfl rfl ?_ ?_; (· (exact to_)))
    repeat' (first|refine zw208 ?_|(refine ta_ ?_;intro _)|(refine zk0 ?_ ?_<;>intro ht)|fail)
    (refine ycn (ycp Tryz.func23 rfl (by kernel_rfl) rfl) (HR) rfl rfl rfl ?_ ?_; (· (exact to_)))
    repeat' (first|refine zw395 ?_|(refine ta_ ?_;intro _)|(refine zk0 ?_ ?_<;>intro ht)|fail)
    exact nx_ret2 rfl (rv_cells rfl (yaz 0 rfl) rfl) (rv_tmp rfl) (fun w' s' => ⟨rfl, s'.nil⟩)
  · rw [decide_eq_false h1] at HN
    repeat' (first|refine zw208 ?_|(refine ta_ ?_;intro _)|(refine zk0 ?_ ?_<;>intro ht)|fail)
    (refine ycn (ycp Tryz.func22 rfl (by kernel_rfl) rfl) (HN) rfl rfl rfl ?_ ?_; (· (exact to_)))
    repeat' (first|refine zw395 ?_|(refine ta_ ?_;intro _)|(refine zk0 ?_ ?_<;>intro ht)|fail)
    exact nx_ret2 rfl (rv_cells rfl (yaz 0 rfl) rfl) (rv_tmp rfl) (fun w' s' => ⟨rfl, s'.nil⟩)
theorem EOpen_name (bv : Nat) (nm ek : List Int) (vn pv sv : Value) (q : Hdr) (hno : ¬ (1 ≤ nm.length ∧ nm.length ≤ 64)) (h : View) (hsn : Bs8 h vn nm) (w : World) (s : St ⟨w, h, []⟩ h [] w) :
    Calls Tryz.prog 12 [.pointer (some ⟨bv, 0, none⟩), vn, .agg (envc ek q pv sv).toArray].toArray w fun e w' => e = .returned (.tuple #[.slice none 0 0, .bool false, .int .i64 1]) ∧ St ⟨w, h, []⟩ h [] w' := by
  obtain ⟨_, adn, capn, rfl, hcapn, _⟩ := id hsn
  have HN := name_sp _ nm h hsn
  rw [decide_eq_false hno] at HN
  refine calls_enter Tryz.func12 rfl Tryz.ntmps12 rfl s ?_
  repeat' (first|refine zw396 ?_|(refine ta_ ?_;intro _)|(refine zk0 ?_ ?_<;>intro ht)|fail)
  (refine ycn (ycp Tryz.func22 rfl (by kernel_rfl) rfl) (HN) rfl rfl rfl ?_ ?_; (· (exact to_)))
  repeat' (first|refine zw396 ?_|(refine ta_ ?_;intro _)|(refine zk0 ?_ ?_<;>intro ht)|fail)
  exact nx_ret3 rfl (rv_tmp rfl) (rv_tmp rfl) (rv_tmp rfl) (fun w' s' => ⟨rfl, s'.nil⟩)
theorem EOpen_bad (bv : Nat) (nm ek se : List Int) (vn pv sv : Value) (q : Hdr) (hnl : 1 ≤ nm.length ∧ nm.length ≤ 64) (he32 : ek.length = 32) (hno : ¬ (q.ok ∧ 16 ≤ se.length ∧ se.length ≤ 8192)) (h : View) (hsn : Bs8 h vn nm) (hsp : Bs8 h pv q.past) (hss : Bs8 h sv se) (w : World) (s : St ⟨w, h, []⟩ h [] w) :
    Calls Tryz.prog 12 [.pointer (some ⟨bv, 0, none⟩), vn, .agg (envc ek q pv sv).toArray].toArray w fun e w' => e = .returned (.tuple #[.slice none 0 0, .bool false, .int .i64 2]) ∧ St ⟨w, h, []⟩ h [] w' := by
  obtain ⟨_, adn, capn, rfl, hcapn, _⟩ := id hsn
  have HN := name_sp _ nm h hsn
  rw [decide_eq_true hnl] at HN
  have HR := eright_sp ek q pv sv se he32 h hsp hss
  rw [decide_eq_false hno] at HR
  have hel : (envc ek q pv sv).length = 38 := by simp [envc, hdc, bcs_len, he32]
  refine calls_enter Tryz.func12 rfl Tryz.ntmps12 rfl s ?_
  repeat' (first|refine zw397 ?_|(refine ta_ ?_;intro _)|(refine zk0 ?_ ?_<;>intro ht)|fail)
  (refine ycn (ycp Tryz.func22 rfl (by kernel_rfl) rfl) (HN) rfl rfl rfl ?_ ?_; (· (exact to_)))
  repeat' (first|refine zw397 ?_|(refine ta_ ?_;intro _)|(refine zk0 ?_ ?_<;>intro ht)|fail)
  (refine ycn (ycp Tryz.func36 rfl (by kernel_rfl) rfl) (HR) rfl rfl rfl ?_ ?_; (· (exact to_)))
  repeat' (first|refine zw397 ?_|(refine ta_ ?_;intro _)|(refine zk0 ?_ ?_<;>intro ht)|fail)
  exact nx_ret3 rfl (rv_tmp rfl) (rv_tmp rfl) (rv_tmp rfl) (fun w' s' => ⟨rfl, s'.nil⟩)
end Go.Proofs.YtgeepceieckooaaGreatDoor
end

section
namespace Go.Proofs.YtgeepceieckooaaGreatDoor
open Go Go.Ck
set_option maxHeartbeats 4000000
theorem qv_eqD {P : Program} {n : Nat} {F : List (Nat × Value)} {h : View} {L : List Res} {o : Oper} {v u : Value} (hq : QV P n F h L o v) (e : v = u) : QV P n F h L o u := e ▸ hq
def qOf (a : AskD) : Hdr := ⟨a.ep, a.ct, a.cl, a.nu, a.past.take 100⟩
theorem askHead_sp (a : AskD) (vn vp vv : Value) (h : View) (ha : a.by') (hp : Bs8 h vp a.past) (hvn : vn.oneCell' = true) (hvv : vv.oneCell' = true) (w : World) (s : St ⟨w, h, []⟩ h [] w) :
    Calls Tryz.prog 8 [.agg (askc a vn vp vv).toArray].toArray w fun e w' => ∃ v : Value, e = .returned (.tuple #[.agg (hdc (qOf a) v).toArray, .agg (renv [] (qOf a) []).toArray]) ∧ St ⟨w, h, []⟩ h [rowB v (a.past.take 100)] w' ∧ True := by
  have C1 := cut_sp vp a.past 100 (by omega) (by have := ha.2.2.2.2.1; omega) h hp
  have yt : Bytes (a.past.take 100) := bytes_take ha.2.1 100
  have tl : (a.past.take 100).length ≤ 100 := by rw [List.length_take]; omega
  obtain ⟨q, hq⟩ : ∃ q, q = qOf a := ⟨_, rfl⟩
  rw [← hq]
  have q1 : a.ep = q.ep := by rw [hq]; rfl
  have q2 : a.ct = q.ct := by rw [hq]; rfl
  have q5 : a.past.take 100 = q.past := by rw [hq]; rfl
  rw [q5] at C1 yt tl ⊢
  have qc3 : a.cl = q.cl := by rw [hq]; rfl
  have qc4 : a.nu = q.nu := by rw [hq]; rfl
  have eas : askc a vn vp vv = [vn, .int .i64 q.ep, .int .i64 q.ct, .int .i64 q.cl, .int .i64 q.nu, vp, vv, .bool a.del] := by rw [← q1, ← q2, ← qc3, ← qc4]; rfl
  rw [eas]
  clear eas q1 q2 q5 qc3 qc4
  obtain ⟨_, adp, capp, rfl, _, _⟩ := id hp
  refine calls_enter Tryz.func8 rfl Tryz.ntmps8 rfl s ?_
  repeat' (first|refine tw_ ?_|(refine ta_ ?_;intro _)|(refine zk0 ?_ ?_<;>intro ht)|fail)
  refine yco (ycp Tryz.func7 rfl (by kernel_rfl) rfl) C1 rfl rfl rfl ybf (fun _ _ _ => ybf) ?_
  intro v _ _
  repeat' (first|refine tw_ ?_|(refine ta_ ?_;intro _)|(refine zk0 ?_ ?_<;>intro ht)|fail)
  rename_i b1 b2 b3 _ _
  have hdot : ∀ (h' : View) (L : List Res), L[0]? = some (Res.blk b1 (.cells #[vn, .int .i64 q.ep, .int .i64 q.ct, .int .i64 q.cl, .int .i64 q.nu, .slice adp a.past.length capp, vv, .bool a.del] 26 (0, 0))) → Cells h' L ⟨b1, 0 + 3, none⟩ [.int .i64 q.cl, .int .i64 q.nu] := fun h' L hL => ((yaz 0 hL).drop 3).take 2
  refine cx_rowform 0 rfl ?_ ?_
  · rintro rfl e0 e1
    have ep0 : q.past = [] := List.eq_nil_of_length_eq_zero e0
    have hbz : Bs8 h (.slice none 0 0) [] := Sc.nil h 1 none 0
    have ebz : Value.string (bstr []) = .string (bstr q.past) := by rw [ep0]
    have hfh : fillL (fun i : Nat => ([(0, 1), (1, 1), (2, 2), (4, 1)] : List (Nat × Nat))[i]?) [.int .i64 0, .int .i64 0, .int .i64 0, .int .i64 0, .slice none 0 0] [(0, .int .i64 q.ep), (1, .int .i64 q.ct), (2, .agg #[.int .i64 q.cl, .int .i64 q.nu]), (3, .slice none 0 0)] = some (hdc q (.slice none 0 0)) := by kernel_rfl
    have hfe : fillL (fun i : Nat => ([(0, 1), (1, 1), (2, 1), (3, 2), (5, 1), (6, 1)] : List (Nat × Nat))[i]?) [.string ⟨#[]⟩, .int .i64 0, .int .i64 0, .int .i64 0, .int .i64 0, .string ⟨#[]⟩, .string ⟨#[]⟩] [(1, .int .i64 q.ep), (2, .int .i64 q.ct), (3, .agg #[.int .i64 q.cl, .int .i64 q.nu]), (4, .string (bstr q.past))] = some (renv [] q []) := by kernel_rfl
    refine cx_region_any [Res.blk b1 (.cells #[vn, .int .i64 q.ep, .int .i64 q.ct, .int .i64 q.cl, .int .i64 q.nu, .slice adp a.past.length capp, vv, .bool a.del] 26 (0, 0)), rowB (.slice none 0 0) q.past] [17, 18] [] [0, 1, 2, 3, 4, 5, 6, 7, 8, 9, 10, 11, 12, 13, 14, 15, 16, 17, 18] rfl (by kernel_rfl) ?_
    refine tx_run false [0, 1, 2, 3, 4, 5, 6, 7, 8, 9, 10, 11, 12, 13, 14, 15, 16] [17, 18] (by kernel_rfl) ?_
    repeat' (first|refine zw398 ?_|(refine ycf ?_;(first|(refine zg0 ?_ ?_<;>intro ht)|(refine tb_ ?_ ?_ ?_;(·exact zc140);(·exact zc167);intro _)))|fail)
    refine nx_tq ?_
    refine tx_1 false 17 [18] (by kernel_rfl) ?_
    refine ybg 2 rfl rfl rfl rfl (Nat.le_of_ble_eq_true rfl) rfl (ybh rfl) rfl rfl ?_ ?_ ?_
    · (first|exact ybf|(refine .inl ?_;(exact fun _ s => hd_m (Le.refl _) (all_m2 tmh_ tmh_) _ s))|exact to_)
    · (first|exact ybf|(refine .inl ?_;(exact fun _ s => hd_m (Le.refl _) (all_m2 tmh_ tmh_) _ s))|exact to_)
    refine ycg ?_
    refine nx_tq ?_
    refine tx_1 false 18 [] (by kernel_rfl) ?_
    refine ybg 1 rfl rfl rfl rfl (Nat.le_of_ble_eq_true rfl) rfl (ybh rfl) rfl rfl ?_ ?_ ?_
    · (first|exact ybf|(refine .inl ?_;(exact fun _ s => hd_m (Le.refl _) (all_m2 tmh_ tmh_) _ s))|exact to_)
    · (first|exact ybf|(refine .inl ?_;(exact fun _ s => hd_m (Le.refl _) (all_m2 tmh_ tmh_) _ s))|exact to_)
    refine ycg ?_
    refine nx_tq ?_
    refine tx_end ?_
    refine yby ?_
    refine ybr ?_
    exact nx_ret2 rfl (rv_cells rfl (yaz 2 rfl) rfl) (rv_cells rfl (yaz 1 rfl) rfl) (fun w' s' => ⟨_, rfl, s'.picks [0], trivial⟩)
  · rintro g cap rfl
    have hfh : fillL (fun i : Nat => ([(0, 1), (1, 1), (2, 2), (4, 1)] : List (Nat × Nat))[i]?) [.int .i64 0, .int .i64 0, .int .i64 0, .int .i64 0, .slice none 0 0] [(0, .int .i64 q.ep), (1, .int .i64 q.ct), (2, .agg #[.int .i64 q.cl, .int .i64 q.nu]), (3, .slice (some ⟨g, 0, none⟩) q.past.length cap)] = some (hdc q (.slice (some ⟨g, 0, none⟩) q.past.length cap)) := by kernel_rfl
    have hfe : fillL (fun i : Nat => ([(0, 1), (1, 1), (2, 1), (3, 2), (5, 1), (6, 1)] : List (Nat × Nat))[i]?) [.string ⟨#[]⟩, .int .i64 0, .int .i64 0, .int .i64 0, .int .i64 0, .string ⟨#[]⟩, .string ⟨#[]⟩] [(1, .int .i64 q.ep), (2, .int .i64 q.ct), (3, .agg #[.int .i64 q.cl, .int .i64 q.nu]), (4, .string (bstr q.past))] = some (renv [] q []) := by kernel_rfl
    refine cx_region_any [Res.blk b1 (.cells #[vn, .int .i64 q.ep, .int .i64 q.ct, .int .i64 q.cl, .int .i64 q.nu, .slice adp a.past.length capp, vv, .bool a.del] 26 (0, 0)), rowB (.slice (some ⟨g, 0, none⟩) q.past.length cap) q.past] [17, 18] [] [0, 1, 2, 3, 4, 5, 6, 7, 8, 9, 10, 11, 12, 13, 14, 15, 16, 17, 18] rfl (by kernel_rfl) ?_
    refine tx_run false [0, 1, 2, 3, 4, 5, 6, 7, 8, 9, 10, 11, 12, 13, 14, 15, 16] [17, 18] (by kernel_rfl) ?_
    repeat' (first|refine zw399 ?_|(refine ycf ?_;(first|(refine zg0 ?_ ?_<;>intro ht)|(refine tb_ ?_ ?_ ?_;(·exact zc140);(·exact zc167);intro _)))|fail)
    refine nx_tq ?_
    refine tx_1 false 17 [18] (by kernel_rfl) ?_
    refine ybg 2 rfl rfl rfl rfl (Nat.le_of_ble_eq_true rfl) rfl (ybh rfl) rfl rfl ?_ ?_ ?_
    · (first|exact ybf|(refine .inl ?_;(exact fun _ s => hd_m (Le.refl _) (all_m2 tmh_ tmh_) _ s))|exact to_)
    · (first|exact ybf|(refine .inl ?_;(exact fun _ s => hd_m (Le.refl _) (all_m2 tmh_ tmh_) _ s))|exact to_)
    refine ycg ?_
    refine nx_tq ?_
    refine tx_1 false 18 [] (by kernel_rfl) ?_
    refine ybg 1 rfl rfl rfl rfl (Nat.le_of_ble_eq_true rfl) rfl (ybh rfl) rfl rfl ?_ ?_ ?_
    · (first|exact ybf|(refine .inl ?_;(exact fun _ s => hd_m (Le.refl _) (all_m2 tmh_ tmh_) _ s))|exact to_)
    · (first|exact ybf|(refine .inl ?_;(exact fun _ s => hd_m (Le.refl _) (all_m2 tmh_ tmh_) _ s))|exact to_)
    refine ycg ?_
    refine nx_tq ?_
    refine tx_end ?_
    refine yby ?_
    refine ybr ?_
    exact nx_ret2 rfl (rv_cells rfl (yaz 2 rfl) rfl) (rv_cells rfl (yaz 1 rfl) rfl) (fun w' s' => ⟨_, rfl, s'.picks [0], trivial⟩)
end Go.Proofs.YtgeepceieckooaaGreatDoor
end

section
namespace Go.Ck
open Go
section
variable {P : Program} {n : Nat} {K : Bs} {F : List (Nat × Value)} {h : View} {L : List Res} {Q : Exit → Act → World → Prop}
variable {dst : Option Nat} {ty : Nat} {pos : String} {af : Array Edge} {gd : Option (Nat × Bool)}
theorem rx_copy_s {g : Rg} {i : Nat} {r : List (Nat × Oper)} {T T2 e : Nat} {x y : Operand} {b o dLen dCap by' m : Nat} {z sv : Value} {cs : Array Value} {e' : TypeId} {news : List Value} (k : Nat) [tu : TyU P T (.slice e)] [tb : TyB P e z 1 by']
    (hx : ev F x = some (.slice (some ⟨b, o, none⟩) dLen dCap)) (hy : ev F y = some sv) (hk : L[k]? = some (Res.blk b (.cells cs e' (0, 0)))) (hsrc : Src P h L sv m news) (hm : m ≤ dLen)
    (hfit : o + news.length ≤ cs.size) (h1 : ∀ u ∈ news, u.oneCell' = true) {cs' : List Value} (hcs : spl cs.toList o news = cs')
    (hw : wantedF g.ops F ⟨dst, .call ⟨.builtin .copy, #[x, y], #[T, T2]⟩, ty, pos, af, gd⟩ = some true) (hd : okd n dst = true) (hl : g.lo i = true) (o1 : Owe g i h L) (o2 : Owe g i h (L.set k (Res.blk b (.cells cs'.toArray e' (0, 0)))))
    (hn : RX P n K g r (putF dst (.int .i64 news.length) F) h (L.set k (Res.blk b (.cells cs'.toArray e' (0, 0)))) Q) : RX P n K g ((i, ⟨dst, .call ⟨.builtin .copy, #[x, y], #[T, T2]⟩, ty, pos, af, gd⟩) :: r) F h L Q := by
  unfold RX at *
  intro ac w f s
  subst hcs
  obtain ⟨inf, hi, _, hsize, _⟩ := tb.ex
  have hb : w.heap[b]? = some (.cells cs e' (0, 0)) := s.hd.own _ (List.mem_of_getElem? hk)
  have e1 := hsrc.len w
  have e2 := hsrc.cells w s.hd
  have hst := run_storeCells_at P b o e' news 0 cs w hb (by simpa using hfit) h1
  have hmin : Nat.min m dLen = m := Nat.min_eq_left hm
  have hnl := hsrc.nl
  have hrun : (Builtin.copy_ #[T, T2] ty #[.slice (some ⟨b, o, none⟩) dLen dCap, sv]).run P w = .ok (goInt news.length) (w.setRow b (spl cs.toList o news).toArray) := by
    simp [Builtin.copy_, run_underlying tu.u, sizeOf, typeInfo, hi, hsize, e1, hmin, e2, hst, hnl, spl]
  have hex : (execOp ac.eval ⟨dst, .call ⟨.builtin .copy, #[x, y], #[T, T2]⟩, ty, pos, af, gd⟩).run P w = .ok (.value (.int .i64 news.length)) (w.setRow b (spl cs.toList o news).toArray) := by
    simp [execOp, resolve, invoke, builtin, f.ev hx, f.ev hy, hrun, goInt, spl]
  have s' : St K h (L.set k (Res.blk b (.cells (spl cs.toList o news).toArray e' (0, 0)))) (w.setRow b (spl cs.toList o news).toArray) :=
    s.writeAt hk rfl rfl rfl (by simp) (by simp) (fun j hj => setRow_other w b j _ hj) (setRow_heap w b cs _ e' _ hb)
  refine .inr (.inr ⟨wantedF_ok f hw, hl, o1.out s, ?_⟩)
  unfold Oper.wp
  rw [hex]
  exact ⟨o2.out s', hn _ _ (f.put hd _) s'⟩
end
end Go.Ck
end

section
namespace Go.Proofs.YtgeepceieckooaaGreatDoor
open Go Go.Ck
set_option maxHeartbeats 4000000
theorem spl_envc {z ek : List Int} {q : Hdr} {v1 v2 : Value} (hz : z.length = 32) (he : ek.length = 32) : spl (envc z q v1 v2) 0 (bcs ek) = envc ek q v1 v2 := by
  unfold spl envc
  rw [List.take_zero, List.nil_append, bcs_len, he, Nat.zero_add, List.drop_append, List.drop_of_length_le (by rw [bcs_len]; omega), bcs_len, hz]
  rfl
theorem envc_lenD {ek : List Int} {q : Hdr} {v1 v2 : Value} (he : ek.length = 32) : (envc ek q v1 v2).length = 38 := by simp [envc, hdc, bcs_len, he]
theorem eto_sp (ek : List Int) (q : Hdr) (se : List Int) (he : ek.length = 32) (ye : Bytes ek) (yp : Bytes q.past) (ys : Bytes se) (hp : q.past.length ≤ 900000) (hs : se.length ≤ 900000) (h : View) (w : World) (s : St ⟨w, h, []⟩ h [] w) :
    Calls Tryz.prog 13 [.agg (renv ek q se).toArray].toArray w fun e w' => ∃ x : View × Value × Value, e = .returned (.agg (envc ek q x.2.1 x.2.2).toArray) ∧ St ⟨w, h, []⟩ x.1 [] w' ∧ (Bs8 x.1 x.2.1 q.past ∧ Bs8 x.1 x.2.2 se) := by
  refine calls_enter Tryz.func13 rfl Tryz.ntmps13 rfl s ?_
  repeat' (first|refine tw_ ?_|(refine ta_ ?_;intro _)|(refine zk0 ?_ ?_<;>intro ht)|fail)
  rename_i b1 b2
  have hdot : ∀ (h' : View) (L : List Res) (k : Nat), L[k]? = some (Res.blk b1 (.cells (renv ek q se).toArray 28 (0, 0))) → Cells h' L ⟨b1, 0 + 3, none⟩ [.int .i64 q.cl, .int .i64 q.nu] := fun h' L k hL => ((yaz k hL).drop 3).take 2
  repeat' (first|refine zw400 ?_|(refine ta_ ?_;intro _)|(refine zk0 ?_ ?_<;>intro ht)|fail)
  refine rx_bytes_s rfl (bstr_bcs yp) (by rw [bstr_size]; unfold maxLen; omega) rfl rfl rfl ybf (fun _ => ybf) ?_
  intro v1
  rw [bcs_len]
  refine rx_srowsl 0 rfl ?_
  rintro ad1 cap1 rfl
  have hfh : fillL (fun i : Nat => ([(0, 1), (1, 1), (2, 2), (4, 1)] : List (Nat × Nat))[i]?) [.int .i64 0, .int .i64 0, .int .i64 0, .int .i64 0, .slice none 0 0] [(0, .int .i64 q.ep), (1, .int .i64 q.ct), (2, .agg #[.int .i64 q.cl, .int .i64 q.nu]), (3, .slice ad1 q.past.length cap1)] = some (hdc q (.slice ad1 q.past.length cap1)) := by kernel_rfl
  repeat' (first|refine zw401 ?_|(refine ta_ ?_;intro _)|(refine zk0 ?_ ?_<;>intro ht)|fail)
  refine rx_bytes_s rfl (bstr_bcs ys) (by rw [bstr_size]; unfold maxLen; omega) rfl rfl rfl ybf (fun _ => ybf) ?_
  intro v2
  rw [bcs_len]
  refine rx_srowsl 0 rfl ?_
  rintro ad2 cap2 rfl
  have hfz : fillL (fun i : Nat => ([(0, 32), (32, 5), (37, 1)] : List (Nat × Nat))[i]?) zEnv.toList [(1, .agg (hdc q (.slice ad1 q.past.length cap1)).toArray), (2, .slice ad2 se.length cap2)] = some (envc (List.replicate 32 0) q (.slice ad1 q.past.length cap1) (.slice ad2 se.length cap2)) := by kernel_rfl
  have ho0 : ∀ u ∈ envc (List.replicate 32 0) q (.slice ad1 q.past.length cap1) (.slice ad2 se.length cap2), u.oneCell' = true := List.all_eq_true.1 rfl
  have ho1 : ∀ u ∈ envc ek q (.slice ad1 q.past.length cap1) (.slice ad2 se.length cap2), u.oneCell' = true := fun u hu => by
    unfold envc at hu
    rcases List.mem_append.1 hu with hu | hu
    · exact bcs_one ek u hu
    · exact List.all_eq_true.1 (show ([.int .i64 q.ep, .int .i64 q.ct, .int .i64 q.cl, .int .i64 q.nu, .slice ad1 q.past.length cap1, .slice ad2 se.length cap2] : List Value).all Value.oneCell' = true from rfl) u hu
  repeat' (first|refine zw402 ?_|(refine ta_ ?_;intro _)|(refine zk0 ?_ ?_<;>intro ht)|fail)
  rename_i b3
  refine cx_region_any [Res.blk b1 (.cells (renv ek q se).toArray 28 (0, 0))] [4] [] [0, 1, 2, 3, 4] rfl (by kernel_rfl) ?_
  refine tx_run false [0, 1, 2, 3] [4] (by kernel_rfl) ?_
  repeat' (first|refine zw403 ?_|(refine ycf ?_;(first|(refine zg0 ?_ ?_<;>intro ht)|(refine tb_ ?_ ?_ ?_;(·exact zc135);(·exact zc165);intro _)))|fail)
  refine nx_tq ?_
  refine tx_1 false 4 [] (by kernel_rfl) ?_
  refine rx_copy_s 0 rfl rfl rfl (src_str (m := ek.length) (bstr_size _) (bstr_bcs ye)) (by omega) (by rw [bcs_len, he]; exact Nat.le_of_ble_eq_true rfl) (bcs_one ek) (spl_envc (by simp) he) rfl rfl rfl ?_ ?_ ?_
  · (first|exact ybf|(refine .inl ?_;(exact fun _ s => hd_m (Le.refl _) (all_m1 tmh_) _ s))|exact to_)
  · (first|exact ybf|(refine .inl ?_;(exact fun _ s => hd_m (Le.refl _) (all_m1 tmh_) _ s))|exact to_)
  refine ycg ?_
  refine nx_tq ?_
  refine tx_end ?_
  have hsz : (envc ek q (.slice ad1 q.past.length cap1) (.slice ad2 se.length cap2)).toArray.size = 38 := by rw [List.size_toArray, envc_lenD he]
  refine yby ?_
  refine cx_st (L' := [Res.srow 5 (.slice ad1 q.past.length cap1) q.past.length (bcs q.past), Res.srow 5 (.slice ad2 se.length cap2) se.length (bcs se), Res.blk b3 (.cells (envc ek q (.slice ad1 q.past.length cap1) (.slice ad2 se.length cap2)).toArray 41 (0, 0)), Res.blk b2 (.cells zEnv 41 (0, 0))]) (fun w s => s.picks [2, 1, 0, 0]) ?_
  refine cx_persist_s rfl fun h1 hl1 p1 => ?_
  refine cx_persist_s rfl fun h2 hl2 p2 => ?_
  repeat' (first|refine zw404 ?_|(refine ta_ ?_;intro _)|(refine zk0 ?_ ?_<;>intro ht)|fail)
  exact nx_ret1 rfl (rv_cells rfl (yaz 1 rfl) (by show (envc ek q (.slice ad1 q.past.length cap1) (.slice ad2 se.length cap2)).length = 38; exact envc_lenD he)) (fun w' s' => ⟨(h2, .slice ad1 q.past.length cap1, .slice ad2 se.length cap2), rfl, s'.nil, Sc.mono p1 hl2, p2⟩)
end Go.Proofs.YtgeepceieckooaaGreatDoor
end

section
namespace Go.Ck
open Go
def cReg (id : Nat) : Code → Option Code
  | .region i o d => if Nat.beq i id then some (.region i o d) else none
  | .seq a b => match cReg id a with | some c => some c | none => cReg id b
  | .cond _ a b => match cReg id a with | some c => some c | none => cReg id b
  | .loop a => cReg id a
  | .block _ a => cReg id a
  | _ => none
def cGet : Option Code → Code
  | some c => c
  | none => .skip
section
variable {P : Program} {n : Nat} {K : Bs} {F F' : List (Nat × Value)} {h : View} {L L' : List Res} {Q : Exit → Act → World → Prop}
end
end Go.Ck
end

section
namespace Go.Proofs.YtgeepceieckooaaGreatDoor
open Go Go.Ck
set_option maxHeartbeats 4000000
def cDrop : Nat → Code → Code
  | 0, c => c
  | k + 1, .seq _ b => cDrop k b
  | _, _ => .skip
theorem sealsE_sp (h : View) (w : World) (s : St ⟨w, h, []⟩ h [] w) : Calls Tryz.prog 11 [].toArray w fun e w' => ∃ h' : View, e = .returned (.bool true) ∧ St ⟨w, h, []⟩ h' [] w' ∧ True := by
  have H := seals_sp h w s
  exact H.mono fun e w' he => by
    obtain ⟨h', h1, h2⟩ := he
    exact ⟨h', h1, h2, trivial⟩
theorem openT_true : OpenC true := fun bv key bn bu bt N T nm ek se vn pv sv q hk hk32 he32 hN hNl hTl hnm hnl hok hsl h hT hv hsn hsp hss ye yp ys hg w s =>
  EOpen_sp bv key bn bu bt N T nm ek se vn pv sv q hk hk32 he32 hN hNl hTl hnm hnl hok hsl h hT hv hsn hsp hss w s
theorem EO_C (w0 : World) (h0 : View) (idl : Bool) (key : List Int) (bv bn bu bt bw b5 : Nat) (vn vN vL : Value) (N : List (List Int)) (T : Tab) (D : List Sd) (nm k2 s2 : List Int) (q2 : Hdr)
    (hk : Bytes key) (hk32 : key.length = 32) (hN : Names N) (hNl : N.length < 900000) (hDl : D.length < 900000) (hD : ∀ x ∈ D, x.by' ∧ x.b.length ≤ 900000) (hTD : TabOf idl T D) (hTl : ∀ x ∈ T, x.2.2.length ≤ 900000 ∧ Bytes x.2.2)
    (hn : Bytes nm) (yk : Bytes k2) (kl : k2.length = 32) (yp : Bytes q2.past) (pl : q2.past.length ≤ 900000) (ys : Bytes s2) (sl : s2.length ≤ 900000)
    (h : View) (hT : TbOk h T) (hv : Vb h bv idl key bn bu bt) (hsn : Bs8 h vn nm) (hg : ShG h) :
    CX Tryz.prog 151 ⟨w0, h0, []⟩ (cDrop 11 (cGet Tryz.f3.body)) [(5, .pointer (some ⟨b5, 0, none⟩)), (7, .pointer (some ⟨bv, 0, none⟩)), (8, .pointer (some ⟨bw, 0, none⟩)), (9, vn)] h
      [Res.blk b5 (.cells (renv k2 q2 s2).toArray 28 (0, 0)), dvB bw idl key vN vL, rowN vN N, rowSd vL D, nmR bn N, tbR bt T]
      (bodyPost Tryz.prog Tryz.f3 (fun e w' => ∃ h' : View, e = .returned (.bool true) ∧ St ⟨w0, h0, []⟩ h' [] w')) := by
  have HO : OpenC idl := by cases idl; (· exact openC_false); (· exact openT_true)
  have E1 := eto_sp k2 q2 s2 kl yk yp ys pl sl h
  have E2 := openX_D hTD (fun x hx => (hD x hx).1) key N nm k2 q2 s2 yk yp ys
  refine ybo ?_
  repeat' (first|refine zw405 ?_|(refine ta_ ?_;intro _)|(refine zk0 ?_ ?_<;>intro ht)|fail)
  (refine yco (ycp Tryz.func13 rfl (by kernel_rfl) rfl) (E1) rfl rfl rfl ?_ ?_ ?_; (· (exact to_)); (·exact zc153); intro x px hle)
  obtain ⟨h1, pv, sv⟩ := x
  dsimp only at px hle ⊢
  obtain ⟨hp1, hs1⟩ := px
  have hle1 : Le h h1 := hle
  clear hle
  have hn1 := hsn.mono hle1
  have hv1 := hv.mono hle1
  have hT1 := hT.mono hle1
  have hg1 := hg.mono hle1
  by_cases hnl : 1 ≤ nm.length ∧ nm.length ≤ 64
  · by_cases hr : q2.ok ∧ 16 ≤ s2.length ∧ s2.length ≤ 8192
    · have O1 := HO bv key bn bu bt N T nm k2 s2 vn pv sv q2 hk hk32 kl hN hNl hTl hn hnl hr.1 hr.2 h1 hT1 hv1 hn1 hp1 hs1 yk yp ys (fun _ => hg1)
      rw [E2] at O1
      have O2 := fun (h : View) => rEOpen_sp bw idl key vN vL N D nm k2 s2 q2 hk hk32 hN hNl hDl hD hn hnl hr.1 yp yk kl ys hr.2 h
      generalize openD idl key N D nm k2 q2 s2 = O at O1 O2
      refine rx_call_l (ycp Tryz.func12 rfl (by kernel_rfl) rfl) (pick2 4 4 rfl rfl) O1 rfl rfl rfl ybf (fun _ _ _ => ybf) ?_
      rintro ⟨h2, v2⟩ hv2 hle2
      dsimp only at hv2 hle2 ⊢
      have hn2 := hn1.mono hle2
      repeat' (first|refine zw406 ?_|(refine ta_ ?_;intro _)|(refine zk0 ?_ ?_<;>intro ht)|fail)
      refine rx_call_l (ycp Tryz.func14 rfl (by kernel_rfl) rfl) (pick3 3 3 3 rfl rfl rfl) (O2 h2) rfl rfl rfl ybf (fun _ _ _ => ybf) ?_
      intro vN2 _ _
      repeat' (first|refine zw189 ?_|(refine ta_ ?_;intro _)|(refine zk0 ?_ ?_<;>intro ht)|fail)
      (refine yco (ycp Tryz.func11 rfl (by kernel_rfl) rfl) (sealsE_sp h2) rfl rfl rfl ?_ ?_ ?_; (· (exact to_)); (·exact zc153); intro x px hle)
      have hv3 : Bs8 x v2 O.1 := hv2.mono hle
      repeat' (first|refine zw407 ?_|(refine ta_ ?_;intro _)|(refine zk0 ?_ ?_<;>intro ht)|fail)
      exact nx_ret1 rfl (rv_tmp rfl) (fun w' s' => ⟨x, rfl, s'.nil⟩)
    · have O1 := EOpen_bad bv nm k2 s2 vn pv sv q2 hnl kl hr h1 hn1 hp1 hs1
      have O2 := rEOpen_bad (.pointer (some ⟨bw, 0, none⟩)) nm k2 q2 s2 hnl (fun hx => hr ⟨hx.1, hx.2.2⟩) (by omega) (by omega) h1
      (refine ycn (ycp Tryz.func12 rfl (by kernel_rfl) rfl) (O1) rfl rfl rfl ?_ ?_; (· (exact to_)))
      repeat' (first|refine zw408 ?_|(refine ta_ ?_;intro _)|(refine zk0 ?_ ?_<;>intro ht)|fail)
      (refine ycn (ycp Tryz.func14 rfl (by kernel_rfl) rfl) (O2) rfl rfl rfl ?_ ?_; (· (exact to_)))
      repeat' (first|refine zw189 ?_|(refine ta_ ?_;intro _)|(refine zk0 ?_ ?_<;>intro ht)|fail)
      (refine yco (ycp Tryz.func11 rfl (by kernel_rfl) rfl) (sealsE_sp h1) rfl rfl rfl ?_ ?_ ?_; (· (exact to_)); (·exact zc153); intro x px hle)
      have hv3 : Bs8 x (.slice none 0 0) [] := Sc.nil _ _ _ _
      repeat' (first|refine zw407 ?_|(refine ta_ ?_;intro _)|(refine zk0 ?_ ?_<;>intro ht)|fail)
      exact nx_ret1 rfl (rv_tmp rfl) (fun w' s' => ⟨x, rfl, s'.nil⟩)
  · have O1 := EOpen_name bv nm k2 vn pv sv q2 hnl h1 hn1
    have O2 := rEOpen_name (.pointer (some ⟨bw, 0, none⟩)) nm k2 q2 s2 hnl h1
    (refine ycn (ycp Tryz.func12 rfl (by kernel_rfl) rfl) (O1) rfl rfl rfl ?_ ?_; (· (exact to_)))
    repeat' (first|refine zw408 ?_|(refine ta_ ?_;intro _)|(refine zk0 ?_ ?_<;>intro ht)|fail)
    (refine ycn (ycp Tryz.func14 rfl (by kernel_rfl) rfl) (O2) rfl rfl rfl ?_ ?_; (· (exact to_)))
    repeat' (first|refine zw189 ?_|(refine ta_ ?_;intro _)|(refine zk0 ?_ ?_<;>intro ht)|fail)
    (refine yco (ycp Tryz.func11 rfl (by kernel_rfl) rfl) (sealsE_sp h1) rfl rfl rfl ?_ ?_ ?_; (· (exact to_)); (·exact zc153); intro x px hle)
    have hv3 : Bs8 x (.slice none 0 0) [] := Sc.nil _ _ _ _
    repeat' (first|refine zw407 ?_|(refine ta_ ?_;intro _)|(refine zk0 ?_ ?_<;>intro ht)|fail)
    exact nx_ret1 rfl (rv_tmp rfl) (fun w' s' => ⟨x, rfl, s'.nil⟩)
end Go.Proofs.YtgeepceieckooaaGreatDoor
end

section
namespace Go.Proofs.YtgeepceieckooaaGreatDoor
open Go Go.Ck
set_option maxHeartbeats 4000000
theorem minE {l : List Int} {n j : Nat} (hj : j = min l.length n) : (if ((n : Nat) : Int) < ((l.length : Nat) : Int) then ((n : Nat) : Int) else ((l.length : Nat) : Int)) = ((j : Nat) : Int) := by subst hj;split<;>omega
theorem qv_str_addW {P : Program} {n : Nat} {F : List (Nat × Value)} {h : View} {L : List Res} {dst : Option Nat} {ty : Nat} {pos : String} {af : Array Edge} {gd : Option (Nat × Bool)} {T T' : Nat} {x y : Operand} {a b c : ByteArray} (hx : ev F x = some (.string a)) (hy : ev F y = some (.string b)) (hs : a ++ b = c) (hb : a.size + b.size ≤ 9223372036854775807) :
    QV P n F h L ⟨dst, .binOp .add T x y T', ty, pos, af, gd⟩ (.string c) := by
  subst hs
  refine .mk fun ac w f s => ?_
  have hg : (eqGuard .add T x y (.string a) (.string b)).run P w = .ok () w := by simp [eqGuard]
  simp only [execOp, f.ev hx, f.ev hy, Sem.run_bind, hg, Result.andThen_ok, binOp, Op.stringOp]
  have hmax : IntKind.i64.max = 9223372036854775807 := by decide
  rw [if_neg (by rw [hmax]; omega)]
  rfl
structure BoxW (P : Program) (y : Code) (Q : Exit → Act → World → Prop) (a : Act) (w : World) : Prop where
  out : y.wp P Q a w
theorem cx_seq_box {P : Program} {n : Nat} {K : Bs} {F : List (Nat × Value)} {h : View} {L : List Res} {Q : Exit → Act → World → Prop} {x y : Code} (hx : CX P n K x F h L (Exit.then (BoxW P y Q) Q)) : CX P n K (.seq x y) F h L Q := by
  refine ybo ?_
  unfold CX at *
  intro a w f s
  refine wp_mono (hx a w f s) fun e a w hq => ?_
  cases e with
  | normal => exact (show BoxW P y Q a w from hq).out
  | _ => exact hq
theorem nx_box {P : Program} {n : Nat} {K : Bs} {F : List (Nat × Value)} {h : View} {L : List Res} {Q : Exit → Act → World → Prop} {y : Code} (hx : CX P n K y F h L Q) : NX n K .normal F h L (Exit.then (BoxW P y Q) Q) := by
  unfold CX at hx
  exact nx_then fun a w f s => ⟨hx a w f s⟩
theorem EO_A (w0 : World) (h0 : View) (Q : Exit → Act → World → Prop) (R1 R2 R3 R4 R5 : Res) (v7 v8 v9 : Value) (b5 b12 : Nat) (rk rs ek se : List Int) (rq q : Hdr) (h : View)
    (yk : Bytes rk) (kl : rk.length ≤ 9000000000000000000) (yp : Bytes rq.past) (pl : rq.past.length ≤ 9223372036854775807) (ys : Bytes rs) (sl : rs.length ≤ 9223372036854775807) (ye : Bytes ek) (el : ek.length ≤ 1000000) (yse : Bytes se) (sel : se.length ≤ 900000)
    (hB : ∀ (k s : List Int) (q : Hdr), Bytes k → k.length ≤ 1000000 → Bytes q.past → q.past.length ≤ 900000 → Bytes s → s.length ≤ 900000 →
      CX Tryz.prog 151 ⟨w0, h0, []⟩ (cDrop 10 (cGet Tryz.f3.body)) [(5, .pointer (some ⟨b5, 0, none⟩)), (7, v7), (8, v8), (9, v9)] h [Res.blk b5 (.cells (renv k q s).toArray 28 (0, 0)), R1, R2, R3, R4, R5] Q) :
    CX Tryz.prog 151 ⟨w0, h0, []⟩ (cDrop 6 (cGet Tryz.f3.body)) [(5, .pointer (some ⟨b5, 0, none⟩)), (7, v7), (8, v8), (9, v9), (12, .pointer (some ⟨b12, 0, none⟩))] h
      [Res.blk b5 (.cells (renv rk rq rs).toArray 28 (0, 0)), Res.blk b12 (.cells (renv ek q se).toArray 28 (0, 0)), R1, R2, R3, R4, R5] Q := by
  obtain ⟨jp, hjp⟩ : ∃ j, j = min rq.past.length 200 := ⟨_, rfl⟩
  have hjp1 := minE hjp
  obtain ⟨js, hjs⟩ : ∃ j, j = min rs.length 200 := ⟨_, rfl⟩
  have hjs1 := minE hjs
  refine ybo ?_
  refine cx_region_any [Res.blk b5 (.cells (renv rk rq rs).toArray 28 (0, 0))] [15, 17] [11, 12, 13, 15, 16, 17] [0, 1, 2, 3, 4, 5, 6, 7, 8, 9, 10, 11, 12, 13, 14, 15, 16, 17] rfl (by kernel_rfl) ?_
  refine tx_run false [0, 1, 2, 3, 4, 5, 6, 7, 8, 9, 10] [11, 12, 13, 14, 15, 16, 17] (by kernel_rfl) ?_
  repeat' (first|refine zw409 ?_|(refine ycf ?_;(first|(refine zg0 ?_ ?_<;>intro ht)|(refine tb_ ?_ ?_ ?_;(·exact zc143);(·exact zc168);intro _)))|fail)
  refine nx_tq ?_
  refine tx_run true [11, 12, 13] [14, 15, 16, 17] (by kernel_rfl) ?_
  repeat' (first|refine zw409 ?_|(refine ycf ?_;(first|(refine zg0 ?_ ?_<;>intro ht)|(refine tb_ ?_ ?_ ?_;(·exact zc143);(·exact zc168);intro _)))|fail)
  refine nx_tq ?_
  refine tx_run false [14] [15, 16, 17] (by kernel_rfl) ?_
  repeat' (first|refine zw409 ?_|(refine ycf ?_;(first|(refine zg0 ?_ ?_<;>intro ht)|(refine tb_ ?_ ?_ ?_;(·exact zc143);(·exact zc168);intro _)))|fail)
  refine nx_tq ?_
  refine tx_1 true 15 [16, 17] (by kernel_rfl) ?_
  obtain ⟨q1, hq1⟩ : ∃ q1 : Hdr, q1 = ⟨rq.ep, rq.ct, rq.cl, rq.nu, rq.past.take jp⟩ := ⟨_, rfl⟩
  have st1 : spl (renv rk rq rs) (0 + 5) [.string (bstr (rq.past.take jp))] = renv rk q1 rs := by rw [hq1]; rfl
  have st2 : spl (renv rk q1 rs) (0 + 6) [.string (bstr (rs.take js))] = renv rk q1 (rs.take js) := rfl
  refine ybg 0 rfl rfl rfl rfl (Nat.le_of_ble_eq_true rfl) rfl st1 rfl rfl ?_ ?_ ?_
  · (first|exact ybf|(refine .inl ?_;(exact fun w s => hd_weak w s))|exact to_)
  · (first|exact ybf|(refine .inl ?_;(exact fun w s => hd_weak w s))|exact to_)
  refine ycg ?_
  refine nx_tq ?_
  refine tx_run true [16] [17] (by kernel_rfl) ?_
  repeat' (first|refine zw410 ?_|(refine ycf ?_;(first|(refine zg0 ?_ ?_<;>intro ht)|(refine tb_ ?_ ?_ ?_;(·exact zc144);(·intro _;(first|exact ybf|(refine .inl ?_;(exact fun w s => hd_weak w s))|exact to_));intro _)))|fail)
  refine nx_tq ?_
  refine tx_1 true 17 [] (by kernel_rfl) ?_
  refine ybg 0 rfl rfl rfl rfl (Nat.le_of_ble_eq_true rfl) rfl st2 rfl rfl ?_ ?_ ?_
  · (first|exact ybf|(refine .inl ?_;(exact fun w s => hd_weak w s))|exact to_)
  · (first|exact ybf|(refine .inl ?_;(exact fun w s => hd_weak w s))|exact to_)
  refine ycg ?_
  refine nx_tq ?_
  refine tx_end ?_
  refine yby ?_
  refine ybo ?_
  have yp1 : Bytes q1.past := by rw [hq1]; exact bytes_take yp jp
  have pl1 : q1.past.length ≤ 900000 := by rw [hq1]; show (rq.past.take jp).length ≤ _; rw [List.length_take]; omega
  have ys1 : Bytes (rs.take js) := bytes_take ys js
  have sl1 : (rs.take js).length ≤ 900000 := by rw [List.length_take]; omega
  generalize rs.take js = s1 at ys1 sl1 ⊢
  clear st1 st2 hq1
  refine cx_region_any [Res.blk b5 (.cells (renv rk q1 s1).toArray 28 (0, 0))] [2, 3, 7] [7] [0, 1, 2, 3, 4, 5, 6, 7] rfl (by kernel_rfl) ?_
  refine tx_run false [0, 1] [2, 3, 4, 5, 6, 7] (by kernel_rfl) ?_
  repeat' (first|refine zw387 ?_|(refine ycf ?_;(first|(refine zg0 ?_ ?_<;>intro ht)|(refine tb_ ?_ ?_ ?_;(·exact zc135);(·exact zc165);intro _)))|fail)
  refine nx_tq ?_
  refine tx_1 false 2 [3, 4, 5, 6, 7] (by kernel_rfl) ?_
  refine yba (ma_makeBytes (m := 32) rfl rfl (by omega) (by omega)) rfl rfl rfl (by (first|exact ybf|(refine .inl ?_;(exact fun _ s => hd_m (Le.refl _) (all_m1 tmh_) _ s))|exact to_)) (fun _ => by (first|exact ybf|(refine .inl ?_;(exact fun _ s => hd_m (Le.refl _) (all_m1 tmh_) _ s))|exact to_)) ?_
  intro bm
  refine ycg ?_
  refine nx_tq ?_
  refine tx_1 false 3 [4, 5, 6, 7] (by kernel_rfl) ?_
  repeat' (first|refine zw411 ?_|(refine ycf ?_;(first|(refine zg0 ?_ ?_<;>intro ht)|(refine tb_ ?_ ?_ ?_;(·exact zc135);(·exact zc165);intro _)))|fail)
  refine nx_tq ?_
  have e1 : bstr rk ++ bstr (List.replicate 32 0) = bstr (rk ++ List.replicate 32 0) := bstr_app _ _
  have e2 : (bstr rk).size + (bstr (List.replicate 32 0)).size ≤ 9223372036854775807 := by rw [bstr_size, bstr_size, List.length_replicate]; omega
  refine tx_run false [4, 5, 6] [7] (by kernel_rfl) ?_
  repeat' (first|refine zw412 ?_|(refine ycf ?_;(first|(refine zg0 ?_ ?_<;>intro ht)|(refine tb_ ?_ ?_ ?_;(·exact zc135);(·exact zc165);intro _)))|fail)
  refine nx_tq ?_
  refine tx_1 true 7 [] (by kernel_rfl) ?_
  refine ybg 1 rfl rfl rfl rfl (Nat.le_of_ble_eq_true rfl) rfl (cs' := renv ((rk ++ List.replicate 32 0).take 32) q1 s1) rfl rfl rfl ?_ ?_ ?_
  · (first|exact ybf|(refine .inl ?_;(exact fun w s => hd_weak w s))|exact to_)
  · (first|exact ybf|(refine .inl ?_;(exact fun w s => hd_weak w s))|exact to_)
  refine ycg ?_
  refine nx_tq ?_
  refine tx_end ?_
  have y0 : Bytes (List.replicate 32 0) := fun x hx => by rw [List.eq_of_mem_replicate hx]; omega
  have yk1 : Bytes ((rk ++ List.replicate 32 0).take 32) := bytes_take (fun x hx => (List.mem_append.1 hx).elim (yk x) (y0 x)) 32
  have kl1 : ((rk ++ List.replicate 32 0).take 32).length ≤ 1000000 := by rw [List.length_take]; omega
  generalize (rk ++ List.replicate 32 0).take 32 = k1 at yk1 kl1 ⊢
  refine yby ?_
  refine ybo ?_
  refine cx_cut (X := List Int) (fun k => [(5, .pointer (some ⟨b5, 0, none⟩)), (7, v7), (8, v8), (9, v9), (12, .pointer (some ⟨b12, 0, none⟩))]) (fun _ => h) (fun k => [Res.blk b5 (.cells (renv k q1 s1).toArray 28 (0, 0)), Res.blk b12 (.cells (renv ek q se).toArray 28 (0, 0)), R1, R2, R3, R4, R5]) (fun k => Bytes k ∧ k.length ≤ 1000000) ?_ ?_
  · skip
    repeat' (first|refine zw413 ?_|(refine ta_ ?_;intro _)|(refine zk0 ?_ ?_<;>intro ht)|fail)
    · exact nx_cut ek ⟨ye, el⟩ ts_ (fun _ s => s.picks [1, 1, 1, 1, 1, 1, 1])
    · exact nx_cut k1 ⟨yk1, kl1⟩ ts_ (fun _ s => s.picks [1, 1, 1, 1, 1, 1, 1])
  rintro k2 ⟨yk2, kl2⟩
  refine yby ?_
  refine ybo ?_
  refine cx_cut (X := Hdr × List Int) (fun _ => [(5, .pointer (some ⟨b5, 0, none⟩)), (7, v7), (8, v8), (9, v9)]) (fun _ => h) (fun y => [Res.blk b5 (.cells (renv k2 y.1 y.2).toArray 28 (0, 0)), R1, R2, R3, R4, R5]) (fun y => Bytes y.1.past ∧ y.1.past.length ≤ 900000 ∧ Bytes y.2 ∧ y.2.length ≤ 900000) ?_ ?_
  · skip
    repeat' (first|refine zw414 ?_|(refine ta_ ?_;intro _)|(refine zk0 ?_ ?_<;>intro ht)|fail)
    · have hdot : ∀ (h' : View) (L : List Res) (k : Nat), L[k]? = some (Res.blk b12 (.cells (renv ek q se).toArray 28 (0, 0))) → Cells h' L ⟨b12, 0 + 3, none⟩ [.int .i64 q.cl, .int .i64 q.nu] := fun h' L k hL => ((yaz k hL).drop 3).take 2
      refine cx_region_any [Res.blk b12 (.cells (renv ek q se).toArray 28 (0, 0))] [9, 11, 13, 15] [] [0, 1, 2, 3, 4, 5, 6, 7, 8, 9, 10, 11, 12, 13, 14, 15] rfl (by kernel_rfl) ?_
      refine tx_run false [0, 1, 2, 3, 4, 5, 6, 7, 8] [9, 10, 11, 12, 13, 14, 15] (by kernel_rfl) ?_
      repeat' (first|refine zw415 ?_|(refine ycf ?_;(first|(refine zg0 ?_ ?_<;>intro ht)|(refine tb_ ?_ ?_ ?_;(·exact zc135);(·exact zc165);intro _)))|fail)
      refine nx_tq ?_
      refine tx_1 false 9 [10, 11, 12, 13, 14, 15] (by kernel_rfl) ?_
      refine ybg 0 rfl rfl rfl rfl (Nat.le_of_ble_eq_true rfl) rfl (cs' := renv k2 q1 se) rfl rfl rfl ?_ ?_ ?_
      · (first|exact ybf|(refine .inl ?_;(exact fun _ s => hd_m (Le.refl _) (all_m1 tmh_) _ s))|exact to_)
      · (first|exact ybf|(refine .inl ?_;(exact fun _ s => hd_m (Le.refl _) (all_m1 tmh_) _ s))|exact to_)
      refine ycg ?_
      refine nx_tq ?_
      refine tx_run false [10] [11, 12, 13, 14, 15] (by kernel_rfl) ?_
      repeat' (first|refine zw415 ?_|(refine ycf ?_;(first|(refine zg0 ?_ ?_<;>intro ht)|(refine tb_ ?_ ?_ ?_;(·exact zc135);(·exact zc165);intro _)))|fail)
      refine nx_tq ?_
      refine tx_1 false 11 [12, 13, 14, 15] (by kernel_rfl) ?_
      refine ybg 0 rfl rfl rfl rfl (Nat.le_of_ble_eq_true rfl) rfl (cs' := renv k2 ⟨q.ep, q1.ct, q1.cl, q1.nu, q1.past⟩ se) rfl rfl rfl ?_ ?_ ?_
      · (first|exact ybf|(refine .inl ?_;(exact fun _ s => hd_m (Le.refl _) (all_m1 tmh_) _ s))|exact to_)
      · (first|exact ybf|(refine .inl ?_;(exact fun _ s => hd_m (Le.refl _) (all_m1 tmh_) _ s))|exact to_)
      refine ycg ?_
      refine nx_tq ?_
      refine tx_run false [12] [13, 14, 15] (by kernel_rfl) ?_
      repeat' (first|refine zw415 ?_|(refine ycf ?_;(first|(refine zg0 ?_ ?_<;>intro ht)|(refine tb_ ?_ ?_ ?_;(·exact zc135);(·exact zc165);intro _)))|fail)
      refine nx_tq ?_
      refine tx_1 false 13 [14, 15] (by kernel_rfl) ?_
      refine ybg 0 rfl rfl rfl rfl (Nat.le_of_ble_eq_true rfl) rfl (cs' := renv k2 ⟨q.ep, q.ct, q1.cl, q1.nu, q1.past⟩ se) rfl rfl rfl ?_ ?_ ?_
      · (first|exact ybf|(refine .inl ?_;(exact fun _ s => hd_m (Le.refl _) (all_m1 tmh_) _ s))|exact to_)
      · (first|exact ybf|(refine .inl ?_;(exact fun _ s => hd_m (Le.refl _) (all_m1 tmh_) _ s))|exact to_)
      refine ycg ?_
      refine nx_tq ?_
      refine tx_run false [14] [15] (by kernel_rfl) ?_
      repeat' (first|refine zw415 ?_|(refine ycf ?_;(first|(refine zg0 ?_ ?_<;>intro ht)|(refine tb_ ?_ ?_ ?_;(·exact zc135);(·exact zc165);intro _)))|fail)
      refine nx_tq ?_
      refine tx_1 false 15 [] (by kernel_rfl) ?_
      refine ybg 0 rfl rfl rfl rfl (Nat.le_of_ble_eq_true rfl) rfl (cs' := renv k2 ⟨q.ep, q.ct, q.cl, q.nu, q1.past⟩ se) rfl rfl rfl ?_ ?_ ?_
      · (first|exact ybf|(refine .inl ?_;(exact fun _ s => hd_m (Le.refl _) (all_m1 tmh_) _ s))|exact to_)
      · (first|exact ybf|(refine .inl ?_;(exact fun _ s => hd_m (Le.refl _) (all_m1 tmh_) _ s))|exact to_)
      refine ycg ?_
      refine nx_tq ?_
      refine tx_end ?_
      exact nx_cut (⟨q.ep, q.ct, q.cl, q.nu, q1.past⟩, se) ⟨yp1, pl1, yse, sel⟩ ts_ (fun _ s => s.picks [0, 1, 1, 1, 1, 1])
    · exact nx_cut (q1, s1) ⟨yp1, pl1, ys1, sl1⟩ ts_ (fun _ s => s.picks [0, 1, 1, 1, 1, 1])
  rintro ⟨q2, s2⟩ ⟨yp2, pl2, ys2, sl2⟩
  dsimp only at yp2 pl2 ys2 sl2 ⊢
  refine yby ?_
  exact hB k2 s2 q2 yk2 kl2 yp2 pl2 ys2 sl2
end Go.Proofs.YtgeepceieckooaaGreatDoor
end
