/-
  Part 13 of a proof: RaC RaD PlA PlB PlC PlD.
  Conditions: each theorem states its own.
-/
import Derived.Test.YtgeepceieckooaaGreatDoorRdVPM12
set_option maxRecDepth 100000
set_option linter.unusedVariables false
set_option linter.unusedSimpArgs false
section
namespace Go.Proofs.YtgeepceieckooaaGreatDoor
open Go Go.Ck
set_option maxHeartbeats 1000000
section
variable {P : Program} {n : Nat} {F : List (Nat × Value)} {h : View} {L : List Res} {dst : Option Nat} {ty : Nat} {pos : String} {af : Array Edge} {gd : Option (Nat × Bool)}
theorem qv_str_ij {T : Nat} {x y z : Operand} {l : List Int} (i j : Nat) {i' j' : Int} {ki kj : IntKind} [tu : TyU P T .string] (hx : ev F x = some (.string (bstr l))) (hy : ev F y = some (.int ki i')) (hz : ev F z = some (.int kj j')) (hi : i' = i) (hj : j' = j) (h0 : i ≤ j) (h1 : j ≤ l.length) :
    QV P n F h L ⟨dst, .slice T x (some y) (some z) none, ty, pos, af, gd⟩ (.string (bstr ((l.drop i).take (j - i)))) := .mk fun a w f s => by
  subst hi hj
  have h2 : j ≤ (bstr l).size := by rw [bstr_size]; exact h1
  simp [execOp, f.ev hx, f.ev hy, f.ev hz, Instr.sliceAt, Instr.slice, Instr.sliceBounds, Instr.sliceBound, asIntOf, run_underlying tu.u, h2, h0]
  apply ByteArray.ext
  rw [ByteArray.data_extract]
  simp [bstr, List.map_take, List.map_drop]
end
theorem zip_getD {a b : List W32} {i : Nat} (ha : i < a.length) (hb : i < b.length) : (List.zipWith (· + ·) a b).getD i 0 = a.getD i 0 + b.getD i 0 := by
  rw [List.getD_eq_getElem?_getD, List.getD_eq_getElem?_getD, List.getD_eq_getElem?_getD, List.getElem?_eq_getElem (by simp; omega), List.getElem?_eq_getElem ha, List.getElem?_eq_getElem hb]
  simp
theorem rquarter_spi (ia ib ic id' : Int) (st : List W32) (a b c d : Nat) (h16 : st.length = 16) (ha : a < 16) (hb : b < 16) (hc : c < 16) (hd : d < 16) (ea : ia = (a : Nat)) (eb : ib = (b : Nat)) (ec : ic = (c : Nat)) (ed : id' = (d : Nat)) (h : View) (w : World) (s : St ⟨w, h, []⟩ h [] w) :
    Calls Tryz.prog 128 [.agg (up32 st).toArray, .int .i64 ia, .int .i64 ib, .int .i64 ic, .int .i64 id'].toArray w fun r w' => r = .returned (.agg (up32 (quarterF st a b c d)).toArray) ∧ St ⟨w, h, []⟩ h [] w' := by
  subst ea eb ec ed
  exact rquarter_sp st a b c d h16 ha hb hc hd h w s
theorem rBlock_sp (key : List Int) (n : W32) (nonce : List Int) (hk : Bytes key) (hn : Bytes nonce) (hk32 : key.length = 32) (hn12 : nonce.length = 12) (h : View) (w : World) (s : St ⟨w, h, []⟩ h [] w) :
    Calls Tryz.prog 110 [.string (bstr key), v32 n, .string (bstr nonce)].toArray w fun e w' => e = .returned (.string (bstr (blockF key n nonce))) ∧ St ⟨w, h, []⟩ h [] w' := by
  refine calls_enter Tryz.func110 rfl Tryz.ntmps110 rfl s ?_
  repeat' (first|refine zw290 ?_|(refine ta_ ?_;intro _)|(refine zk0 ?_ ?_<;>intro ht)|fail)
  rename_i bs
  have hpl : ∀ l : List W32, l.length ≤ 16 → (pad32 16 l).length = 16 := fun l hl => pad32_len hl
  refine cx_loop (X := Nat) (fun k => [(0, .string (bstr key)), (1, v32 n), (2, .string (bstr nonce)), (7, .pointer (some ⟨bs, 0, none⟩)), (8, .int .i64 (k : Nat))]) (fun _ => h) (fun k => [Res.blk bs (.cells (up32 (pad32 16 (chHead ++ keyW key k))).toArray 166 (0, 0))]) (fun k => k ≤ 8) (fun k => 8 - k) 0 (Nat.zero_le _) ts_ (fun _ s => s) ?_
  intro k hk8
  have hwl : (chHead ++ keyW key k).length = 4 + k := by simp [keyW_len, chHead]; omega
  by_cases hkl : k < 8
  · have hm : IntKind.i64.wrap (4 * (k : Int)) = ((4 * k : Nat) : Int) := by rw [IntKind.wrap_i64]<;>omega
    have H := WordL_sp _ (bytes_take (bytes_drop hk (4 * k)) (4 * k + 4 - 4 * k)) (by simp; omega) h
    rw [show 4 * k + 4 - 4 * k = 4 by omega] at H
    have hw : IntKind.u32.wrap (valL ((key.drop (4 * k)).take 4)) = ((lo32 ((key.drop (4 * k)).take 4)).toNat : Int) := wrapw rfl rfl _
    have hst : (pad32 16 (chHead ++ keyW key k)).set (4 + k) (lo32 ((key.drop (4 * k)).take 4)) = pad32 16 (chHead ++ keyW key (k + 1)) := by
      rw [pad32_set hwl (by omega), keyW, List.append_assoc]
    have hpl := pad32_len (n := 16) (l := chHead ++ keyW key k) (by omega)
    repeat' (first|refine zw291 ?_|(refine ta_ ?_;intro _)|(refine zk0 ?_ ?_<;>intro ht)|fail)
    rw [show 4 * k + 4 - 4 * k = 4 by omega]
    (refine ycn (ycp Tryz.func99 rfl (by kernel_rfl) rfl) (H) rfl rfl rfl ?_ ?_; (· (exact to_)))
    repeat' (first|refine zw292 ?_|(refine ta_ ?_;intro _)|(refine zk0 ?_ ?_<;>intro ht)|fail)
    exact nx_round (k + 1) (by show k + 1 ≤ 8; omega) (by show 8 - (k + 1) < 8 - k; omega) ts_ (fun _ s => s)
  · have ek : k = 8 := by omega
    subst ek
    have hst : (pad32 16 (chHead ++ keyW key 8)).set 12 n = pad32 16 (chHead ++ keyW key 8 ++ [n]) := pad32_set hwl (by omega)
    have hpl := pad32_len (n := 16) (l := chHead ++ keyW key 8) (by omega)
    repeat' (first|refine zw293 ?_|(refine ta_ ?_;intro _)|(refine zk0 ?_ ?_<;>intro ht)|fail)
    refine cx_loop (X := Nat) (fun k => [(7, .pointer (some ⟨bs, 0, none⟩)), (2, .string (bstr nonce)), (9, .int .i64 (k : Nat))]) (fun _ => h) (fun k => [Res.blk bs (.cells (up32 (pad32 16 (chHead ++ keyW key 8 ++ [n] ++ keyW nonce k))).toArray 166 (0, 0))]) (fun k => k ≤ 3) (fun k => 3 - k) 0 (Nat.zero_le _) ts_ (fun _ s => by rw [keyW, List.append_nil]; exact s) ?_
    intro k hk3
    have hwl : (chHead ++ keyW key 8 ++ [n] ++ keyW nonce k).length = 13 + k := by simp [keyW_len, chHead]; omega
    by_cases hkl : k < 3
    · have hm : IntKind.i64.wrap (4 * (k : Int)) = ((4 * k : Nat) : Int) := by rw [IntKind.wrap_i64]<;>omega
      have H := WordL_sp _ (bytes_take (bytes_drop hn (4 * k)) (4 * k + 4 - 4 * k)) (by simp; omega) h
      rw [show 4 * k + 4 - 4 * k = 4 by omega] at H
      have hw : IntKind.u32.wrap (valL ((nonce.drop (4 * k)).take 4)) = ((lo32 ((nonce.drop (4 * k)).take 4)).toNat : Int) := wrapw rfl rfl _
      have hst : (pad32 16 (chHead ++ keyW key 8 ++ [n] ++ keyW nonce k)).set (13 + k) (lo32 ((nonce.drop (4 * k)).take 4)) = pad32 16 (chHead ++ keyW key 8 ++ [n] ++ keyW nonce (k + 1)) := by
        rw [pad32_set hwl (by omega), List.append_assoc]
        rfl
      have hpl := pad32_len (n := 16) (l := chHead ++ keyW key 8 ++ [n] ++ keyW nonce k) (by omega)
      generalize chHead ++ keyW key 8 ++ [n] ++ keyW nonce k = w0 at hwl hst hpl ⊢
      repeat' (first|refine zw291 ?_|(refine ta_ ?_;intro _)|(refine zk0 ?_ ?_<;>intro ht)|fail)
      rw [show 4 * k + 4 - 4 * k = 4 by omega]
      (refine ycn (ycp Tryz.func99 rfl (by kernel_rfl) rfl) (H) rfl rfl rfl ?_ ?_; (· (exact to_)))
      repeat' (first|refine zw294 ?_|(refine ta_ ?_;intro _)|(refine zk0 ?_ ?_<;>intro ht)|fail)
      exact nx_round (k + 1) (by show k + 1 ≤ 3; omega) (by show 3 - (k + 1) < 3 - k; omega) ts_ (fun _ s => s)
    · have ek : k = 3 := by omega
      subst ek
      have e1 : pad32 16 (chHead ++ keyW key 8 ++ [n] ++ keyW nonce 3) = beginF key n nonce := pad32_full hwl
      have l1 := beginF_len key n nonce
      have eB : blockF key n nonce = outF (List.zipWith (· + ·) (wkF (beginF key n nonce) 10) (beginF key n nonce)) 16 := rfl
      rw [e1, eB]
      clear eB
      generalize beginF key n nonce = s0 at l1 ⊢
      repeat' (first|refine zw295 ?_|(refine ta_ ?_;intro _)|(refine zk0 ?_ ?_<;>intro ht)|fail)
      rename_i bv
      refine cx_loop (X := Nat) (fun k => [(7, .pointer (some ⟨bs, 0, none⟩)), (10, .pointer (some ⟨bv, 0, none⟩)), (11, .int .i64 (k : Nat))]) (fun _ => h) (fun k => [Res.blk bv (.cells (up32 (wkF s0 k)).toArray 166 (0, 0)), Res.blk bs (.cells (up32 s0).toArray 166 (0, 0))]) (fun k => k ≤ 10) (fun k => 10 - k) 0 (Nat.zero_le _) ts_ (fun _ s => s) ?_
      intro k hk
      have hwk := (wkF_len s0 k).trans l1
      by_cases hk10 : k < 10
      · have ew : wkF s0 (k + 1) = roundF (wkF s0 k) := rfl
        generalize wkF s0 k = q0 at hwk ew ⊢
        have m0 : q0.length = 16 := hwk
        obtain ⟨q1, e1⟩ : ∃ x, x = quarterF q0 0 4 8 12 := ⟨_, rfl⟩
        have m1 : q1.length = 16 := by rw [e1, quarterF_len, m0]
        obtain ⟨q2, e2⟩ : ∃ x, x = quarterF q1 1 5 9 13 := ⟨_, rfl⟩
        have m2 : q2.length = 16 := by rw [e2, quarterF_len, m1]
        obtain ⟨q3, e3⟩ : ∃ x, x = quarterF q2 2 6 10 14 := ⟨_, rfl⟩
        have m3 : q3.length = 16 := by rw [e3, quarterF_len, m2]
        obtain ⟨q4, e4⟩ : ∃ x, x = quarterF q3 3 7 11 15 := ⟨_, rfl⟩
        have m4 : q4.length = 16 := by rw [e4, quarterF_len, m3]
        obtain ⟨q5, e5⟩ : ∃ x, x = quarterF q4 0 5 10 15 := ⟨_, rfl⟩
        have m5 : q5.length = 16 := by rw [e5, quarterF_len, m4]
        obtain ⟨q6, e6⟩ : ∃ x, x = quarterF q5 1 6 11 12 := ⟨_, rfl⟩
        have m6 : q6.length = 16 := by rw [e6, quarterF_len, m5]
        obtain ⟨q7, e7⟩ : ∃ x, x = quarterF q6 2 7 8 13 := ⟨_, rfl⟩
        have m7 : q7.length = 16 := by rw [e7, quarterF_len, m6]
        obtain ⟨q8, e8⟩ : ∃ x, x = quarterF q7 3 4 9 14 := ⟨_, rfl⟩
        have m8 : q8.length = 16 := by rw [e8, quarterF_len, m7]
        have er : roundF q0 = q8 := by rw [e8, e7, e6, e5, e4, e3, e2, e1]; rfl
        rw [er] at ew
        repeat' (first|refine zw296 ?_|(refine ta_ ?_;intro _)|(refine zk0 ?_ ?_<;>intro ht)|fail)
        have Q := rquarter_spi 0 4 8 12 q0 0 4 8 12 m0 (by omega) (by omega) (by omega) (by omega) rfl rfl rfl rfl h
        rw [← e1] at Q
        (refine ycn (ycp Tryz.func128 rfl (by kernel_rfl) rfl) (Q) rfl rfl rfl ?_ ?_; (· (exact to_)))
        repeat' (first|refine zw297 ?_|(refine ta_ ?_;intro _)|(refine zk0 ?_ ?_<;>intro ht)|fail)
        have Q := rquarter_spi 1 5 9 13 q1 1 5 9 13 m1 (by omega) (by omega) (by omega) (by omega) rfl rfl rfl rfl h
        rw [← e2] at Q
        (refine ycn (ycp Tryz.func128 rfl (by kernel_rfl) rfl) (Q) rfl rfl rfl ?_ ?_; (· (exact to_)))
        repeat' (first|refine zw298 ?_|(refine ta_ ?_;intro _)|(refine zk0 ?_ ?_<;>intro ht)|fail)
        have Q := rquarter_spi 2 6 10 14 q2 2 6 10 14 m2 (by omega) (by omega) (by omega) (by omega) rfl rfl rfl rfl h
        rw [← e3] at Q
        (refine ycn (ycp Tryz.func128 rfl (by kernel_rfl) rfl) (Q) rfl rfl rfl ?_ ?_; (· (exact to_)))
        repeat' (first|refine zw299 ?_|(refine ta_ ?_;intro _)|(refine zk0 ?_ ?_<;>intro ht)|fail)
        have Q := rquarter_spi 3 7 11 15 q3 3 7 11 15 m3 (by omega) (by omega) (by omega) (by omega) rfl rfl rfl rfl h
        rw [← e4] at Q
        (refine ycn (ycp Tryz.func128 rfl (by kernel_rfl) rfl) (Q) rfl rfl rfl ?_ ?_; (· (exact to_)))
        repeat' (first|refine zw300 ?_|(refine ta_ ?_;intro _)|(refine zk0 ?_ ?_<;>intro ht)|fail)
        have Q := rquarter_spi 0 5 10 15 q4 0 5 10 15 m4 (by omega) (by omega) (by omega) (by omega) rfl rfl rfl rfl h
        rw [← e5] at Q
        (refine ycn (ycp Tryz.func128 rfl (by kernel_rfl) rfl) (Q) rfl rfl rfl ?_ ?_; (· (exact to_)))
        repeat' (first|refine zw301 ?_|(refine ta_ ?_;intro _)|(refine zk0 ?_ ?_<;>intro ht)|fail)
        have Q := rquarter_spi 1 6 11 12 q5 1 6 11 12 m5 (by omega) (by omega) (by omega) (by omega) rfl rfl rfl rfl h
        rw [← e6] at Q
        (refine ycn (ycp Tryz.func128 rfl (by kernel_rfl) rfl) (Q) rfl rfl rfl ?_ ?_; (· (exact to_)))
        repeat' (first|refine zw302 ?_|(refine ta_ ?_;intro _)|(refine zk0 ?_ ?_<;>intro ht)|fail)
        have Q := rquarter_spi 2 7 8 13 q6 2 7 8 13 m6 (by omega) (by omega) (by omega) (by omega) rfl rfl rfl rfl h
        rw [← e7] at Q
        (refine ycn (ycp Tryz.func128 rfl (by kernel_rfl) rfl) (Q) rfl rfl rfl ?_ ?_; (· (exact to_)))
        repeat' (first|refine zw303 ?_|(refine ta_ ?_;intro _)|(refine zk0 ?_ ?_<;>intro ht)|fail)
        have Q := rquarter_spi 3 4 9 14 q7 3 4 9 14 m7 (by omega) (by omega) (by omega) (by omega) rfl rfl rfl rfl h
        rw [← e8] at Q
        (refine ycn (ycp Tryz.func128 rfl (by kernel_rfl) rfl) (Q) rfl rfl rfl ?_ ?_; (· (exact to_)))
        repeat' (first|refine zw304 ?_|(refine ta_ ?_;intro _)|(refine zk0 ?_ ?_<;>intro ht)|fail)
        refine nx_round (k + 1) (by show k + 1 ≤ 10; omega) (by show 10 - (k + 1) < 10 - k; omega) ts_ (fun _ s => by rw [ew]; exact s)
      · have ek : k = 10 := by omega
        subst ek
        repeat' (first|refine zw189 ?_|(refine ta_ ?_;intro _)|(refine zk0 ?_ ?_<;>intro ht)|fail)
        have m10 := (wkF_len s0 10).trans l1
        generalize wkF s0 10 = v0 at m10 ⊢
        have hzl : (List.zipWith (· + ·) v0 s0).length = 16 := by simp; omega
        refine cx_loop (X := Nat) (fun k => [(7, .pointer (some ⟨bs, 0, none⟩)), (10, .pointer (some ⟨bv, 0, none⟩)), (12, .string (bstr (outF (List.zipWith (· + ·) v0 s0) k))), (13, .int .i64 (k : Nat))]) (fun _ => h) (fun k => [Res.blk bv (.cells (up32 v0).toArray 166 (0, 0)), Res.blk bs (.cells (up32 s0).toArray 166 (0, 0))]) (fun k => k ≤ 16) (fun k => 16 - k) 0 (Nat.zero_le _) ts_ (fun _ s => s) ?_
        intro k hk
        have hol := outF_len (List.zipWith (· + ·) v0 s0) k
        by_cases hk16 : k < 16
        · have cv := getD_at (l := v0) (i := k) (by omega)
          have cs := getD_at (l := s0) (i := k) (by omega)
          have ez := zip_getD (a := v0) (b := s0) (i := k) (by omega) (by omega)
          have eo : outF (List.zipWith (· + ·) v0 s0) (k + 1) = outF (List.zipWith (· + ·) v0 s0) k ++ putLow 4 ((v0.getD k 0 + s0.getD k 0).toNat : Int) := by rw [← ez]; rfl
          generalize outF (List.zipWith (· + ·) v0 s0) k = o0 at hol eo ⊢
          generalize hx1 : v0.getD k 0 = x1 at cv eo
          generalize hx2 : s0.getD k 0 = x2 at cs eo
          have hlt := (x1 + x2).isLt
          have P := PutL_sp ((x1 + x2).toNat : Int) 4 ⟨by omega, by omega⟩ (by omega) h
          have hcat : bstr o0 ++ bstr (putLow 4 ((x1 + x2).toNat : Int)) = bstr (outF (List.zipWith (· + ·) v0 s0) (k + 1)) := by rw [bstr_app, eo]
          have hsz : (bstr o0).size + (bstr (putLow 4 ((x1 + x2).toNat : Int))).size < 1000000 := by rw [bstr_size, bstr_size, putLow_len]; omega
          repeat' (first|refine zw305 ?_|(refine ta_ ?_;intro _)|(refine zk0 ?_ ?_<;>intro ht)|fail)
          refine cx_region_draw' rfl (by kernel_rfl) ?_
          repeat' (first|refine zw306 ?_|(refine ycf ?_;(first|(refine zg0 ?_ ?_<;>intro ht)|(refine tb_ ?_ ?_ ?_;(·(exact to_));(·intro _;(exact to_));intro _)))|fail)
          (refine ycn (ycp Tryz.func85 rfl (by kernel_rfl) rfl) (P) rfl rfl rfl ?_ ?_; (· (exact to_)))
          repeat' (first|refine zw306 ?_|(refine ycf ?_;(first|(refine zg0 ?_ ?_<;>intro ht)|(refine tb_ ?_ ?_ ?_;(·(exact to_));(·intro _;(exact to_));intro _)))|fail)
          repeat' (first|refine zw3 ?_|(refine ta_ ?_;intro _)|(refine zk0 ?_ ?_<;>intro ht)|fail)
          refine nx_round (k + 1) (by show k + 1 ≤ 16; omega) (by show 16 - (k + 1) < 16 - k; omega) ts_ (fun _ s => s)
        · have ek : k = 16 := by omega
          subst ek
          repeat' (first|refine zw189 ?_|(refine ta_ ?_;intro _)|(refine zk0 ?_ ?_<;>intro ht)|fail)
          exact nx_ret1 rfl (rv_tmp rfl) (fun w' s' => ⟨rfl, s'.nil⟩)
end Go.Proofs.YtgeepceieckooaaGreatDoor
end

section
namespace Go.Proofs.YtgeepceieckooaaGreatDoor
open Go Go.Ck
set_option maxHeartbeats 4000000
theorem St.srowNil {K : Bs} {h : View} {L : List Res} {w : World} (s : St K h L w) (e : TypeId) : St K h (Res.srow e (.slice none 0 0) 0 [] :: L) w := by
  have hd : doms (Res.srow e (.slice none 0 0) 0 [] :: L) = doms L := by simp [doms_cons, Res.srow, Value.ownBlock]
  exact ⟨s.os, s.tape, s.output, s.drawn, s.size, s.keep, ⟨s.hd.view, fun r hr => by
    rcases List.mem_cons.1 hr with rfl | hr
    · exact ⟨rfl, .inl ⟨rfl, rfl⟩⟩
    · exact s.hd.own r hr⟩, by rw [hd]; exact s.nd, fun b hb => s.src b (by rw [← hd]; exact hb), s.grow, s.new, fun b hb => s.dis b (by rw [← hd]; exact hb)⟩
theorem cx_srow {P : Program} {n : Nat} {K : Bs} {F : List (Nat × Value)} {h : View} {L : List Res} {Q : Exit → Act → World → Prop} {c : Code} (e : TypeId) (hx : CX P n K c F h (Res.srow e (.slice none 0 0) 0 [] :: L) Q) : CX P n K c F h L Q := by
  unfold CX at *
  exact fun a w f s => hx a w f (St.srowNil s e)
theorem rStream_sp (key : List Int) (n : W32) (nonce b : List Int) (hk : Bytes key) (hn : Bytes nonce) (hk32 : key.length = 32) (hn12 : nonce.length = 12) (hl : b.length ≤ 900000) (yb : Bytes b) (h : View) (w : World) (s : St ⟨w, h, []⟩ h [] w) :
    Calls Tryz.prog 95 [.string (bstr key), v32 n, .string (bstr nonce), .string (bstr b)].toArray w fun e w' => e = .returned (.string (bstr (streamF key n nonce b))) ∧ St ⟨w, h, []⟩ h [] w' := by
  refine calls_enter Tryz.func95 rfl Tryz.ntmps95 rfl s ?_
  repeat' (first|refine tw_ ?_|(refine ta_ ?_;intro _)|(refine zk0 ?_ ?_<;>intro ht)|fail)
  refine cx_srow 5 ?_
  have hfin : streamF key n nonce b = strmF key n nonce b ((b.length + 63) / 64) := rfl
  rw [hfin]
  clear hfin
  obtain ⟨m, hm⟩ : ∃ m, m = (b.length + 63) / 64 := ⟨_, rfl⟩
  rw [← hm]
  refine cx_loop (X := Nat × Value) (fun y => [(0, .string (bstr key)), (1, v32 (n + BitVec.ofNat 32 y.1)), (2, .string (bstr nonce)), (3, .string (bstr b)), (9, y.2)]) (fun _ => h) (fun y => [srB y.2 (strmF key n nonce b y.1)]) (fun y => y.1 ≤ m) (fun y => m - y.1) (0, .slice none 0 0) (Nat.zero_le _) ?_ (fun _ s => s) ?_
  · show Ck.Sub [_, (1, v32 (n + BitVec.ofNat 32 0)), _, _, _] _
    rw [show n + BitVec.ofNat 32 0 = n from BitVec.add_zero n]
    exact ts_
  rintro ⟨k, v⟩ hkm
  replace hkm : k ≤ m := hkm
  dsimp only
  have hsl := strmF_len key n nonce b k
  refine cx_srowsl 0 rfl ?_
  rintro ad1 cap1 rfl
  by_cases hklt : k < m
  · have H := rBlock_sp key (n + BitVec.ofNat 32 k) nonce hk hn hk32 hn12 h
    have hbl := blockF_len key (n + BitVec.ofNat 32 k) nonce
    have hbb : Bytes (blockF key (n + BitVec.ofNat 32 k) nonce) := outF_by _ 16
    have hnx : strmF key n nonce b (k + 1) = strmF key n nonce b k ++ mixB (blockF key (n + BitVec.ofNat 32 k) nonce) (b.drop (64 * k)) := rfl
    have hn1 : n + BitVec.ofNat 32 k + 1 = n + BitVec.ofNat 32 (k + 1) := by rw [BitVec.add_assoc]; congr 1; exact (BitVec.ofNat_add k 1).symm
    have hmy := mixB_by (blockF key (n + BitVec.ofNat 32 k) nonce) (b.drop (64 * k))
    have hml := mixB_len (blockF key (n + BitVec.ofNat 32 k) nonce) (b.drop (64 * k))
    rw [List.length_drop] at hml
    generalize blockF key (n + BitVec.ofNat 32 k) nonce = kb at H hbl hbb hnx hmy hml
    generalize n + BitVec.ofNat 32 k = nk at H hn1 ⊢
    generalize strmF key n nonce b k = o0 at hsl hnx ⊢
    have M1 := rMix_sp kb (b.drop (64 * k)) hbb (bytes_drop yb _) (by omega) h
    have hcut : bstr ((b.drop (64 * k)).take (b.length - 64 * k)) = bstr (b.drop (64 * k)) := by rw [List.take_of_length_le (by simp)]
    generalize mixB kb (b.drop (64 * k)) = mx at M1 hnx hmy hml
    have e64 : o0.length = 64 * k := by omega
    rw [← e64] at M1
    repeat' (first|refine zw307 ?_|(refine ta_ ?_;intro _)|(refine zk0 ?_ ?_<;>intro ht)|fail)
    (refine ycn (ycp Tryz.func110 rfl (by kernel_rfl) rfl) (H) rfl rfl rfl ?_ ?_; (· (exact to_)))
    repeat' (first|refine zw307 ?_|(refine ta_ ?_;intro _)|(refine zk0 ?_ ?_<;>intro ht)|fail)
    (refine ycn (ycp Tryz.func111 rfl (by kernel_rfl) rfl) (M1) rfl rfl rfl ?_ ?_; (· (exact to_)))
    refine rx_append_b (news := bcs mx) 0 rfl rfl rfl (src_str (m := mx.length) (bstr_size _) (bstr_bcs hmy)) (.inr rfl) (bcs_one _) rfl (by unfold maxLen; omega) (by omega) rfl rfl rfl ybf (fun _ => ybf) ?_
    intro v2
    repeat' (first|refine zw81 ?_|(refine ta_ ?_;intro _)|(refine zk0 ?_ ?_<;>intro ht)|fail)
    refine nx_round (k + 1, v2) (by show k + 1 ≤ m; omega) (by show m - (k + 1) < m - k; omega) ?_ (fun _ s => ?_)
    · rw [← hn1]; exact ts_
    dsimp only
    rw [hnx]
    unfold srB
    rw [List.length_append, bcs_app]
    exact s
  · have ek : k = m := by omega
    subst ek
    repeat' (first|refine zw270 ?_|(refine ta_ ?_;intro _)|(refine zk0 ?_ ?_<;>intro ht)|fail)
    refine rx_persist_s rfl fun h1 hle1 hsp => ?_
    have hsp : Bs8 h1 (.slice ad1 (strmF key n nonce b k).length cap1) (strmF key n nonce b k) := hsp
    repeat' (first|refine zw308 ?_|(refine ta_ ?_;intro _)|(refine zk0 ?_ ?_<;>intro ht)|fail)
    exact nx_ret1 rfl (rv_tmp rfl) (fun w' s' => ⟨rfl, s'.base⟩)
end Go.Proofs.YtgeepceieckooaaGreatDoor
end

section
namespace Go.Proofs.YtgeepceieckooaaGreatDoor
open Go Go.Ck
set_option maxHeartbeats 1000000
def n5 (a b c d e : Nat) : Nat := a + 67108864 * b + 4503599627370496 * c + 302231454903657293676544 * d + 20282409603651670423947251286016 * e
def pP : Nat := 1361129467683753853853498429727072845819
theorem tn_add {a b : W64} (h : a.toNat + b.toNat < 18446744073709551616) : (a + b).toNat = a.toNat + b.toNat := by
  rw [BitVec.toNat_add]; omega
theorem tn_m26 (a : W64) : (a &&& m26).toNat = a.toNat % 67108864 := by
  rw [BitVec.toNat_and]
  exact Nat.and_two_pow_sub_one_eq_mod a.toNat 26
theorem tn_s26 (a : W64) : (a >>> 26).toNat = a.toNat / 67108864 := by
  rw [BitVec.toNat_ushiftRight, Nat.shiftRight_eq_div_pow]
theorem tn_m5 {a : W64} (h : a.toNat < 1152921504606846976) : (a * 5).toNat = a.toNat * 5 := by
  rw [BitVec.toNat_mul]
  show a.toNat * 5 % _ = _
  omega
theorem cpass5 (a b c d e o : W64) (M : Nat) (hM : M ≤ 4611686018427387904) (ha : a.toNat ≤ M) (hb : b.toNat ≤ M) (hc : c.toNat ≤ M) (hd : d.toNat ≤ M) (he : e.toNat ≤ M) (ho : o.toNat ≤ 4611686018427387904) :
    ∃ a' b' c' d' e' o' : W64, cpass ([a, b, c, d, e], o) 5 = ([a', b', c', d', e'], o') ∧ a'.toNat < 67108864 ∧ b'.toNat < 67108864 ∧ c'.toNat < 67108864 ∧ d'.toNat < 67108864 ∧ e'.toNat < 67108864 ∧
      n5 a'.toNat b'.toNat c'.toNat d'.toNat e'.toNat + 1361129467683753853853498429727072845824 * o'.toNat = n5 a.toNat b.toNat c.toNat d.toNat e.toNat + o.toNat ∧ o'.toNat < 274877906944 := by
  obtain ⟨t0, h0⟩ : ∃ t, t = a + o := ⟨_, rfl⟩
  have q0 : t0.toNat = a.toNat + o.toNat := by rw [h0]; exact tn_add (by omega)
  obtain ⟨t1, h1⟩ : ∃ t, t = b + t0 >>> 26 := ⟨_, rfl⟩
  have q1 : t1.toNat = b.toNat + t0.toNat / 67108864 := by rw [h1, tn_add (by rw [tn_s26]; omega), tn_s26]
  obtain ⟨t2, h2⟩ : ∃ t, t = c + t1 >>> 26 := ⟨_, rfl⟩
  have q2 : t2.toNat = c.toNat + t1.toNat / 67108864 := by rw [h2, tn_add (by rw [tn_s26]; omega), tn_s26]
  obtain ⟨t3, h3⟩ : ∃ t, t = d + t2 >>> 26 := ⟨_, rfl⟩
  have q3 : t3.toNat = d.toNat + t2.toNat / 67108864 := by rw [h3, tn_add (by rw [tn_s26]; omega), tn_s26]
  obtain ⟨t4, h4⟩ : ∃ t, t = e + t3 >>> 26 := ⟨_, rfl⟩
  have q4 : t4.toNat = e.toNat + t3.toNat / 67108864 := by rw [h4, tn_add (by rw [tn_s26]; omega), tn_s26]
  refine ⟨t0 &&& m26, t1 &&& m26, t2 &&& m26, t3 &&& m26, t4 &&& m26, t4 >>> 26, ?_, ?_, ?_, ?_, ?_, ?_, ?_, ?_⟩
  · rw [h4, h3, h2, h1, h0]
    simp [cpass, cstep]
  all_goals simp only [tn_m26, tn_s26]
  · omega
  · omega
  · omega
  · omega
  · omega
  · unfold n5; omega
  · omega
theorem carry_val {a b c d e : W64} (M : Nat) (hM : M ≤ 4611686018427387904) (ha : a.toNat ≤ M) (hb : b.toNat ≤ M) (hc : c.toNat ≤ M) (hd : d.toNat ≤ M) (he : e.toNat ≤ M) :
    ∃ (a' b' c' d' e' : W64) (q : Nat), carryF [a, b, c, d, e] = [a', b', c', d', e'] ∧ a'.toNat < 67108869 ∧ b'.toNat < 67108864 ∧ c'.toNat < 67108864 ∧ d'.toNat < 67108864 ∧ e'.toNat < 67108864 ∧
      n5 a'.toNat b'.toNat c'.toNat d'.toNat e'.toNat + pP * q = n5 a.toNat b.toNat c.toNat d.toNat e.toNat ∧
      (M ≤ 67108868 → b.toNat < 67108864 → c.toNat < 67108864 → d.toNat < 67108864 → e.toNat < 67108864 → a'.toNat < 67108864) := by
  obtain ⟨a1, b1, c1, d1, e1, o1, e1q, ha1, hb1, hc1, hd1, he1, hv1, ho1⟩ := cpass5 a b c d e 0 M hM ha hb hc hd he (by show (0 : Nat) ≤ _; omega)
  have hm1 : (o1 * 5).toNat = o1.toNat * 5 := tn_m5 (by omega)
  obtain ⟨a2, b2, c2, d2, e2, o2, e2q, ha2, hb2, hc2, hd2, he2, hv2, ho2⟩ := cpass5 a1 b1 c1 d1 e1 (o1 * 5) 67108863 (by omega) (by omega) (by omega) (by omega) (by omega) (by omega) (by omega)
  have z0 : (0 : W64).toNat = 0 := rfl
  rw [z0] at hv1
  rw [hm1] at hv2
  have hm2 : (o2 * 5).toNat = o2.toNat * 5 := tn_m5 (by omega)
  have hs : (a2 + o2 * 5).toNat = a2.toNat + o2.toNat * 5 := by rw [tn_add (by omega), hm2]
  have ho2' : o2.toNat ≤ 1 := by unfold n5 at hv2; omega
  refine ⟨a2 + o2 * 5, b2, c2, d2, e2, o1.toNat + o2.toNat, ?_, by omega, hb2, hc2, hd2, he2, ?_, ?_⟩
  · have k1 : cout [a, b, c, d, e] 1 = ([a1, b1, c1, d1, e1], o1 * 5) := by
      show ((cpass ([a, b, c, d, e], 0) 5).1, (cpass ([a, b, c, d, e], 0) 5).2 * 5) = _
      rw [e1q]
    have k2 : cout [a, b, c, d, e] 2 = ([a2, b2, c2, d2, e2], o2 * 5) := by
      show ((cpass (cout [a, b, c, d, e] 1) 5).1, (cpass (cout [a, b, c, d, e] 1) 5).2 * 5) = _
      rw [k1, e2q]
    unfold carryF
    rw [k2]
    rfl
  · rw [hs]; unfold n5 at *; unfold pP; omega
  · intro hM2 hb' hc' hd' he'
    rw [hs]
    unfold n5 at *
    omega
end Go.Proofs.YtgeepceieckooaaGreatDoor
end

section
namespace Go.Proofs.YtgeepceieckooaaGreatDoor
open Go Go.Ck
set_option maxHeartbeats 1000000
theorem tn_mul {a b : W64} (h : a.toNat * b.toNat < 18446744073709551616) : (a * b).toNat = a.toNat * b.toNat := by
  rw [BitVec.toNat_mul]; exact Nat.mod_eq_of_lt h
theorem mul_lt {a b : Nat} (A B : Nat) (h1 : a ≤ A) (h2 : b ≤ B) : a * b ≤ A * B := Nat.mul_le_mul h1 h2
theorem mtout_eq (a b c d e f g h i j : W64) : mtout [a, b, c, d, e] [f, g, h, i, j] 5 =
    [0 + a * f + b * j * 5 + c * i * 5 + d * h * 5 + e * g * 5, 0 + a * g + b * f + c * j * 5 + d * i * 5 + e * h * 5, 0 + a * h + b * g + c * f + d * j * 5 + e * i * 5, 0 + a * i + b * h + c * g + d * f + e * j * 5, 0 + a * j + b * i + c * h + d * g + e * f] := by
  simp [mtout, mtin, mstep, mprod]
theorem n5_mul (a b c d e f g h i j : Nat) : n5 a b c d e * n5 f g h i j =
    n5 (a * f + 5 * (b * j + c * i + d * h + e * g)) (a * g + b * f + 5 * (c * j + d * i + e * h)) (a * h + b * g + c * f + 5 * (d * j + e * i)) (a * i + b * h + c * g + d * f + 5 * (e * j)) (a * j + b * i + c * h + d * g + e * f)
    + pP * ((b * j + c * i + d * h + e * g) + 67108864 * (c * j + d * i + e * h) + 4503599627370496 * (d * j + e * i) + 302231454903657293676544 * (e * j)) := by
  unfold n5 pP
  grind
theorem timesF_val {a b c d e f g h i j : W64} (ha : a.toNat ≤ 268435456) (hb : b.toNat ≤ 268435456) (hc : c.toNat ≤ 268435456) (hd : d.toNat ≤ 268435456) (he : e.toNat ≤ 268435456)
    (hf : f.toNat ≤ 67108864) (hg : g.toNat ≤ 67108864) (hh : h.toNat ≤ 67108864) (hi : i.toNat ≤ 67108864) (hj : j.toNat ≤ 67108864) :
    ∃ a' b' c' d' e' : W64, timesF [a, b, c, d, e] [f, g, h, i, j] = [a', b', c', d', e'] ∧ a'.toNat < 67108869 ∧ b'.toNat < 67108864 ∧ c'.toNat < 67108864 ∧ d'.toNat < 67108864 ∧ e'.toNat < 67108864 ∧
      n5 a'.toNat b'.toNat c'.toNat d'.toNat e'.toNat % pP = n5 a.toNat b.toNat c.toNat d.toNat e.toNat * n5 f.toNat g.toNat h.toNat i.toNat j.toNat % pP := by
  have k : ∀ x y : W64, x.toNat ≤ 268435456 → y.toNat ≤ 67108864 → (x * y).toNat = x.toNat * y.toNat ∧ x.toNat * y.toNat ≤ 18014398509481984 := fun x y hx hy => by
    have := mul_lt 268435456 67108864 hx hy
    exact ⟨tn_mul (by omega), by omega⟩
  have af := k a f ha hf; have ag := k a g ha hg; have ah := k a h ha hh; have ai := k a i ha hi; have aj := k a j ha hj
  have bf := k b f hb hf; have bg := k b g hb hg; have bh := k b h hb hh; have bi := k b i hb hi; have bj := k b j hb hj
  have cf := k c f hc hf; have cg := k c g hc hg; have ch := k c h hc hh; have ci := k c i hc hi; have cj := k c j hc hj
  have df := k d f hd hf; have dg := k d g hd hg; have dh := k d h hd hh; have di := k d i hd hi; have dj := k d j hd hj
  have ef := k e f he hf; have eg := k e g he hg; have eh := k e h he hh; have ei := k e i he hi; have ej := k e j he hj
  have m5 : ∀ x : W64, x.toNat ≤ 18014398509481984 → (x * 5).toNat = x.toNat * 5 := fun x hx => tn_m5 (by omega)
  have z0 : (0 : W64).toNat = 0 := rfl
  have n := n5_mul a.toNat b.toNat c.toNat d.toNat e.toNat f.toNat g.toNat h.toNat i.toNat j.toNat
  obtain ⟨t0, e0⟩ : ∃ t, t = 0 + a * f + b * j * 5 + c * i * 5 + d * h * 5 + e * g * 5 := ⟨_, rfl⟩
  obtain ⟨t1, e1⟩ : ∃ t, t = 0 + a * g + b * f + c * j * 5 + d * i * 5 + e * h * 5 := ⟨_, rfl⟩
  obtain ⟨t2, e2⟩ : ∃ t, t = 0 + a * h + b * g + c * f + d * j * 5 + e * i * 5 := ⟨_, rfl⟩
  obtain ⟨t3, e3⟩ : ∃ t, t = 0 + a * i + b * h + c * g + d * f + e * j * 5 := ⟨_, rfl⟩
  obtain ⟨t4, e4⟩ : ∃ t, t = 0 + a * j + b * i + c * h + d * g + e * f := ⟨_, rfl⟩
  have ad : ∀ (x y : W64) (X Y : Nat), x.toNat = X → y.toNat = Y → X ≤ 1000000000000000000 → Y ≤ 90071992547409920 → (x + y).toNat = X + Y := fun x y X Y hx hy h1 h2 => by rw [tn_add (by omega), hx, hy]
  have v0 : t0.toNat = a.toNat * f.toNat + 5 * (b.toNat * j.toNat + c.toNat * i.toNat + d.toNat * h.toNat + e.toNat * g.toNat) := by
    rw [e0, ad _ _ _ _ (ad _ _ _ _ (ad _ _ _ _ (ad _ _ _ _ (ad _ _ _ _ z0 af.1 (by omega) (by omega)) ((m5 _ (by omega)).trans (by rw [bj.1])) (by omega) (by omega)) ((m5 _ (by omega)).trans (by rw [ci.1])) (by omega) (by omega)) ((m5 _ (by omega)).trans (by rw [dh.1])) (by omega) (by omega)) ((m5 _ (by omega)).trans (by rw [eg.1])) (by omega) (by omega)]
    omega
  have v1 : t1.toNat = a.toNat * g.toNat + b.toNat * f.toNat + 5 * (c.toNat * j.toNat + d.toNat * i.toNat + e.toNat * h.toNat) := by
    rw [e1, ad _ _ _ _ (ad _ _ _ _ (ad _ _ _ _ (ad _ _ _ _ (ad _ _ _ _ z0 ag.1 (by omega) (by omega)) bf.1 (by omega) (by omega)) ((m5 _ (by omega)).trans (by rw [cj.1])) (by omega) (by omega)) ((m5 _ (by omega)).trans (by rw [di.1])) (by omega) (by omega)) ((m5 _ (by omega)).trans (by rw [eh.1])) (by omega) (by omega)]
    omega
  have v2 : t2.toNat = a.toNat * h.toNat + b.toNat * g.toNat + c.toNat * f.toNat + 5 * (d.toNat * j.toNat + e.toNat * i.toNat) := by
    rw [e2, ad _ _ _ _ (ad _ _ _ _ (ad _ _ _ _ (ad _ _ _ _ (ad _ _ _ _ z0 ah.1 (by omega) (by omega)) bg.1 (by omega) (by omega)) cf.1 (by omega) (by omega)) ((m5 _ (by omega)).trans (by rw [dj.1])) (by omega) (by omega)) ((m5 _ (by omega)).trans (by rw [ei.1])) (by omega) (by omega)]
    omega
  have v3 : t3.toNat = a.toNat * i.toNat + b.toNat * h.toNat + c.toNat * g.toNat + d.toNat * f.toNat + 5 * (e.toNat * j.toNat) := by
    rw [e3, ad _ _ _ _ (ad _ _ _ _ (ad _ _ _ _ (ad _ _ _ _ (ad _ _ _ _ z0 ai.1 (by omega) (by omega)) bh.1 (by omega) (by omega)) cg.1 (by omega) (by omega)) df.1 (by omega) (by omega)) ((m5 _ (by omega)).trans (by rw [ej.1])) (by omega) (by omega)]
    omega
  have v4 : t4.toNat = a.toNat * j.toNat + b.toNat * i.toNat + c.toNat * h.toNat + d.toNat * g.toNat + e.toNat * f.toNat := by
    rw [e4, ad _ _ _ _ (ad _ _ _ _ (ad _ _ _ _ (ad _ _ _ _ (ad _ _ _ _ z0 aj.1 (by omega) (by omega)) bi.1 (by omega) (by omega)) ch.1 (by omega) (by omega)) dg.1 (by omega) (by omega)) ef.1 (by omega) (by omega)]
    omega
  obtain ⟨a', b', c', d', e', q, hq, h1, h2, h3, h4, h5, hv, _⟩ := carry_val (a := t0) (b := t1) (c := t2) (d := t3) (e := t4) 4611686018427387904 (Nat.le_refl _) (by omega) (by omega) (by omega) (by omega) (by omega)
  refine ⟨a', b', c', d', e', ?_, h1, h2, h3, h4, h5, ?_⟩
  · unfold timesF
    rw [mtout_eq, ← e0, ← e1, ← e2, ← e3, ← e4, hq]
  · rw [n, ← v0, ← v1, ← v2, ← v3, ← v4, ← hv, Nat.add_mul_mod_self_left, Nat.add_mul_mod_self_left]
theorem plusF_val {a b c d e f g h i j : W64} (ha : a.toNat ≤ 134217728) (hb : b.toNat ≤ 134217728) (hc : c.toNat ≤ 134217728) (hd : d.toNat ≤ 134217728) (he : e.toNat ≤ 134217728)
    (hf : f.toNat ≤ 134217728) (hg : g.toNat ≤ 134217728) (hh : h.toNat ≤ 134217728) (hi : i.toNat ≤ 134217728) (hj : j.toNat ≤ 134217728) :
    ∃ a' b' c' d' e' : W64, plusF [a, b, c, d, e] [f, g, h, i, j] = [a', b', c', d', e'] ∧ a'.toNat ≤ 268435456 ∧ b'.toNat ≤ 268435456 ∧ c'.toNat ≤ 268435456 ∧ d'.toNat ≤ 268435456 ∧ e'.toNat ≤ 268435456 ∧
      n5 a'.toNat b'.toNat c'.toNat d'.toNat e'.toNat = n5 a.toNat b.toNat c.toNat d.toNat e.toNat + n5 f.toNat g.toNat h.toNat i.toNat j.toNat := by
  have e1 := tn_add (a := a) (b := f) (by omega)
  have e2 := tn_add (a := b) (b := g) (by omega)
  have e3 := tn_add (a := c) (b := h) (by omega)
  have e4 := tn_add (a := d) (b := i) (by omega)
  have e5 := tn_add (a := e) (b := j) (by omega)
  refine ⟨a + f, b + g, c + h, d + i, e + j, by simp [plusF, plusK], ?_⟩
  rw [e1, e2, e3, e4, e5]
  unfold n5
  omega
end Go.Proofs.YtgeepceieckooaaGreatDoor
end

section
namespace Go.Proofs.YtgeepceieckooaaGreatDoor
open Go Go.Ck
set_option maxHeartbeats 1000000
theorem or_add {x y k : Nat} (h : x < 2 ^ k) : x ||| y * 2 ^ k = x + y * 2 ^ k := by
  have := Nat.shiftLeft_add_eq_or_of_lt h y
  rw [Nat.shiftLeft_eq] at this
  rw [Nat.or_comm, ← this, Nat.add_comm]
theorem tn_shr (a : W64) (k : Nat) : (a >>> k).toNat = a.toNat / 2 ^ k := by
  rw [BitVec.toNat_ushiftRight, Nat.shiftRight_eq_div_pow]
theorem tn_shl (a : W64) (k : Nat) (h : a.toNat * 2 ^ k < 18446744073709551616) : (a <<< k).toNat = a.toNat * 2 ^ k := by
  rw [BitVec.toNat_shiftLeft, Nat.shiftLeft_eq]
  exact Nat.mod_eq_of_lt h
theorem tn_shl' (a : W64) (k j : Nat) (hk : k + j = 64) : (a <<< k).toNat = a.toNat % 2 ^ j * 2 ^ k := by
  rw [BitVec.toNat_shiftLeft, Nat.shiftLeft_eq]
  have : (2 : Nat) ^ 64 = 2 ^ j * 2 ^ k := by rw [← Nat.pow_add, Nat.add_comm j k, hk]
  rw [this, Nat.mul_mod_mul_right]
theorem loadF_val (low high above : W64) (ha : above.toNat < 4) : ∃ a b c d e : W64, loadF low high above = [a, b, c, d, e] ∧ a.toNat < 67108864 ∧ b.toNat < 67108864 ∧ c.toNat < 67108864 ∧ d.toNat < 67108864 ∧ e.toNat < 67108864 ∧
    n5 a.toNat b.toNat c.toNat d.toNat e.toNat = low.toNat + 18446744073709551616 * high.toNat + 340282366920938463463374607431768211456 * above.toNat := by
  have hl := low.isLt
  have hh := high.isLt
  have q3 : ((low >>> 52) ||| (high <<< 12)).toNat = low.toNat / 2 ^ 52 + high.toNat % 2 ^ 52 * 2 ^ 12 := by
    rw [BitVec.toNat_or, tn_shr, tn_shl' high 12 52 rfl]
    exact or_add (by omega)
  have q5 : ((high >>> 40) ||| (above <<< 24)).toNat = high.toNat / 2 ^ 40 + above.toNat * 2 ^ 24 := by
    rw [BitVec.toNat_or, tn_shr, tn_shl above 24 (by omega)]
    exact or_add (by omega)
  refine ⟨_, _, _, _, _, rfl, ?_⟩
  rw [tn_m26, tn_m26, tn_m26, tn_m26, tn_s26, q3, q5, tn_shr]
  refine ⟨by omega, by omega, by omega, by omega, by omega, ?_⟩
  unfold n5
  omega
theorem words_val {a b c d e : W64} (ha : a.toNat < 67108864) (hb : b.toNat < 67108864) (hc : c.toNat < 67108864) (hd : d.toNat < 67108864) (he : e.toNat < 67108864) :
    (wlo [a, b, c, d, e]).toNat + 18446744073709551616 * (whi [a, b, c, d, e]).toNat = n5 a.toNat b.toNat c.toNat d.toNat e.toNat % 340282366920938463463374607431768211456 := by
  have e1 : wlo [a, b, c, d, e] = (a ||| (b <<< 26)) ||| (c <<< 52) := rfl
  have e2 : whi [a, b, c, d, e] = ((c >>> 12) ||| (d <<< 14)) ||| (e <<< 40) := rfl
  have q1 : (a ||| (b <<< 26)).toNat = a.toNat + b.toNat * 2 ^ 26 := by
    rw [BitVec.toNat_or, tn_shl b 26 (by omega)]
    exact or_add (by omega)
  have q2 : ((a ||| (b <<< 26)) ||| (c <<< 52)).toNat = a.toNat + b.toNat * 2 ^ 26 + c.toNat % 2 ^ 12 * 2 ^ 52 := by
    rw [BitVec.toNat_or, q1, tn_shl' c 52 12 rfl]
    exact or_add (by omega)
  have q3 : ((c >>> 12) ||| (d <<< 14)).toNat = c.toNat / 2 ^ 12 + d.toNat * 2 ^ 14 := by
    rw [BitVec.toNat_or, tn_shr, tn_shl d 14 (by omega)]
    exact or_add (by omega)
  have q4 : (((c >>> 12) ||| (d <<< 14)) ||| (e <<< 40)).toNat = c.toNat / 2 ^ 12 + d.toNat * 2 ^ 14 + e.toNat % 2 ^ 24 * 2 ^ 40 := by
    rw [BitVec.toNat_or, q3, tn_shl' e 40 24 rfl]
    exact or_add (by omega)
  rw [e1, e2, q2, q4]
  unfold n5
  omega
theorem leastF_val {a b c d e : W64} (ha : a.toNat < 67108869) (hb : b.toNat < 67108864) (hc : c.toNat < 67108864) (hd : d.toNat < 67108864) (he : e.toNat < 67108864) :
    ∃ a' b' c' d' e' : W64, leastF [a, b, c, d, e] = [a', b', c', d', e'] ∧ a'.toNat < 67108864 ∧ b'.toNat < 67108864 ∧ c'.toNat < 67108864 ∧ d'.toNat < 67108864 ∧ e'.toNat < 67108864 ∧
      n5 a'.toNat b'.toNat c'.toNat d'.toNat e'.toNat = n5 a.toNat b.toNat c.toNat d.toNat e.toNat % pP := by
  obtain ⟨a1, b1, c1, d1, e1, q1, k1, _, hb1, hc1, hd1, he1, hv1, ha1⟩ := carry_val (a := a) (b := b) (c := c) (d := d) (e := e) 67108868 (by omega) (by omega) (by omega) (by omega) (by omega) (by omega)
  replace ha1 := ha1 (Nat.le_refl _) hb hc hd he
  obtain ⟨a2, b2, c2, d2, e2, q2, k2, _, hb2, hc2, hd2, he2, hv2, ha2⟩ := carry_val (a := a1) (b := b1) (c := c1) (d := d1) (e := e1) 67108868 (by omega) (by omega) (by omega) (by omega) (by omega) (by omega)
  replace ha2 := ha2 (Nat.le_refl _) hb1 hc1 hd1 he1
  have hv : n5 a.toNat b.toNat c.toNat d.toNat e.toNat % pP = n5 a2.toNat b2.toNat c2.toNat d2.toNat e2.toNat % pP := by
    rw [← hv1, ← hv2, Nat.add_mul_mod_self_left, Nat.add_mul_mod_self_left]
  rw [hv]
  clear hv hv1 hv2
  obtain ⟨y0, h0⟩ : ∃ t, t = a2 + 5 := ⟨_, rfl⟩
  have v5 : (5 : W64).toNat = 5 := rfl
  have p0 : y0.toNat = a2.toNat + 5 := by rw [h0, tn_add (by rw [v5]; omega), v5]
  obtain ⟨y1, h1⟩ : ∃ t, t = b2 + y0 >>> 26 := ⟨_, rfl⟩
  have p1 : y1.toNat = b2.toNat + y0.toNat / 67108864 := by rw [h1, tn_add (by rw [tn_s26]; omega), tn_s26]
  obtain ⟨y2, h2⟩ : ∃ t, t = c2 + y1 >>> 26 := ⟨_, rfl⟩
  have p2 : y2.toNat = c2.toNat + y1.toNat / 67108864 := by rw [h2, tn_add (by rw [tn_s26]; omega), tn_s26]
  obtain ⟨y3, h3⟩ : ∃ t, t = d2 + y2 >>> 26 := ⟨_, rfl⟩
  have p3 : y3.toNat = d2.toNat + y2.toNat / 67108864 := by rw [h3, tn_add (by rw [tn_s26]; omega), tn_s26]
  obtain ⟨y4, h4⟩ : ∃ t, t = e2 + y3 >>> 26 := ⟨_, rfl⟩
  have p4 : y4.toNat = e2.toNat + y3.toNat / 67108864 := by rw [h4, tn_add (by rw [tn_s26]; omega), tn_s26]
  have ey : lpass (plusF [a2, b2, c2, d2, e2] five) 4 = [y0 &&& m26, y1 &&& m26, y2 &&& m26, y3 &&& m26, y4] := by
    rw [h4, h3, h2, h1, h0]
    simp [lpass, lstep, plusF, plusK, five]
  have el : leastF [a, b, c, d, e] = if y4 >>> 26 = 0#64 then [a2, b2, c2, d2, e2] else [y0 &&& m26, y1 &&& m26, y2 &&& m26, y3 &&& m26, y4 &&& m26] := by
    unfold leastF
    dsimp only
    rw [k1, k2, ey]
    rfl
  rw [el]
  have q := tn_s26 y4
  split
  · rename_i hz
    rw [hz] at q
    replace q : 0 = y4.toNat / 67108864 := q
    refine ⟨a2, b2, c2, d2, e2, rfl, ha2, hb2, hc2, hd2, he2, ?_⟩
    rw [Nat.mod_eq_of_lt]
    unfold n5 pP
    omega
  · rename_i hz
    have q' : y4.toNat / 67108864 ≠ 0 := fun h => hz (BitVec.eq_of_toNat_eq (by rw [q, h]; rfl))
    refine ⟨_, _, _, _, _, rfl, ?_⟩
    simp only [tn_m26]
    refine ⟨by omega, by omega, by omega, by omega, by omega, ?_⟩
    have hle : pP ≤ n5 a2.toNat b2.toNat c2.toNat d2.toNat e2.toNat := by unfold n5 pP; omega
    have hm : n5 a2.toNat b2.toNat c2.toNat d2.toNat e2.toNat % pP = n5 a2.toNat b2.toNat c2.toNat d2.toNat e2.toNat - pP := by
      rw [Nat.mod_eq_sub_mod hle]
      exact Nat.mod_eq_of_lt (by unfold n5 pP; omega)
    rw [hm]
    unfold n5 pP at *
    omega
def vN : List Int → Nat
  | [] => 0
  | x :: r => x.toNat + 256 * vN r
theorem vN_app (a b : List Int) : vN (a ++ b) = vN a + 256 ^ a.length * vN b := by
  induction a with
  | nil => simp [vN]
  | cons x a ih =>
    simp only [List.cons_append, vN, ih, List.length_cons, Nat.pow_succ]
    grind
theorem vN_lt {l : List Int} (hb : Bytes l) : vN l < 256 ^ l.length := by
  induction l with
  | nil => simp [vN]
  | cons x l ih =>
    have h1 := hb x (List.mem_cons_self ..)
    have h2 := ih fun y hy => hb y (List.mem_cons_of_mem _ hy)
    simp only [vN, List.length_cons, Nat.pow_succ]
    omega
theorem vN_zeros (n : Nat) : vN (List.replicate n 0) = 0 := by
  induction n with
  | zero => rfl
  | succ n ih => rw [List.replicate_succ, vN, ih]; rfl
theorem valB_snoc (l : List Int) (x : Int) : valB (l ++ [x]) = valB l * 256 + x := by
  unfold valB
  rw [List.foldl_append]; rfl
theorem valL_vN {l : List Int} (hb : Bytes l) : valL l = (vN l : Int) := by
  induction l with
  | nil => rfl
  | cons x l ih =>
    have h1 := hb x (List.mem_cons_self ..)
    have h2 := ih fun y hy => hb y (List.mem_cons_of_mem _ hy)
    unfold valL at *
    rw [List.reverse_cons, valB_snoc, h2, vN]
    omega
theorem lo64_vN {l : List Int} (hb : Bytes l) (h8 : l.length = 8) : (lo64 l).toNat = vN l := by
  have h1 := vN_lt hb
  rw [h8] at h1
  unfold lo64
  rw [valL_vN hb, BitVec.toNat_ofInt]
  omega
theorem putLow_app : ∀ (m n : Nat) (x : Int), putLow (m + n) x = putLow m x ++ putLow n (x / 256 ^ m)
  | 0, n, x => by simp [putLow]
  | m + 1, n, x => by
    have : m + 1 + n = (m + n) + 1 := by omega
    rw [this, putLow, putLow_app m n, putLow, List.cons_append, Int.pow_succ']
    rw [Int.ediv_ediv_of_nonneg (by omega)]
theorem putLow_mod : ∀ (m : Nat) (x y : Int), putLow m (x + 256 ^ m * y) = putLow m x
  | 0, x, y => rfl
  | m + 1, x, y => by
    have e : x + 256 ^ (m + 1) * y = x + 256 * (256 ^ m * y) := by rw [Int.pow_succ']; grind
    rw [putLow, putLow, e]
    have e1 : (x + 256 * (256 ^ m * y)) % 256 = x % 256 := by omega
    have e2 : (x + 256 * (256 ^ m * y)) / 256 = x / 256 + 256 ^ m * y := by omega
    rw [e1, e2, putLow_mod m]
end Go.Proofs.YtgeepceieckooaaGreatDoor
end

section
namespace Go.Proofs.YtgeepceieckooaaGreatDoor
open Go Go.Ck
set_option maxHeartbeats 1000000
theorem land_dig {a b c d : Nat} (ha : a < 256) (hc : c < 256) : (a + b * 2 ^ 8) &&& (c + d * 2 ^ 8) = (a &&& c) + (b &&& d) * 2 ^ 8 := by
  have e1 := or_add (x := a) (y := b) (k := 8) ha
  have e2 := or_add (x := c) (y := d) (k := 8) hc
  have hac : a &&& c < 2 ^ 8 := Nat.and_lt_two_pow a hc
  have e3 := or_add (x := a &&& c) (y := b &&& d) (k := 8) hac
  rw [← e1, ← e2, ← e3]
  apply Nat.eq_of_testBit_eq
  intro i
  simp only [Nat.testBit_and, Nat.testBit_or, Nat.testBit_mul_two_pow]
  by_cases hi : 8 ≤ i
  · have h8 : (256 : Nat) ≤ 2 ^ i := Nat.pow_le_pow_right (n := 2) (i := 8) (by decide) hi
    have za : a.testBit i = false := Nat.testBit_lt_two_pow (Nat.lt_of_lt_of_le ha h8)
    have zc : c.testBit i = false := Nat.testBit_lt_two_pow (Nat.lt_of_lt_of_le hc h8)
    simp [za, zc, hi]
  · simp [hi]
theorem land_step {a b : Nat} (M : Nat) (ha : a < 256) : (a + 256 * b) &&& M = (a &&& (M % 256)) + 256 * (b &&& (M / 256)) := by
  have h := land_dig (a := a) (b := b) (c := M % 256) (d := M / 256) ha (Nat.mod_lt _ (by omega))
  have e : M % 256 + M / 256 * 2 ^ 8 = M := by omega
  rw [e] at h
  rw [Nat.mul_comm 256 b, Nat.mul_comm 256 (b &&& _)]
  exact h
theorem land255 {x : Nat} (h : x < 256) : x &&& 255 = x := by rw [Nat.and_two_pow_sub_one_eq_mod x 8]; omega
theorem land15 (x : Nat) : x &&& 15 = x % 16 := Nat.and_two_pow_sub_one_eq_mod x 4
theorem land252 {x : Nat} (h : x < 256) : x &&& 252 = x - x % 4 := by
  have : ∀ y : Fin 256, y.val &&& 252 = y.val - y.val % 4 := by decide
  exact this ⟨x, h⟩
def clampB (i : Nat) (c : Int) : Int :=
  let d := if i % 4 = 3 then c % 16 else c
  if 0 < i ∧ i % 4 = 0 then d - d % 4 else d
def clampL (key : List Int) : Nat → List Int
  | 0 => []
  | k + 1 => clampL key k ++ [clampB k (key.getD k 0)]
theorem clampL_len (key : List Int) : ∀ k, (clampL key k).length = k
  | 0 => rfl
  | k + 1 => by rw [clampL, List.length_append, clampL_len key k]; rfl
theorem list8t {l : List Int} (h : l.length = 8) : ∃ a b c d e f g i, l = [a, b, c, d, e, f, g, i] := by
  match l, h with
  | [a, b, c, d, e, f, g, i], _ => exact ⟨_, _, _, _, _, _, _, _, rfl⟩
theorem i255 {x : Int} (h : 0 ≤ x ∧ x < 256) : x.toNat &&& 255 = x.toNat := land255 (by omega)
theorem i15 {x : Int} (h : 0 ≤ x ∧ x < 256) : x.toNat &&& 15 = (x % 16).toNat := by rw [land15]; omega
theorem i252 {x : Int} (h : 0 ≤ x ∧ x < 256) : x.toNat &&& 252 = (x - x % 4).toNat := by rw [land252 (by omega)]; omega
theorem mask_lo {a b c d e f g i : Int} (hb : Bytes [a, b, c, d, e, f, g, i]) : vN [a, b, c, d, e, f, g, i] &&& 1152921487695413247 = vN [a, b, c, d % 16, e - e % 4, f, g, i % 16] := by
  have ha := hb a (by simp); have hb' := hb b (by simp); have hc := hb c (by simp); have hd := hb d (by simp)
  have he := hb e (by simp); have hf := hb f (by simp); have hg := hb g (by simp); have hi := hb i (by simp)
  simp only [vN]
  rw [land_step _ (by omega), land_step _ (by omega), land_step _ (by omega), land_step _ (by omega), land_step _ (by omega), land_step _ (by omega), land_step _ (by omega), land_step _ (by omega)]
  simp only [Nat.reduceMod, Nat.reduceDiv, Nat.and_zero]
  rw [i255 ha, i255 hb', i255 hc, i15 hd, i252 he, i255 hf, i255 hg, i15 hi]
theorem mask_hi {a b c d e f g i : Int} (hb : Bytes [a, b, c, d, e, f, g, i]) : vN [a, b, c, d, e, f, g, i] &&& 1152921487695413244 = vN [a - a % 4, b, c, d % 16, e - e % 4, f, g, i % 16] := by
  have ha := hb a (by simp); have hb' := hb b (by simp); have hc := hb c (by simp); have hd := hb d (by simp)
  have he := hb e (by simp); have hf := hb f (by simp); have hg := hb g (by simp); have hi := hb i (by simp)
  simp only [vN]
  rw [land_step _ (by omega), land_step _ (by omega), land_step _ (by omega), land_step _ (by omega), land_step _ (by omega), land_step _ (by omega), land_step _ (by omega), land_step _ (by omega)]
  simp only [Nat.reduceMod, Nat.reduceDiv, Nat.and_zero]
  rw [i252 ha, i255 hb', i255 hc, i15 hd, i252 he, i255 hf, i255 hg, i15 hi]
theorem bytes_take' {l : List Int} (hb : Bytes l) (k : Nat) : Bytes (l.take k) := fun x hx => hb x (List.mem_of_mem_take hx)
theorem bytes_drop' {l : List Int} (hb : Bytes l) (k : Nat) : Bytes (l.drop k) := fun x hx => hb x (List.mem_of_mem_drop hx)
theorem clamp_eq (a0 a1 a2 a3 a4 a5 a6 a7 b0 b1 b2 b3 b4 b5 b6 b7 : Int) (r : List Int) : clampL ([a0, a1, a2, a3, a4, a5, a6, a7] ++ ([b0, b1, b2, b3, b4, b5, b6, b7] ++ r)) 16 =
    [a0, a1, a2, a3 % 16, a4 - a4 % 4, a5, a6, a7 % 16] ++ [b0 - b0 % 4, b1, b2, b3 % 16, b4 - b4 % 4, b5, b6, b7 % 16] := rfl
theorem tagR_val {key : List Int} (hk : Bytes key) (hl : key.length = 32) : ∃ a b c d e : W64, tagR key = [a, b, c, d, e] ∧ a.toNat < 67108864 ∧ b.toNat < 67108864 ∧ c.toNat < 67108864 ∧ d.toNat < 67108864 ∧ e.toNat < 67108864 ∧
    n5 a.toNat b.toNat c.toNat d.toNat e.toNat = vN (clampL key 16) := by
  have l1 : (key.take 8).length = 8 := by simp; omega
  have l2 : ((key.drop 8).take 8).length = 8 := by simp; omega
  have q1 := lo64_vN (bytes_take' hk 8) l1
  have q2 := lo64_vN (bytes_take' (bytes_drop' hk 8) 8) l2
  obtain ⟨a0, a1, a2, a3, a4, a5, a6, a7, ea⟩ := list8t l1
  obtain ⟨b0, b1, b2, b3, b4, b5, b6, b7, eb⟩ := list8t l2
  have m1 := mask_lo (ea ▸ bytes_take' hk 8)
  have m2 := mask_hi (eb ▸ bytes_take' (bytes_drop' hk 8) 8)
  obtain ⟨a, b, c, d, e, h0, h1, h2, h3, h4, h5, hv⟩ := loadF_val (lo64 (key.take 8) &&& 1152921487695413247#64) (lo64 ((key.drop 8).take 8) &&& 1152921487695413244#64) 0#64 (by decide)
  refine ⟨a, b, c, d, e, h0, h1, h2, h3, h4, h5, ?_⟩
  rw [hv, BitVec.toNat_and, BitVec.toNat_and, q1, q2, ea, eb]
  have z1 : (1152921487695413247#64 : W64).toNat = 1152921487695413247 := rfl
  have z2 : (1152921487695413244#64 : W64).toNat = 1152921487695413244 := rfl
  have z3 : (0#64 : W64).toNat = 0 := rfl
  rw [z1, z2, z3, m1, m2]
  have ek : key = [a0, a1, a2, a3, a4, a5, a6, a7] ++ ([b0, b1, b2, b3, b4, b5, b6, b7] ++ (key.drop 8).drop 8) := by
    rw [← ea, ← eb, List.take_append_drop, List.take_append_drop]
  have ec : clampL key 16 = [a0, a1, a2, a3 % 16, a4 - a4 % 4, a5, a6, a7 % 16] ++ [b0 - b0 % 4, b1, b2, b3 % 16, b4 - b4 % 4, b5, b6, b7 % 16] := by
    rw [ek]
    exact clamp_eq ..
  rw [ec, vN_app]
  generalize vN [a0, a1, a2, a3 % 16, a4 - a4 % 4, a5, a6, a7 % 16] = X
  generalize vN [b0 - b0 % 4, b1, b2, b3 % 16, b4 - b4 % 4, b5, b6, b7 % 16] = Y
  show X + 18446744073709551616 * Y + 340282366920938463463374607431768211456 * 0 = X + 256 ^ 8 * Y
  omega
theorem vN_take_drop (l : List Int) (k : Nat) (h : k ≤ l.length) : vN l = vN (l.take k) + 256 ^ k * vN (l.drop k) := by
  have := vN_app (l.take k) (l.drop k)
  rw [List.take_append_drop, List.length_take, Nat.min_eq_left h] at this
  exact this
theorem partF_val {c : List Int} (hc : Bytes c) (hl : c.length ≤ 16) : ∃ a b c' d e : W64, partF c = [a, b, c', d, e] ∧ a.toNat < 67108864 ∧ b.toNat < 67108864 ∧ c'.toNat < 67108864 ∧ d.toNat < 67108864 ∧ e.toNat < 67108864 ∧
    n5 a.toNat b.toNat c'.toNat d.toNat e.toNat = vN c + 256 ^ c.length := by
  have hw : Bytes (wideP c) := fun x hx => by
    unfold wideP at hx
    rcases List.mem_append.1 hx with hx | hx
    · exact hc x hx
    · rcases List.mem_cons.1 hx with rfl | hx
      · omega
      · have := List.eq_of_mem_replicate hx; omega
  have l17 := wideP_len hl
  have l1 : ((wideP c).take 8).length = 8 := by simp; omega
  have l2 : (((wideP c).drop 8).take 8).length = 8 := by simp; omega
  have q1 := lo64_vN (bytes_take' hw 8) l1
  have q2 := lo64_vN (bytes_take' (bytes_drop' hw 8) 8) l2
  have ev : vN (wideP c) = vN c + 256 ^ c.length := by
    unfold wideP
    rw [vN_app, vN, vN_zeros]
    simp
  have d1 := vN_take_drop (wideP c) 8 (by omega)
  have d2 := vN_take_drop ((wideP c).drop 8) 8 (by simp; omega)
  have e16 : ((wideP c).drop 8).drop 8 = [(wideP c).getD 16 0] := by
    rw [List.drop_drop, List.drop_eq_getElem_cons (by omega), List.drop_of_length_le (by omega), List.getD_eq_getElem?_getD, List.getElem?_eq_getElem (by omega)]
    rfl
  have hx : 0 ≤ (wideP c).getD 16 0 ∧ (wideP c).getD 16 0 < 2 := by
    have hm : (wideP c).getD 16 0 ∈ wideP c := by
      rw [List.getD_eq_getElem?_getD, List.getElem?_eq_getElem (by omega)]
      exact List.getElem_mem _
    by_cases h16 : c.length = 16
    · have : (wideP c).getD 16 0 = 1 := by
        unfold wideP
        rw [List.getD_eq_getElem?_getD, List.getElem?_append_right (by omega), h16]
        rfl
      omega
    · have : (wideP c).getD 16 0 = 0 := by
        unfold wideP
        rw [List.getD_eq_getElem?_getD, List.getElem?_append_right (by omega)]
        have : 16 - c.length = (16 - c.length - 1) + 1 := by omega
        rw [this, List.getElem?_cons_succ, List.getElem?_replicate]
        split <;> rfl
      omega
  rw [e16] at d2
  simp only [vN] at d2
  have hab : (BitVec.ofInt 64 ((wideP c).getD 16 0)).toNat = ((wideP c).getD 16 0).toNat := by rw [BitVec.toNat_ofInt]; omega
  obtain ⟨a, b, c', d, e, h0, h1, h2, h3, h4, h5, hv⟩ := loadF_val (lo64 ((wideP c).take 8)) (lo64 (((wideP c).drop 8).take 8)) (BitVec.ofInt 64 ((wideP c).getD 16 0)) (by rw [hab]; omega)
  refine ⟨a, b, c', d, e, h0, h1, h2, h3, h4, h5, ?_⟩
  rw [hv, hab, q1, q2, ← ev, d1, d2]
  omega
def tagV (r : Nat) (b : List Int) : Nat → Nat
  | 0 => 0
  | k + 1 => (tagV r b k + (vN ((b.drop (16 * k)).take 16) + 256 ^ ((b.drop (16 * k)).take 16).length)) * r % pP
theorem tagV_lt (r : Nat) (b : List Int) : ∀ k, tagV r b k < pP
  | 0 => by show 0 < pP; decide
  | k + 1 => Nat.mod_lt _ (by decide)
theorem tagH_val {key b : List Int} (hk : Bytes key) (hl : key.length = 32) (hb : Bytes b) : ∀ k, ∃ a b' c d e : W64, tagH (tagR key) b k = [a, b', c, d, e] ∧ a.toNat < 67108869 ∧ b'.toNat < 67108864 ∧ c.toNat < 67108864 ∧ d.toNat < 67108864 ∧ e.toNat < 67108864 ∧
    n5 a.toNat b'.toNat c.toNat d.toNat e.toNat % pP = tagV (vN (clampL key 16)) b k
  | 0 => ⟨0, 0, 0, 0, 0, rfl, by decide, by decide, by decide, by decide, by decide, rfl⟩
  | k + 1 => by
    obtain ⟨a, b', c, d, e, h0, h1, h2, h3, h4, h5, hv⟩ := tagH_val hk hl hb k
    obtain ⟨ra, rb, rc, rd, re, r0, r1, r2, r3, r4, r5, rv⟩ := tagR_val hk hl
    obtain ⟨pa, pb, pc, pd, pe, p0, p1, p2, p3, p4, p5, pv⟩ := partF_val (c := (b.drop (16 * k)).take 16) (bytes_take' (bytes_drop' hb _) _) (by simp; omega)
    obtain ⟨sa, sb, sc, sd, se, s0, s1, s2, s3, s4, s5, sv⟩ := plusF_val (a := a) (b := b') (c := c) (d := d) (e := e) (f := pa) (g := pb) (h := pc) (i := pd) (j := pe) (by omega) (by omega) (by omega) (by omega) (by omega) (by omega) (by omega) (by omega) (by omega) (by omega)
    obtain ⟨ta, tb, tc, td, te, t0, t1, t2, t3, t4, t5, tv⟩ := timesF_val (a := sa) (b := sb) (c := sc) (d := sd) (e := se) (f := ra) (g := rb) (h := rc) (i := rd) (j := re) (by omega) (by omega) (by omega) (by omega) (by omega) (by omega) (by omega) (by omega) (by omega) (by omega)
    refine ⟨ta, tb, tc, td, te, ?_, t1, t2, t3, t4, t5, ?_⟩
    · rw [tagH, h0, p0, s0]
      rw [r0, t0]
    · rw [tv, sv, rv, pv, tagV, ← hv]
      generalize n5 a.toNat b'.toNat c.toNat d.toNat e.toNat = X
      generalize vN (clampL key 16) = R
      generalize vN ((b.drop (16 * k)).take 16) + 256 ^ ((b.drop (16 * k)).take 16).length = Y
      rw [Nat.mul_mod, ← Nat.mod_add_mod, ← Nat.mul_mod]
theorem p128 : (256 : Int) ^ 8 = 18446744073709551616 := by decide
theorem tagE_val {a b c d e : W64} (ha : a.toNat < 67108864) (hb : b.toNat < 67108864) (hc : c.toNat < 67108864) (hd : d.toNat < 67108864) (he : e.toNat < 67108864) (s0 s1 : W64) :
    tagE s0 s1 [a, b, c, d, e] = putLow 16 ((n5 a.toNat b.toNat c.toNat d.toNat e.toNat + (s0.toNat + 18446744073709551616 * s1.toNat) : Nat) : Int) := by
  have hw := words_val ha hb hc hd he
  generalize n5 a.toNat b.toNat c.toNat d.toNat e.toNat = N at hw ⊢
  unfold tagE
  dsimp only
  generalize wlo [a, b, c, d, e] = lo at hw ⊢
  generalize whi [a, b, c, d, e] = hi at hw ⊢
  have b1 := lo.isLt; have b2 := hi.isLt; have b3 := s0.isLt; have b4 := s1.isLt
  have v1 : (1 : W64).toNat = 1 := rfl
  have es : (lo + s0).toNat = (lo.toNat + s0.toNat) % 18446744073709551616 := BitVec.toNat_add ..
  rw [putLow_app 8 8, p128]
  have hlow : putLow 8 ((N + (s0.toNat + 18446744073709551616 * s1.toNat) : Nat) : Int) = putLow 8 ((lo + s0).toNat : Int) := by
    have : ((N + (s0.toNat + 18446744073709551616 * s1.toNat) : Nat) : Int) = ((lo + s0).toNat : Int) + 256 ^ 8 * (((N + (s0.toNat + 18446744073709551616 * s1.toNat) : Nat) : Int) / 18446744073709551616) := by
      rw [es, p128]
      omega
    rw [this, putLow_mod]
  rw [hlow]
  congr 1
  have hh : ∀ t : W64, (t = if (lo + s0).toNat < lo.toNat then hi + 1 else hi) → putLow 8 ((t + s1).toNat : Int) = putLow 8 (((N + (s0.toNat + 18446744073709551616 * s1.toNat) : Nat) : Int) / 18446744073709551616) := fun t ht => by
    have et : t.toNat = (hi.toNat + (lo.toNat + s0.toNat) / 18446744073709551616) % 18446744073709551616 := by
      rw [ht]
      split
      · rename_i hlt
        rw [es] at hlt
        have : (hi + 1).toNat = (hi.toNat + 1) % 18446744073709551616 := BitVec.toNat_add ..
        rw [this]
        omega
      · rename_i hlt
        rw [es] at hlt
        omega
    have e2 : (t + s1).toNat = (t.toNat + s1.toNat) % 18446744073709551616 := BitVec.toNat_add ..
    have : ((N + (s0.toNat + 18446744073709551616 * s1.toNat) : Nat) : Int) / 18446744073709551616 = ((t + s1).toNat : Int) + 256 ^ 8 * (((N + (s0.toNat + 18446744073709551616 * s1.toNat) : Nat) : Int) / 18446744073709551616 / 18446744073709551616) := by
      rw [e2, et, p128]
      omega
    rw [this, putLow_mod]
  exact hh _ rfl
theorem tagF_val {key b : List Int} (hk : Bytes key) (hl : key.length = 32) (hb : Bytes b) :
    tagF key b = putLow 16 ((tagV (vN (clampL key 16)) b ((b.length + 15) / 16) + vN ((key.drop 16).take 16) : Nat) : Int) := by
  obtain ⟨a, b', c, d, e, h0, h1, h2, h3, h4, h5, hv⟩ := tagH_val hk hl hb ((b.length + 15) / 16)
  obtain ⟨a2, b2, c2, d2, e2, k0, k1, k2, k3, k4, k5, kv⟩ := leastF_val h1 h2 h3 h4 h5
  unfold tagF
  rw [h0, k0, tagE_val k1 k2 k3 k4 k5, kv, hv]
  have q1 := lo64_vN (l := (key.drop 16).take 8) (bytes_take' (bytes_drop' hk 16) 8) (by simp; omega)
  have q2 := lo64_vN (l := (key.drop 24).take 8) (bytes_take' (bytes_drop' hk 24) 8) (by simp; omega)
  have d1 := vN_take_drop ((key.drop 16).take 16) 8 (by simp; omega)
  have e1 : ((key.drop 16).take 16).take 8 = (key.drop 16).take 8 := by rw [List.take_take]; rfl
  have e2 : ((key.drop 16).take 16).drop 8 = (key.drop 24).take 8 := by rw [List.drop_take, List.drop_drop]
  rw [e1, e2] at d1
  rw [q1, q2, d1]
end Go.Proofs.YtgeepceieckooaaGreatDoor
end
