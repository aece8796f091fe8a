/-
  ClientBack: what was written is read again by another client with the same vault: the value, with its dot, its epoch and its past.
  Conditions: none.
-/
import Derived.Test.YtaofgcahmfailaaGreatDoorRows
import Derived.WalkKit
import Derived.ProofKit
import Derived.OpenShut
import Derived.Carry
import Derived.LaidMore
import Derived.Stop.Joined
import Derived.SevenTiedAt
import Derived.Test.YtaofgcahmfailaaGreatDoorCards
import Derived.Test.YtaofgcahmfailaaGreatDoorTie
import Derived.Test.YtaofgcahmfailaaGreatDoorCjGPM24
set_option maxRecDepth 100000
set_option linter.unusedVariables false
section
namespace Go.Proofs.YtaofgcahmfailaaGreatDoor
open Go Go.Ck Go.ChangeShapes
set_option maxHeartbeats 1000000
theorem cellsAct : Tryz.prog.cellsOf 41 = 25 := by kernel_rfl
theorem cellsAct1 : Tryz.prog.cellsOf 3 = 1 := by kernel_rfl
theorem cellsAct2 : Tryz.prog.cellsOf 33 = 1 := by kernel_rfl
theorem cellsAct3 : Tryz.prog.cellsOf 4 = 1 := by kernel_rfl
theorem cellsAct4 : Tryz.prog.cellsOf 38 = 1 := by kernel_rfl
theorem cellsAct5 : Tryz.prog.cellsOf 39 = 1 := by kernel_rfl
section
variable {H : Type} {enc : TypeId × Value → H} {w : World} {base : Nat} {spare : Nat → Bool} {held : Bool}
theorem up_flat (l : List Int) : l.flatMap (fun n => [Value.int .i64 n]) = up l := by
  induction l with
  | nil => rfl
  | cons a l ih => rw [List.flatMap_cons, ih]; rfl
theorem trod_is {m : Nat} {cs : List Value} {y : DataW H × List MemPlace} (h : DataW.trod enc Tryz.prog w base spare held m 38 cs = some y) :
    ∃ (v : Value) (l : List Int), cs = [v] ∧ Sc (fun b => w.heap[b]?) 1 v l.length (up l) ∧ l.length ≤ maxLen := by
  obtain ⟨v, l, h1, h2, h3, h4⟩ := trod_slice_of (en := fun n : Int => [Value.int .i64 n]) (R := fun _ => True) Tryz.underlying38 cellsAct1 (by decide) (fun _ => rfl) (fun m cs y hy => by
    obtain ⟨n, e, _⟩ := DataW.trod_int Tryz.underlying3 hy
    exact ⟨n, trivial, e⟩) h
  rw [up_flat] at h2
  exact ⟨v, l, h1, h2, h3⟩
theorem trod_act1 {m : Nat} {cs : List Value} {y : DataW H × List MemPlace} (h : DataW.trod enc Tryz.prog w base spare held m 41 cs = some y) : ∃ x : ActD, (Av (fun b => w.heap[b]?) x ∧ x.val.length ≤ maxLen ∧ x.l.length ≤ maxLen) ∧ cs = acc x := by
  obtain ⟨hl, hf⟩ := trod_fields Tryz.underlying41 h
  rw [cellsAct] at hl
  match cs, hl with
  | [c0, c1, c2, c3, c4, c5, c6, c7, c8, c9, c10, c11, c12, c13, c14, c15, c16, c17, c18, c19, c20, c21, c22, c23, c24], _ =>
    obtain ⟨m1, y1, h1⟩ := hf _ (List.mem_of_getElem? (i := 0) rfl)
    obtain ⟨m2, y2, h2⟩ := hf _ (List.mem_of_getElem? (i := 1) rfl)
    obtain ⟨m3, y3, h3⟩ := hf _ (List.mem_of_getElem? (i := 2) rfl)
    obtain ⟨m4, y4, h4⟩ := hf _ (List.mem_of_getElem? (i := 3) rfl)
    obtain ⟨m5, y5, h5⟩ := hf _ (List.mem_of_getElem? (i := 4) rfl)
    obtain ⟨m6, y6, h6⟩ := hf _ (List.mem_of_getElem? (i := 5) rfl)
    obtain ⟨m7, y7, h7⟩ := hf _ (List.mem_of_getElem? (i := 6) rfl)
    obtain ⟨m8, y8, h8⟩ := hf _ (List.mem_of_getElem? (i := 7) rfl)
    obtain ⟨m9, y9, h9⟩ := hf _ (List.mem_of_getElem? (i := 8) rfl)
    dsimp only at h1 h2 h3 h4 h5 h6 h7 h8 h9
    rw [cellsAct1] at h1 h2 h3 h8
    rw [cellsAct2] at h4
    rw [cellsAct3] at h5
    rw [cellsCx] at h6
    rw [cellsAct4] at h7
    rw [cellsAct5] at h9
    obtain ⟨n1, e1, _⟩ := DataW.trod_int Tryz.underlying3 h1
    obtain ⟨n2, e2, _⟩ := DataW.trod_int Tryz.underlying3 h2
    obtain ⟨n3, e3, _⟩ := DataW.trod_int Tryz.underlying3 h3
    obtain ⟨v4, l4, e4, s4, b4, k4⟩ := trod_bs h4
    obtain ⟨b5, e5, _⟩ := DataW.trod_bool Tryz.underlying4 h5
    obtain ⟨u, l, mv, hu, e6, hds, hll⟩ := trod_cxc h6
    obtain ⟨v7, l7, e7, s7, k7⟩ := trod_is h7
    obtain ⟨n8, e8, _⟩ := DataW.trod_int Tryz.underlying3 h8
    obtain ⟨v9, l9, e9, s9, k9, _⟩ := trod_rs h9
    simp only [List.drop, List.take, List.cons.injEq, and_true] at e1 e2 e3 e4 e5 e6 e7 e8 e9
    refine ⟨⟨n1, n2, n3, l4, v4, b5, u, hu, l, mv, l7, v7, n8, l9, v9⟩, ⟨⟨s4, b4, hds, s7, s9⟩, k4, hll⟩, ?_⟩
    unfold acc
    dsimp only
    rw [e1, e2, e3, e4, e5, e7, e8, e9, ← e6]
    rfl
end
end Go.Proofs.YtaofgcahmfailaaGreatDoor
end

section
namespace Go.Proofs.YtaofgcahmfailaaGreatDoor.clientBack
open Go Go.Ck Go.ChangeShapes Go.WideShapes Go.ChangeAt Go.RowKit
set_option maxHeartbeats 1000000
theorem laidOut : laidOutB Tryz.prog = true := by kernel_rfl
theorem own : ownKnob Tryz.prog.godebug = none := by kernel_rfl
theorem laid_eq : Rows.clientBackRow.laid = [("casket/sha2.keys", .agg ((shK.map fun a => (a.toNat : Int)).map fun x => .lit (.int .u32 x))), ("casket/sha2.start", .agg ((shH.map fun a => (a.toNat : Int)).map fun x => .lit (.int .u32 x)))] := by kernel_rfl
theorem upK : (shK.map fun a => (a.toNat : Int)).map (Value.int .u32) = up32 shK := by kernel_rfl
theorem upH : (shH.map fun a => (a.toNat : Int)).map (Value.int .u32) = up32 shH := by kernel_rfl
theorem of_laid {W : World} (h : laidMetH Tryz.prog Rows.clientBackRow.laid W) : ShG (fun b => W.heap[b]?) := by
  rw [MakeChecks.laidMetH_plain _ _ _ (by kernel_rfl)] at h
  obtain ⟨ps, h, _⟩ := h
  rw [laid_eq] at h
  obtain ⟨h1, qs, h⟩ := laid_ints (g := 1) (t := 204) (e := 162) (by kernel_rfl) (by kernel_rfl) Tryz.underlying204 Tryz.underlying162 (by kernel_rfl) (by kernel_rfl) h
  obtain ⟨h2, _⟩ := laid_ints (g := 0) (t := 188) (e := 162) (by kernel_rfl) (by kernel_rfl) Tryz.underlying188 Tryz.underlying162 (by kernel_rfl) (by kernel_rfl) h
  rw [upK] at h1
  rw [upH] at h2
  exact ⟨h1, h2⟩
theorem door_met (os : Os) (args : Array Value) : laidMetH Tryz.prog Rows.clientBackRow.laid ((World.doorLaid Tryz.prog 400 os).forCall (fun _ _ => 0) ⟨#[], args, []⟩).memory :=
  laidMetH_of_parts3 (fuel := 8) (laidMet_of_run' 8 (by kernel_rfl) (by kernel_rfl)) (by kernel_rfl) (by kernel_rfl)
theorem contract (H : Type) (enc : TypeId × Value → H) (W : World) (base : Nat) (args : Array Value) (ds gs : List (DataW H)) (before : List MemPlace)
    (hval : ∀ (j : Nat) t v, Tryz.f4.params[j]? = some t → args[j]? = some v → Value.okWide Tryz.prog W .any base t v)
    (hW : DataW.Whole enc Tryz.prog Tryz.f4.params.toList Rows.clientBackSpec.vars false W args.toList ds gs before) (hL : laidMetH Tryz.prog Rows.clientBackRow.laid W) :
    Calls Tryz.prog 4 args W fun e W' => ∃ v, e = .returned v ∧ Rows.clientBackSpec.post enc Tryz.prog Tryz.f4 false true false false W args v W' := by
  have hW' := hW
  obtain ⟨p, q, hA0, hV, rfl, hfz, hnd⟩ := hW
  have hA : DataW.TrodAll enc Tryz.prog W 0 (fun _ => true) true Tryz.f4.params.toList args.toList ds p := hA0
  rw [Tryz.params4] at hA hval
  obtain ⟨v0, vs0, d0, ds0, p0, q0, hargs0, rfl, rfl, h0, r0⟩ := trodAll_cons hA
  obtain ⟨v1, vs1, d1, ds1, p1, q1, hargs1, rfl, rfl, h1, r1⟩ := trodAll_cons r0
  obtain ⟨v2, vs2, d2, ds2, p2, q2, hargs2, rfl, rfl, h2, r2⟩ := trodAll_cons r1
  obtain ⟨rfl, rfl, rfl⟩ := trodAll_nil r2
  obtain rfl : args = #[v0, v1, v2] := by cases args; simp_all
  obtain ⟨rfl, rfl⟩ := trodVars_none hV
  obtain ⟨n0, rfl, rfl, rfl⟩ := open_bool Tryz.underlying4 (hval 0 4 v0 rfl rfl) h0
  obtain ⟨cs1, rfl, _⟩ := okWide_struct Tryz.underlying41 (hval 1 41 v1 rfl rfl)
  obtain ⟨fu1, g1⟩ := id h1
  obtain ⟨a1, ⟨ha1, hk1, hl1⟩, hc1⟩ := trod_act1 g1
  obtain rfl : cs1 = (acc a1).toArray := by
    have e : (Value.agg cs1).cells.toList = cs1.toList := rfl
    rw [e] at hc1
    rw [← hc1]
  have hl1 : a1.l.length ≤ 9223372036854775807 := by unfold maxLen at hl1; omega
  have hk1 : a1.val.length ≤ 9223372036854775807 := by unfold maxLen at hk1; omega
  obtain ⟨n2, rfl, rfl, rfl, w2⟩ := open_int Tryz.underlying3 (hval 2 3 v2 rfl rfl) h2
  have hst : St ⟨W, fun b => W.heap[b]?, []⟩ (fun b => W.heap[b]?) [] W := St.start (L := []) ⟨fun b o hb => hb, fun r hr => (by cases hr)⟩ (by simp [doms]) (fun b hb => (by simp [doms] at hb))
  refine (ClientBack_sp n0 a1 n2 _ ha1 hk1 hl1 (of_laid hL) W hst).mono fun e W' ⟨h', he, s'⟩ => ?_
  subst he
  have hb : Below W.heap.size W W' := ⟨s'.os, s'.tape, s'.output, s'.size, fun k hk => s'.keep k hk (by simp)⟩
  simp only [List.append_nil] at hW'
  have hlt1 : ∀ x ∈ p1, x.block < W.heap.size := fun x hx => by simpa using hW'.lt x (by simp [hx])
  exact ⟨_, rfl, _, _, _, [], p1, [], hW', trodAll_cons_mk (shut_bool Tryz.underlying4 _) trodAll_mk0,
    by
      have h := (trodAll_cons_mk (shut_bool Tryz.underlying4 n0) (trodAll_cons_mk (Below.trod laidOut (by kernel_rfl) (oet_ (by kernel_rfl)) h1 hb hlt1) (trodAll_cons_mk (shut_int Tryz.underlying3 w2) trodAll_mk0)))
      simp only [List.append_nil] at h
      exact h,
    rfl, hb.frame _, fun h => by cases h⟩
set_option maxRecDepth 100000 in
theorem lifted (os : Os) (started : os.Started) (H : Type) (enc : TypeId × Value → H) :
    ReturnsInHanded {} Tryz.checked os 4 .any (fun w args => (Rows.clientBackSpec.pre enc Tryz.prog Tryz.f4 Rows.clientBackRow.domain false w args ∧ laidMetH Tryz.prog Rows.clientBackRow.laid w) ∧ sizedMet enc Tryz.prog Tryz.f4 (OpenSpec.ofChange Rows.clientBackSpec) false w args) (Rows.clientBackSpec.post enc Tryz.prog Tryz.f4 false true false false) := by
  refine returnsInHanded_of_change_and (C := Tryz.checked) (X := fun w _ => laidMetH Tryz.prog Rows.clientBackRow.laid w) (fun _ _ _ hh h => h.of_heap hh) own started (by kernel_rfl) Tryz.func4
    (ChangeSpec.witness_shaped (enc := enc) (C := Tryz.checked) (os := os) (X := fun w _ => laidMetH Tryz.prog Rows.clientBackRow.laid w) false (World.doorLaid Tryz.prog 400 os) #[.bool false, .agg #[.int .i64 0, .int .i64 0, .int .i64 0, .slice none 0 0, .bool false, .int .i64 0, .int .i64 0, .int .i64 0, .int .i64 0, .int .i64 0, .int .i64 0, .int .i64 0, .int .i64 0, .int .i64 0, .int .i64 0, .int .i64 0, .int .i64 0, .int .i64 0, .int .i64 0, .int .i64 0, .int .i64 0, .slice none 0 0, .slice none 0 0, .int .i64 0, .slice none 0 0], .int .i64 0] 8 rfl (World.shaped_of_RefB (by kernel_rfl) (by kernel_rfl)) (by kernel_rfl) (by kernel_rfl) (by kernel_rfl) (door_met os _)) ?_
  intro W base args ds gs before hval hW _ _ hL _
  exact contract H enc W base args ds gs before hval hW hL
theorem over : Rows.ClientBackSaid :=
  OpenClaim.holds_of_wide 4 Tryz.f4 rfl rfl rfl rfl rfl rfl rfl ⟨rfl, rfl, rfl, rfl, rfl⟩ rfl rfl rfl rfl rfl (by kernel_rfl) Tryz.func4 (by kernel_rfl)
    (oet_ (by kernel_rfl)) (by unfold Func.isWrapper;first|(rw [if_pos (by decide +kernel)];kernel_rfl)|(rw [if_neg (by decide +kernel)];exact ⟨rfl, rfl⟩))
    (fun os started H enc _ => lifted os started H enc)
theorem proved : Rows.ClientBackCardSaid :=
  Claim7.holds_tied_plain_at .later [] Rows.clientBackCard.laidKinds true Rows.clientBackCard.stood.harness false
    over (fun _ h => by cases h) (by kernel_rfl) (fun _ h => by cases h) clientBack_row_tie rfl ⟨rfl, rfl⟩ (by kernel_rfl) rfl
    (fun f fn hf hfn => by
      obtain rfl : f = 4 := Option.some.inj ((show Tryz.prog.funcNamed "casket/casketlaw27.ClientBack" = some 4 by kernel_rfl).symm.trans hf) |>.symm
      obtain rfl : fn = Tryz.f4 := (Option.some.inj (Tryz.func4.symm.trans hfn)).symm
      exact ⟨by kernel_rfl, fun j t ht => by
        rw [Tryz.params4] at ht
        have hm : t ∈ [4, 41, 3] := by simpa using Array.mem_of_getElem? ht
        have hall : ([4, 41, 3].all fun u => !Tryz.prog.wantsStandIn u) = true := by kernel_rfl
        exact (show Tryz.prog.wantsStandIn t = false by simpa using List.all_eq_true.1 hall t hm)⟩)
    (by kernel_rfl)
end Go.Proofs.YtaofgcahmfailaaGreatDoor.clientBack
end
