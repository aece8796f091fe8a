/-
  Part 16 of a proof: RdF CkAny RdG RdH RdI RdK.
  Conditions: each theorem states its own.
-/
import Derived.Test.YtgeepceieckooaaGreatDoorSeEPM15
set_option maxRecDepth 100000
set_option linter.unusedVariables false
set_option linter.unusedSimpArgs false
section
namespace Go.Proofs.YtgeepceieckooaaGreatDoor
open Go Go.Ck
set_option maxHeartbeats 4000000
theorem qv_subD {P : Program} {n : Nat} {F : List (Nat × Value)} {h : View} {L : List Res} {dst : Option Nat} {ty : Nat} {pos : String} {af : Array Edge} {gd : Option (Nat × Bool)} {T T' : Nat} {x y : Operand} {i j r : Int} (hx : ev F x = some (.int .i64 i)) (hy : ev F y = some (.int .i64 j)) (hr : i - j = r) (hb : I64 (i - j)) :
    QV P n F h L ⟨dst, .binOp .sub T x y T', ty, pos, af, gd⟩ (.int .i64 r) := by subst hr; exact yao hx hy hb
theorem bstr_listD (l : List Int) : (bstr l).toList = l.map fun n => UInt8.ofNat n.toNat := by
  rw [ByteArray.toList_eq]
  simp [bstr]
theorem bstr_eqD {a b : List Int} (ha : Bytes a) (hb : Bytes b) : ((bstr a).toList == (bstr b).toList) = decide (a = b) := by
  rw [bstr_listD, bstr_listD]
  rw [Bool.eq_iff_iff, decide_eq_true_iff, beq_iff_eq]
  refine ⟨fun h => ?_, fun h => by rw [h]⟩
  have h1 := congrArg (List.map fun x : UInt8 => (x.toNat : Int)) h
  have h2 : ∀ l : List Int, Bytes l → List.map (fun x : UInt8 => (x.toNat : Int)) (l.map fun n => UInt8.ofNat n.toNat) = l := fun l hl => by
    rw [List.map_map]
    have : l.map ((fun x : UInt8 => (x.toNat : Int)) ∘ fun n : Int => UInt8.ofNat n.toNat) = l.map id := List.map_congr_left fun x hx => by
      have := hl x hx
      simp
      omega
    rw [this, List.map_id]
  rwa [h2 a ha, h2 b hb] at h1
theorem rBlind_sp (key nm : List Int) (hk : Bytes key) (hk32 : key.length = 32) (hn : Bytes nm) (hnl : nm.length ≤ 64) (h : View) (w : World) (s : St ⟨w, h, []⟩ h [] w) :
    Calls Tryz.prog 67 [.string (bstr key), .string (bstr nm)].toArray w fun e w' => e = .returned (.string (bstr (blindR key nm))) ∧ St ⟨w, h, []⟩ h [] w' := by
  have hub : Bytes useB := fun b hb => by
    simp only [useB, List.mem_cons, List.not_mem_nil, or_false] at hb
    omega
  have E1 := rExpand_sp key useB hk (by omega) hub (by decide) h
  have hes : bstr useB = ⟨#[98, 108, 105, 110, 100]⟩ := rfl
  rw [hes] at E1
  have H1 := rHmac_sp (expandF key useB) nm (expandF_by _ _) (by rw [expandF_len]; omega) hn (by omega) h
  have eb : hmacF (expandF key useB) nm = blindR key nm := rfl
  rw [eb] at H1
  generalize blindR key nm = X at H1 ⊢
  generalize expandF key useB = Y at E1 H1
  refine calls_enter Tryz.func67 rfl Tryz.ntmps67 rfl s ?_
  repeat' (first|refine zw368 ?_|(refine ta_ ?_;intro _)|(refine zk0 ?_ ?_<;>intro ht)|fail)
  (refine ycn (ycp Tryz.func94 rfl (by kernel_rfl) rfl) (E1) rfl rfl rfl ?_ ?_; (· (exact to_)))
  repeat' (first|refine zw368 ?_|(refine ta_ ?_;intro _)|(refine zk0 ?_ ?_<;>intro ht)|fail)
  (refine ycn (ycp Tryz.func93 rfl (by kernel_rfl) rfl) (H1) rfl rfl rfl ?_ ?_; (· (exact to_)))
  repeat' (first|refine zw368 ?_|(refine ta_ ?_;intro _)|(refine zk0 ?_ ?_<;>intro ht)|fail)
  exact nx_ret1 rfl (rv_tmp rfl) (fun w' s' => ⟨rfl, s'⟩)
theorem rSealK_sp (key : List Int) (ep : Int) (hk : Bytes key) (hk32 : key.length = 32) (he : 1 ≤ ep ∧ ep ≤ 1048576) (h : View) (w : World) (s : St ⟨w, h, []⟩ h [] w) :
    Calls Tryz.prog 71 [.string (bstr key), .int .i64 ep].toArray w fun e w' => e = .returned (.string (bstr (sealK key ep))) ∧ St ⟨w, h, []⟩ h [] w' := by
  have hub : Bytes useS := fun b hb => by
    simp only [useS, List.mem_cons, List.not_mem_nil, or_false] at hb
    omega
  have w1 : IntKind.u64.wrap ep = ep := wrap_u64 (by omega) (by omega)
  have P1 := Put_sp ep 8 ⟨by omega, by omega⟩ (by omega) h
  have hes : bstr useS = ⟨#[115, 101, 97, 108]⟩ := rfl
  have c1 : bstr useS ++ bstr (putLow 8 ep).reverse = bstr (useS ++ (putLow 8 ep).reverse) := bstr_app _ _
  have z1 : (bstr useS).size + (bstr (putLow 8 ep).reverse).size < 1000000 := by rw [bstr_size, bstr_size, List.length_reverse, putLow_len]; decide
  rw [hes] at c1 z1
  have E1 := rExpand_sp key (useS ++ (putLow 8 ep).reverse) hk (by omega) (cbytes_app hub (putLow_bytes' 8 _)) (by rw [List.length_append, List.length_reverse, putLow_len]; decide) h
  have eb : expandF key (useS ++ (putLow 8 ep).reverse) = sealK key ep := rfl
  rw [eb] at E1
  generalize sealK key ep = X at E1 ⊢
  refine calls_enter Tryz.func71 rfl Tryz.ntmps71 rfl s ?_
  repeat' (first|refine zw369 ?_|(refine ta_ ?_;intro _)|(refine zk0 ?_ ?_<;>intro ht)|fail)
  (refine ycn (ycp Tryz.func85 rfl (by kernel_rfl) rfl) (P1) rfl rfl rfl ?_ ?_; (· (exact to_)))
  repeat' (first|refine zw369 ?_|(refine ta_ ?_;intro _)|(refine zk0 ?_ ?_<;>intro ht)|fail)
  (refine ycn (ycp Tryz.func94 rfl (by kernel_rfl) rfl) (E1) rfl rfl rfl ?_ ?_; (· (exact to_)))
  repeat' (first|refine zw369 ?_|(refine ta_ ?_;intro _)|(refine zk0 ?_ ?_<;>intro ht)|fail)
  exact nx_ret1 rfl (rv_tmp rfl) (fun w' s' => ⟨rfl, s'⟩)
theorem rNonce_sp (c n : Int) (hok : nonceOk c n) (h : View) (w : World) (s : St ⟨w, h, []⟩ h [] w) :
    Calls Tryz.prog 72 [.int .i64 c, .int .i64 n].toArray w fun e w' => e = .returned (.string (bstr (nonceF c n))) ∧ St ⟨w, h, []⟩ h [] w' := by
  have en : nonceF c n = (putLow 4 c).reverse ++ (putLow 8 n).reverse := if_pos hok
  unfold nonceOk at hok
  have w1 : IntKind.u64.wrap c = c := wrap_u64 (by omega) (by omega)
  have w2 : IntKind.u64.wrap n = n := wrap_u64 (by omega) (by omega)
  have P1 := Put_sp c 4 ⟨by omega, by omega⟩ (by omega) h
  have P2 := Put_sp n 8 ⟨by omega, by omega⟩ (by omega) h
  have c1 : bstr (putLow 4 c).reverse ++ bstr (putLow 8 n).reverse = bstr (nonceF c n) := by rw [bstr_app, en]
  have z1 : (bstr (putLow 4 c).reverse).size + (bstr (putLow 8 n).reverse).size < 1000000 := by rw [bstr_size, bstr_size, List.length_reverse, List.length_reverse, putLow_len, putLow_len]; decide
  generalize nonceF c n = X at c1 ⊢
  refine calls_enter Tryz.func72 rfl Tryz.ntmps72 rfl s ?_
  repeat' (first|refine zw370 ?_|(refine ta_ ?_;intro _)|(refine zk0 ?_ ?_<;>intro ht)|fail)
  (refine ycn (ycp Tryz.func85 rfl (by kernel_rfl) rfl) (P1) rfl rfl rfl ?_ ?_; (· (exact to_)))
  repeat' (first|refine zw370 ?_|(refine ta_ ?_;intro _)|(refine zk0 ?_ ?_<;>intro ht)|fail)
  (refine ycn (ycp Tryz.func85 rfl (by kernel_rfl) rfl) (P2) rfl rfl rfl ?_ ?_; (· (exact to_)))
  repeat' (first|refine zw370 ?_|(refine ta_ ?_;intro _)|(refine zk0 ?_ ?_<;>intro ht)|fail)
  exact nx_ret1 rfl (rv_tmp rfl) (fun w' s' => ⟨rfl, s'⟩)
theorem rName_sp (n : Nat) (h : View) (w : World) (s : St ⟨w, h, []⟩ h [] w) :
    Calls Tryz.prog 30 [.int .i64 (n : Int)].toArray w fun e w' => e = .returned (.bool (decide (1 ≤ n ∧ n ≤ 64))) ∧ St ⟨w, h, []⟩ h [] w' := by
  refine calls_enter Tryz.func30 rfl Tryz.ntmps30 rfl s ?_
  by_cases h1 : 1 ≤ n
  · by_cases h2 : n ≤ 64
    · have e : decide (1 ≤ n ∧ n ≤ 64) = true := by simp [h1, h2]
      rw [e]
      repeat' (first|refine zw3 ?_|(refine ta_ ?_;intro _)|(refine zk0 ?_ ?_<;>intro ht)|fail)
      exact nx_ret1 rfl (rv_tmp rfl) (fun w' s' => ⟨rfl, s'⟩)
    · have e : decide (1 ≤ n ∧ n ≤ 64) = false := by simp [h2]
      rw [e]
      repeat' (first|refine zw3 ?_|(refine ta_ ?_;intro _)|(refine zk0 ?_ ?_<;>intro ht)|fail)
      exact nx_ret1 rfl (rv_tmp rfl) (fun w' s' => ⟨rfl, s'⟩)
  · have e : decide (1 ≤ n ∧ n ≤ 64) = false := by simp [h1]
    rw [e]
    repeat' (first|refine zw3 ?_|(refine ta_ ?_;intro _)|(refine zk0 ?_ ?_<;>intro ht)|fail)
    exact nx_ret1 rfl (rv_tmp rfl) (fun w' s' => ⟨rfl, s'⟩)
end Go.Proofs.YtgeepceieckooaaGreatDoor
end

section
namespace Go.Ck
open Go
theorem swap2 {P : Program} {ops : Array Oper} {Si Sj : World → Prop} {loi loj : Bool} {oi oj : Oper} (hap : oj.apart ops oi = true) (hsi : ∀ cs b, oi.op ≠ .select cs b) (hsj : ∀ cs b, oj.op ≠ .select cs b)
    (hlo : (loi && loj) = false) (hij : loi = true → ∀ w, Si w → Sj w) (hji : loj = true → ∀ w, Sj w → Si w) {K : Act → World → Prop} {a : Act} {w : World}
    (h : R1 P ops Sj loj false oj (fun a w => R1 P ops Si loi false oi K a w) a w) : R1 P ops Si loi false oi (fun a w => R1 P ops Sj loj false oj K a w) a w := by
  obtain ⟨h1, h2, h3⟩ := Oper.apart_spec hap
  have h2' : ∀ d, oi.dst = some d → oj.dst ≠ some d := fun d hd hj => h2 d hj hd
  have wi : ∀ (a : Act) u, Region.wanted oi (yielded ops (a.put oj.dst u).tmps) = Region.wanted oi (yielded ops a.tmps) := fun a u => wanted_put oi a oj.dst u h1
  have wj : ∀ (a : Act) u, Region.wanted oj (yielded ops (a.put oi.dst u).tmps) = Region.wanted oj (yielded ops a.tmps) := fun a u => wanted_put oj a oi.dst u h3
  have ei : ∀ (a : Act) u, execOp (a.put oj.dst u).eval oi = execOp a.eval oi := fun a u => execOp_put oi hsi a oj.dst u h1
  have ej : ∀ (a : Act) u, execOp (a.put oi.dst u).eval oj = execOp a.eval oj := fun a u => execOp_put oj hsj a oi.dst u h3
  have cm : ∀ (a : Act) u v, (a.put oj.dst u).put oi.dst v = (a.put oi.dst v).put oj.dst u := fun a u v => put_comm' a v u h2
  rcases h with ⟨g0, g1⟩ | ⟨g0, g1, u, g2, g3⟩ | ⟨g0, g1, g2, g3⟩
  · rcases g1 with ⟨k0, k1⟩ | ⟨k0, k1, v, k2, k3⟩ | ⟨k0, k1, k2, k3⟩
    · rw [wi] at k0
      exact .inl ⟨k0, .inl ⟨by rw [wj]; exact g0, by rw [← cm]; exact k1⟩⟩
    · rw [wi] at k0; rw [ei] at k2
      exact .inr (.inl ⟨k0, k1, v, k2, .inl ⟨by rw [wj]; exact g0, by rw [← cm]; exact k3⟩⟩)
    · rw [wi] at k0
      refine .inr (.inr ⟨k0, k1, k2, ?_⟩)
      rw [wp_put (ops := ops) hsi h1 (fun t ht => h2 t ht)] at k3
      refine Oper.wp_mono (fun a' w' hh => ?_) (wp_tag k3)
      obtain ⟨⟨hS, hK⟩, ds, v, rfl⟩ := hh
      exact ⟨hS, .inl ⟨by rw [wj]; exact g0, hK⟩⟩
  · rcases g3 with ⟨k0, k1⟩ | ⟨k0, k1, v, k2, k3⟩ | ⟨k0, k1, k2, k3⟩
    · rw [wi] at k0
      exact .inl ⟨k0, .inr (.inl ⟨by rw [wj]; exact g0, g1, u, by rw [ej]; exact g2, by rw [← cm]; exact k1⟩)⟩
    · rw [wi] at k0; rw [ei] at k2
      exact .inr (.inl ⟨k0, k1, v, k2, .inr (.inl ⟨by rw [wj]; exact g0, g1, u, by rw [ej]; exact g2, by rw [← cm]; exact k3⟩)⟩)
    · rw [wi] at k0
      refine .inr (.inr ⟨k0, k1, k2, ?_⟩)
      rw [wp_put (ops := ops) hsi h1 (fun t ht => h2 t ht)] at k3
      refine Oper.wp_mono (fun a' w' hh => ?_) (wp_tag k3)
      obtain ⟨⟨hS, hK⟩, ds, v, rfl⟩ := hh
      have hS' : Si w' := hS.resolve_right (by simp)
      refine ⟨hS, .inr (.inl ⟨by rw [wj]; exact g0, hij k1 w' hS', u, ?_, hK⟩)⟩
      rw [ej]; exact g2
  · have hli : loi = false := by cases loi <;> simp_all
    have hSw : Sj w := g2.resolve_right (by simp)
    have tg := wp_tag g3
    by_cases k0 : Region.wanted oi (yielded ops a.tmps) = true
    · obtain ⟨a1, w1, ⟨⟨hS1, hR1⟩, ds, u1, rfl⟩⟩ := wp_ex tg
      have hS1 : Sj w1 := hS1.resolve_right (by simp)
      have hw1 : Region.wanted oi (yielded ops ((Act.mk a.tmps ds).put oj.dst u1).tmps) = true := by rw [wi]; exact k0
      rcases hR1 with ⟨q0, _⟩ | ⟨_, _, v, q2, _⟩ | ⟨_, q1, _⟩
      · rw [hw1] at q0; cases q0
      · have hev : execOp (Act.mk a.tmps ds).eval oi = execOp a.eval oi := rfl
        rw [ei, hev] at q2
        refine .inr (.inl ⟨k0, hji g1 w hSw, v, q2, .inr (.inr ⟨by rw [wj]; exact g0, g1, g2, ?_⟩)⟩)
        rw [wp_put (ops := ops) hsj h3 (fun t ht => h2' t ht)]
        refine Oper.wp_mono (fun a' w' hh => ?_) tg
        obtain ⟨⟨hS, hR⟩, ds', u', rfl⟩ := hh
        refine ⟨hS, ?_⟩
        have hw2 : Region.wanted oi (yielded ops ((Act.mk a.tmps ds').put oj.dst u').tmps) = true := by rw [wi]; exact k0
        rcases hR with ⟨q0, _⟩ | ⟨_, _, v', q2', q3'⟩ | ⟨_, q1, _⟩
        · rw [hw2] at q0; cases q0
        · have hev' : execOp (Act.mk a.tmps ds').eval oi = execOp a.eval oi := rfl
          rw [ei, hev'] at q2'
          have : v' = v := by
            have e1 := q2' w1 (hji g1 w1 hS1)
            rw [q2 w1 (hji g1 w1 hS1)] at e1
            cases e1; rfl
          subst this
          exact q3'
        · rw [hli] at q1; cases q1
      · rw [hli] at q1; cases q1
    · have k0 : Region.wanted oi (yielded ops a.tmps) = false := by simpa using k0
      refine .inl ⟨k0, .inr (.inr ⟨by rw [wj]; exact g0, g1, g2, ?_⟩)⟩
      rw [wp_put (ops := ops) hsj h3 (fun t ht => h2' t ht)]
      refine Oper.wp_mono (fun a' w' hh => ?_) tg
      obtain ⟨⟨hS, hR⟩, ds', u', rfl⟩ := hh
      refine ⟨hS, ?_⟩
      have hw2 : Region.wanted oi (yielded ops ((Act.mk a.tmps ds').put oj.dst u').tmps) = false := by rw [wi]; exact k0
      rcases hR with ⟨_, q1⟩ | ⟨q0, _⟩ | ⟨q0, _⟩
      · exact q1
      · rw [hw2] at q0; cases q0
      · rw [hw2] at q0; cases q0
section
variable {P : Program} {ops : Array Oper} {S0 S1 : World → Prop} {lo wk : Nat → Bool} {ms : List Nat}
def Sx (S0 S1 : World → Prop) (wk : Nat → Bool) (i : Nat) : World → Prop := if wk i then S0 else S1
def rdyI (ms l : List Nat) (i : Nat) : Bool := l.all fun j => !(ms.getD i 0).testBit j
def fqI (ms : List Nat) (lo : Nat → Bool) (l : List Nat) : Option Nat := l.find? fun i => !lo i && rdyI ms l i
def era (i : Nat) (l : List Nat) : List Nat := l.filter fun j => !Nat.beq j i
def wpT (P : Program) (ops : Array Oper) (S0 S1 : World → Prop) (lo wk : Nat → Bool) (ms : List Nat) (Q : Act → World → Prop) : Nat → List Nat → Act → World → Prop
  | _, [], a, w => Q a w
  | 0, _ :: _, _, _ => False
  | n + 1, x :: r, a, w => match fqI ms lo (x :: r) with
    | some q => R1 P ops (Sx S0 S1 wk q) (lo q) false (nthO ops.toList q) (wpT P ops S0 S1 lo wk ms Q n (era q (x :: r))) a w
    | none => ∀ i ∈ x :: r, rdyI ms (x :: r) i = true → R1 P ops (Sx S0 S1 wk i) (lo i) false (nthO ops.toList i) (wpT P ops S0 S1 lo wk ms Q n (era i (x :: r))) a w
def anyOk (ops : Array Oper) (ms : List Nat) (lo wk : Nat → Bool) : Bool :=
  maskOk ops ms && Region.noSelect ops && (List.range ops.size).all fun j => lo j || ((List.range ops.size).all fun i => Nat.beq i j || (ms.getD i 0).testBit j || (ms.getD j 0).testBit i ||
    ((wk j || !wk i || !lo i) && match ops[j]?, ops[i]? with
      | some oj, some oi => oj.apart ops oi
      | _, _ => true))
theorem nbeq_f {i j : Nat} : Nat.beq j i = false ↔ j ≠ i := by
  rw [← Bool.not_eq_true]
  exact not_congr ⟨Nat.eq_of_beq_eq_true, fun e => by rw [e]; exact Nat.beq_refl i⟩
theorem era_mem {i j : Nat} {l : List Nat} : j ∈ era i l ↔ j ∈ l ∧ j ≠ i := by
  unfold era
  rw [List.mem_filter]
  refine and_congr_right fun _ => ?_
  rw [Bool.not_eq_true', nbeq_f]
theorem era_comm (i j : Nat) (l : List Nat) : era i (era j l) = era j (era i l) := by
  unfold era
  rw [List.filter_filter, List.filter_filter]
  congr 1
  funext k
  exact Bool.and_comm _ _
theorem era_nodup {i : Nat} {l : List Nat} (h : l.Nodup) : (era i l).Nodup := h.sublist List.filter_sublist
theorem era_none {i : Nat} {l : List Nat} (h : i ∉ l) : era i l = l := by
  unfold era
  rw [List.filter_eq_self]
  intro a ha
  have : a ≠ i := fun e => h (e ▸ ha)
  rw [nbeq_f.2 this]; rfl
theorem era_len {i : Nat} : ∀ {l : List Nat}, l.Nodup → i ∈ l → (era i l).length + 1 = l.length
  | [], _, h => by cases h
  | x :: l, hn, h => by
    have hn' := List.nodup_cons.1 hn
    by_cases hx : x = i
    · subst hx
      have e : era x (x :: l) = era x l := by simp [era]
      rw [e, era_none hn'.1]
      rfl
    · have e : era i (x :: l) = x :: era i l := by
        unfold era
        rw [List.filter_cons_of_pos (by rw [nbeq_f.2 hx]; rfl)]
      rw [e, List.length_cons, List.length_cons]
      have := era_len hn'.2 ((List.mem_cons.1 h).resolve_left (fun e => hx e.symm))
      omega
theorem rdy_era {i j : Nat} {l : List Nat} (h : rdyI ms l i = true) : rdyI ms (era j l) i = true := by
  unfold rdyI at *
  rw [List.all_eq_true] at *
  exact fun k hk => h k (era_mem.1 hk).1
theorem rdy_bit {i j : Nat} {l : List Nat} (h : rdyI ms l i = true) (hj : j ∈ l) : (ms.getD i 0).testBit j = false := by
  have := List.all_eq_true.1 h j hj
  simpa using this
theorem nthO_at {l : List Oper} {i : Nat} (h : i < l.length) : l[i]? = some (nthO l i) := by
  induction l generalizing i with
  | nil => simp at h
  | cons o l ih =>
    cases i with
    | zero => rfl
    | succ i => simpa [nthO] using ih (by simpa using h)
theorem any_pass (hS : ∀ w, S1 w → S0 w) (hB : anyOk ops ms lo wk = true) {i j : Nat} (hi : i < ops.size) (hj : j < ops.size) (hne : i ≠ j) (hq : lo j = false) (b1 : (ms.getD i 0).testBit j = false) (b2 : (ms.getD j 0).testBit i = false) {K : Act → World → Prop} {a : Act} {w : World}
    (h : R1 P ops (Sx S0 S1 wk j) (lo j) false (nthO ops.toList j) (fun a w => R1 P ops (Sx S0 S1 wk i) (lo i) false (nthO ops.toList i) K a w) a w) : R1 P ops (Sx S0 S1 wk i) (lo i) false (nthO ops.toList i) (fun a w => R1 P ops (Sx S0 S1 wk j) (lo j) false (nthO ops.toList j) K a w) a w := by
  simp only [anyOk, Bool.and_eq_true] at hB
  obtain ⟨⟨hm, hsel⟩, hp⟩ := hB
  have h1 := List.all_eq_true.1 hp j (List.mem_range.2 hj)
  rw [hq, Bool.false_or] at h1
  have h2 := List.all_eq_true.1 h1 i (List.mem_range.2 hi)
  have hib : Nat.beq i j = false := by
    cases hb : Nat.beq i j with
    | false => rfl
    | true => exact absurd (Nat.eq_of_beq_eq_true hb) hne
  have oi : ops[i]? = some (nthO ops.toList i) := by rw [← Array.getElem?_toList]; exact nthO_at (by simpa using hi)
  have oj : ops[j]? = some (nthO ops.toList j) := by rw [← Array.getElem?_toList]; exact nthO_at (by simpa using hj)
  rw [hib, b1, b2, oi, oj] at h2
  simp only [Bool.false_or, Bool.and_eq_true, Bool.or_eq_true, Bool.not_eq_true'] at h2
  obtain ⟨g1, g3⟩ := h2
  refine swap2 g3 (fun cs b => Region.noSelect_spec hsel i _ cs b oi) (fun cs b => Region.noSelect_spec hsel j _ cs b oj) (by rw [hq, Bool.and_false]) (fun hl w hs => ?_) (fun hl => by rw [hq] at hl; cases hl) h
  unfold Sx at hs ⊢
  rcases g1 with (g | g) | g
  · rw [if_pos g]
    split at hs
    · exact hs
    · exact hS w hs
  · rw [if_neg (by rw [g]; simp)] at hs
    split
    · exact hS w hs
    · exact hs
  · rw [hl] at g; cases g
theorem wpT_pos {Q : Act → World → Prop} {n : Nat} {l : List Nat} (hne : l ≠ []) {a : Act} {w : World} : wpT P ops S0 S1 lo wk ms Q (n + 1) l a w ↔ (match fqI ms lo l with
    | some q => R1 P ops (Sx S0 S1 wk q) (lo q) false (nthO ops.toList q) (wpT P ops S0 S1 lo wk ms Q n (era q l)) a w
    | none => ∀ i ∈ l, rdyI ms l i = true → R1 P ops (Sx S0 S1 wk i) (lo i) false (nthO ops.toList i) (wpT P ops S0 S1 lo wk ms Q n (era i l)) a w) := by
  cases l with
  | nil => exact absurd rfl hne
  | cons x r => rfl
theorem fq_some {l : List Nat} {q : Nat} (h : fqI ms lo l = some q) : q ∈ l ∧ lo q = false ∧ rdyI ms l q = true := by
  have h1 := List.find?_some h
  have h2 := List.mem_of_find?_eq_some h
  simp only [Bool.and_eq_true, Bool.not_eq_true'] at h1
  exact ⟨h2, h1.1, h1.2⟩
theorem fq_none {l : List Nat} (h : fqI ms lo l = none) {q : Nat} (hq : q ∈ l) (hl : lo q = false) : rdyI ms l q = false := by
  have := List.find?_eq_none.1 h q hq
  simpa [hl] using this
theorem wpT_AB (hS : ∀ w, S1 w → S0 w) (hB : anyOk ops ms lo wk = true) {Q : Act → World → Prop} : ∀ n : Nat,
    (∀ l : List Nat, l.length = n + 1 → l.Nodup → (∀ i ∈ l, i < ops.size) → ∀ a w, wpT P ops S0 S1 lo wk ms Q (n + 1) l a w → ∀ i ∈ l, rdyI ms l i = true → R1 P ops (Sx S0 S1 wk i) (lo i) false (nthO ops.toList i) (wpT P ops S0 S1 lo wk ms Q n (era i l)) a w) ∧
    (∀ l : List Nat, l.length = n + 1 → l.Nodup → (∀ i ∈ l, i < ops.size) → ∀ q ∈ l, lo q = false → rdyI ms l q = true → ∀ a w, R1 P ops (Sx S0 S1 wk q) (lo q) false (nthO ops.toList q) (wpT P ops S0 S1 lo wk ms Q n (era q l)) a w → wpT P ops S0 S1 lo wk ms Q (n + 1) l a w) := by
  intro n
  induction n with
  | zero =>
    have one : ∀ l : List Nat, l.length = 0 + 1 → ∀ i ∈ l, ∀ q ∈ l, i = q := fun l hl i hi q hq => by
      match l, hl with
      | [x], _ => rw [List.mem_singleton.1 hi, List.mem_singleton.1 hq]
    refine ⟨fun l hl hn hs a w h i hi hr => ?_, fun l hl hn hs q hq hlo hr a w h => ?_⟩
    · rw [wpT_pos (List.ne_nil_of_mem hi)] at h
      cases hf : fqI ms lo l with
      | none => rw [hf] at h; exact h i hi hr
      | some q =>
        rw [hf] at h
        obtain rfl := one l hl i hi q (fq_some hf).1
        exact h
    · rw [wpT_pos (List.ne_nil_of_mem hq)]
      cases hf : fqI ms lo l with
      | none => exact absurd hr (by rw [fq_none hf hq hlo]; simp)
      | some q' =>
        obtain rfl := one l hl q hq q' (fq_some hf).1
        exact h
  | succ n ih =>
    obtain ⟨ihA, ihB⟩ := ih
    have rest : ∀ l : List Nat, l.length = n + 1 + 1 → l.Nodup → (∀ i ∈ l, i < ops.size) → ∀ i ∈ l, (era i l).length = n + 1 ∧ (era i l).Nodup ∧ ∀ k ∈ era i l, k < ops.size := fun l hl hn hs i hi =>
      ⟨by have := era_len hn hi; omega, era_nodup hn, fun k hk => hs k (era_mem.1 hk).1⟩
    have B : ∀ l : List Nat, l.length = n + 1 + 1 → l.Nodup → (∀ i ∈ l, i < ops.size) → ∀ q ∈ l, lo q = false → rdyI ms l q = true → ∀ a w, R1 P ops (Sx S0 S1 wk q) (lo q) false (nthO ops.toList q) (wpT P ops S0 S1 lo wk ms Q (n + 1) (era q l)) a w → wpT P ops S0 S1 lo wk ms Q (n + 1 + 1) l a w := by
      intro l hl hn hs q hq hlo hr a w h
      rw [wpT_pos (List.ne_nil_of_mem hq)]
      cases hf : fqI ms lo l with
      | none => exact absurd hr (by rw [fq_none hf hq hlo]; simp)
      | some p =>
        obtain ⟨p1, p2, p3⟩ := fq_some hf
        by_cases hpq : p = q
        · subst hpq; exact h
        · obtain ⟨r1, r2, r3⟩ := rest l hl hn hs q hq
          have hpe : p ∈ era q l := era_mem.2 ⟨p1, hpq⟩
          have hqe : q ∈ era p l := era_mem.2 ⟨hq, fun e => hpq e.symm⟩
          have h1 := R1.mono (fun a w hh => ihA (era q l) r1 r2 r3 a w hh p hpe (rdy_era p3)) h
          have h2 := any_pass hS hB (hs p p1) (hs q hq) hpq hlo (rdy_bit p3 hq) (rdy_bit hr p1) h1
          obtain ⟨t1, t2, t3⟩ := rest l hl hn hs p p1
          refine R1.mono (fun a w hh => ?_) h2
          rw [era_comm] at hh
          exact ihB (era p l) t1 t2 t3 q hqe hlo (rdy_era hr) a w hh
    refine ⟨fun l hl hn hs a w h i hi hr => ?_, B⟩
    rw [wpT_pos (List.ne_nil_of_mem hi)] at h
    cases hf : fqI ms lo l with
    | none => rw [hf] at h; exact h i hi hr
    | some q =>
      rw [hf] at h
      obtain ⟨q1, q2, q3⟩ := fq_some hf
      by_cases hiq : i = q
      · subst hiq; exact h
      · obtain ⟨r1, r2, r3⟩ := rest l hl hn hs q q1
        have hie : i ∈ era q l := era_mem.2 ⟨hi, hiq⟩
        have hqe : q ∈ era i l := era_mem.2 ⟨q1, fun e => hiq e.symm⟩
        have h1 := R1.mono (fun a w hh => ihA (era q l) r1 r2 r3 a w hh i hie (rdy_era hr)) h
        have h2 := any_pass hS hB (hs i hi) (hs q q1) hiq q2 (rdy_bit hr q1) (rdy_bit q3 hi) h1
        obtain ⟨t1, t2, t3⟩ := rest l hl hn hs i hi
        refine R1.mono (fun a w hh => ?_) h2
        rw [era_comm] at hh
        exact ihB (era i l) t1 t2 t3 q hqe q2 (rdy_era q3) a w hh
theorem era_split {i : Nat} : ∀ {l1 l2 : List Nat}, (l1 ++ i :: l2).Nodup → era i (l1 ++ i :: l2) = l1 ++ l2 := fun {l1 l2} hn => by
  rw [List.nodup_append] at hn
  obtain ⟨_, h2, h3⟩ := hn
  have h4 := List.nodup_cons.1 h2
  have e1 : era i (l1 ++ i :: l2) = era i l1 ++ era i (i :: l2) := by simp [era]
  have e2 : era i (i :: l2) = era i l2 := by simp [era]
  rw [e1, e2, era_none (fun h => h3 i h i (List.mem_cons_self ..) rfl), era_none h4.1]
theorem pickL_split {o : List Oper} : ∀ {l : List Nat} {m1 m2 : List (Nat × Oper)} {i : Nat} {oi : Oper}, pickL o l = m1 ++ (i, oi) :: m2 → ∃ l1 l2, l = l1 ++ i :: l2 ∧ m1 = pickL o l1 ∧ m2 = pickL o l2
  | [], m1, m2, i, oi, h => by simp [pickL] at h
  | x :: l, [], m2, i, oi, h => by
    simp only [pickL, List.nil_append, List.cons.injEq, Prod.mk.injEq] at h
    obtain ⟨⟨rfl, _⟩, rfl⟩ := h
    exact ⟨[], l, rfl, rfl, rfl⟩
  | x :: l, y :: m1, m2, i, oi, h => by
    simp only [pickL, List.cons_append, List.cons.injEq] at h
    obtain ⟨rfl, h⟩ := h
    obtain ⟨l1, l2, rfl, rfl, rfl⟩ := pickL_split h
    exact ⟨x :: l1, l2, rfl, rfl, rfl⟩
theorem tree_any {Q : Exit → Act → World → Prop} (hS : ∀ w, S1 w → S0 w) (hB : anyOk ops ms lo wk = true) :
    ∀ (fuel : Nat) (l : List Nat) (listed : Array Bool) (a : Act) (w : World), l.length ≤ fuel → l.Nodup → Inv ops listed (pickL ops.toList l) →
      wpT P ops S0 S1 lo wk ms (Q .normal) l.length l a w → wpAny P .any ops Q fuel listed a w := by
  have hB' := hB
  simp only [anyOk, Bool.and_eq_true] at hB'
  obtain ⟨⟨hm, hsel⟩, _⟩ := hB'
  have hszI : ∀ {l : List Nat} {listed : Array Bool}, Inv ops listed (pickL ops.toList l) → ∀ i ∈ l, i < ops.size := fun {l listed} inv i hi =>
    (Array.getElem?_eq_some_iff.1 (inv.pr (i, nthO ops.toList i) (pickL_mem.2 ⟨hi, rfl⟩))).1
  have head : ∀ (l : List Nat) (listed : Array Bool), Inv ops listed (pickL ops.toList l) → Region.ready .any ops listed = [] → l = [] := by
    intro l listed inv hr
    cases l with
    | nil => rfl
    | cons i r =>
      have hio : ops[i]? = some (nthO ops.toList i) := inv.pr (i, nthO ops.toList i) (List.mem_cons_self ..)
      have hlt : i < ops.size := (Array.getElem?_eq_some_iff.1 hio).1
      have : i ∈ Region.ready .any ops listed := by
        refine mem_ready.2 ⟨(inv.left i hlt).2 ⟨_, List.mem_cons_self ..⟩, _, hio, fun e he hb => ?_⟩
        have hei := (maskOk_spec hm hio).2 e he hb
        have hel : e.on < ops.size := by omega
        rw [← getD_tf (by rw [inv.size]; exact hel)]
        cases hg : listed.getD e.on true with
        | true => rfl
        | false =>
          obtain ⟨o2, hm2⟩ := (inv.left _ hel).1 hg
          rcases List.mem_cons.1 hm2 with hm2 | hm2
          · cases hm2; omega
          · have h9 : i < e.on := (List.pairwise_cons.1 inv.sorted).1 _ hm2
            omega
      rw [hr] at this
      cases this
  intro fuel
  induction fuel with
  | zero =>
    intro l listed a w hl hn inv h
    have : l = [] := List.eq_nil_of_length_eq_zero (by omega)
    subst this
    refine ⟨?_, h⟩
    cases hr : Region.ready .any ops listed with
    | nil => rfl
    | cons i r =>
      have hi : i ∈ Region.ready .any ops listed := by rw [hr]; exact List.mem_cons_self ..
      obtain ⟨hun, o, ho, _⟩ := mem_ready.1 hi
      obtain ⟨_, hm2⟩ := (inv.left i (Array.getElem?_eq_some_iff.1 ho).1).1 hun
      cases hm2
  | succ fuel ih =>
    intro l listed a w hl hn inv h
    refine ⟨fun hr => by rw [head l listed inv hr] at h; exact h, fun i hi => ?_⟩
    obtain ⟨hun, o, ho, hall⟩ := mem_ready.1 hi
    have hlt := (Array.getElem?_eq_some_iff.1 ho).1
    obtain ⟨o', hm2⟩ := (inv.left i hlt).1 hun
    obtain ⟨m1, m2, he⟩ := List.append_of_mem hm2
    have inv' := inv
    rw [he] at inv'
    obtain ⟨l1, l2, rfl, rfl, rfl⟩ := pickL_split he
    have hmem : i ∈ l1 ++ i :: l2 := by simp
    have hr : rdyI ms (l1 ++ i :: l2) i = true := by
      unfold rdyI
      rw [List.all_eq_true]
      intro j hj
      cases hb : (ms.getD i 0).testBit j with
      | false => rfl
      | true =>
        exfalso
        have hlj := mask_listed hm inv.closed i o ho hall j hb
        have hjs := hszI inv j hj
        have := (inv.left j hjs).2 ⟨nthO ops.toList j, pickL_mem.2 ⟨hj, rfl⟩⟩
        rw [getD_tf (by rw [inv.size]; exact hjs)] at this
        rw [this] at hlj
        cases hlj
    have hlen : (l1 ++ i :: l2).length = (l1 ++ l2).length + 1 := by simp; omega
    rw [hlen] at h
    have h1 := (wpT_AB hS hB (l1 ++ l2).length).1 _ hlen hn (hszI inv) a w h i hmem hr
    rw [era_split hn] at h1
    have hoo : ops[i]? = some (nthO ops.toList i) := by rw [← Array.getElem?_toList]; exact nthO_at (by simpa using hlt)
    refine (R1.mono (fun a' w' h' => ih (l1 ++ l2) (listed.setIfInBounds i true) a' w' (by omega) ?_ ?_ h') h1).op hoo
    · have := era_split hn
      rw [← this]
      exact era_nodup hn
    · rw [pickL_append]
      exact inv'.step hi
theorem wp_region_tree {id : Nat} {Q : Exit → Act → World → Prop} {a : Act} {w : World} (hS : ∀ w, S1 w → S0 w) (hm : P.follows .mixedOrders = true) (hB : anyOk ops (masks ops) lo wk = true)
    (h : wpT P ops S0 S1 lo wk (masks ops) (Q .normal) (List.range ops.size).length (List.range ops.size) a w.drew) : (Code.region id ops true).wp P Q a w := by
  have hmem : ∀ i o, (i, o) ∈ pickL ops.toList (List.range ops.size) ↔ i < ops.size ∧ o = nthO ops.toList i := fun i o => by rw [pickL_mem]; simp
  refine wp_region_any hm (tree_any hS hB _ (List.range ops.size) _ a _ (by simp) List.nodup_range ⟨?_, ?_, ?_, ?_, ?_⟩ h)
  · rintro ⟨i, o⟩ hp
    obtain ⟨h1, rfl⟩ := (hmem i o).1 hp
    rw [← Array.getElem?_toList]
    exact nthO_at (by simpa using h1)
  · exact pickL_pair List.pairwise_lt_range
  · intro i hi
    simp only [Array.getD_eq_getD_getElem?, Array.getElem?_replicate, hi, if_true, Option.getD_some, true_iff]
    exact ⟨_, (hmem i _).2 ⟨hi, rfl⟩⟩
  · intro i o ho hl
    simp only [Array.getD_eq_getD_getElem?, Array.getElem?_replicate] at hl
    split at hl <;> simp at hl
  · simp
end
structure Tg where
  ops : Array Oper
  h : View
  LS : List Res
  lo : Nat → Bool
  wk : Nat → Bool
def Tg.at (g : Tg) (f : Bool) : Rg := ⟨g.ops, Hd g.h (if f then [] else g.LS), g.lo, fun _ => false⟩
section
variable {P : Program} {n : Nat} {K : Bs} {g : Tg} {F : List (Nat × Value)} {h : View} {L : List Res} {Q : Exit → Act → World → Prop}
abbrev wpU (P : Program) (g : Tg) (Q : Act → World → Prop) : Nat → List Nat → Act → World → Prop := wpT P g.ops (Hd g.h []) (Hd g.h g.LS) g.lo g.wk (masks g.ops) Q
theorem hd_weak {h : View} {L : List Res} (w : World) (s : Hd h L w) : Hd h [] w := Hd.sub s (Le.refl h) (fun r hr => by cases hr)
theorem at_S {f : Bool} {i : Nat} (hf : g.wk i = f) : (g.at f).S = Sx (Hd g.h []) (Hd g.h g.LS) g.wk i := by
  subst hf
  unfold Sx Tg.at
  dsimp only
  cases g.wk i <;> rfl
theorem r1_at {f : Bool} {i : Nat} (hf : g.wk i = f) {b : Bool} {o : Oper} {K' : Act → World → Prop} {a : Act} {w : World} (hh : R1 P g.ops (g.at f).S b false o K' a w) : R1 P g.ops (Sx (Hd g.h []) (Hd g.h g.LS) g.wk i) b false o K' a w := by
  rw [← at_S hf]
  exact hh
def TX (P : Program) (n : Nat) (K : Bs) (g : Tg) (l : List Nat) (F : List (Nat × Value)) (h : View) (L : List Res) (Q : Exit → Act → World → Prop) : Prop :=
  ∀ a w, Fr n F a → St K h L w → wpU P g (Q .normal) l.length l a w
def TQ (P : Program) (g : Tg) (l : List Nat) (Q : Exit → Act → World → Prop) : Exit → Act → World → Prop := fun _ a w =>
  wpU P g (Q .normal) l.length l a w
def runI (ms : List Nat) (lo : Nat → Bool) : Nat → List Nat → List Nat × List Nat
  | 0, l => ([], l)
  | k + 1, l => match fqI ms lo l with
    | some q => (q :: (runI ms lo k (era q l)).1, (runI ms lo k (era q l)).2)
    | none => ([], l)
def runOk (g : Tg) (f : Bool) (l qs r : List Nat) : Bool := runI (masks g.ops) g.lo qs.length l == (qs, r) && decide l.Nodup && qs.all fun i => g.wk i == f
theorem run_wp {Q : Act → World → Prop} {f : Bool} : ∀ (k : Nat) (l qs r : List Nat), l.Nodup → runI (masks g.ops) g.lo k l = (qs, r) → (∀ i ∈ qs, g.wk i = f) → ∀ a w,
    wpX P g.ops (g.at f).S g.lo (g.at f).bar (wpU P g Q r.length r) (pickL g.ops.toList qs) a w → wpU P g Q l.length l a w
  | 0, l, qs, r, hn, h, hf, a, w, hx => by cases h; exact hx
  | k + 1, l, qs, r, hn, h, hf, a, w, hx => by
    unfold runI at h
    cases hq : fqI (masks g.ops) g.lo l with
    | none => rw [hq] at h; cases h; exact hx
    | some q =>
      rw [hq] at h
      obtain ⟨q1, q2, q3⟩ := fq_some hq
      cases h
      have hl := era_len hn q1
      unfold wpU at *
      rw [← hl, wpT_pos (List.ne_nil_of_mem q1), hq]
      have h1 : R1 P g.ops (g.at f).S (g.lo q) false (nthO g.ops.toList q) _ a w := hx
      replace h1 := r1_at (hf q (List.mem_cons_self ..)) h1
      refine R1.mono (fun a w hh => run_wp k (era q l) _ _ (era_nodup hn) rfl (fun i hi => hf i (List.mem_cons_of_mem _ hi)) a w hh) h1
theorem cx_region_any {id : Nat} {ops : Array Oper} (LS : List Res) (lou wks : List Nat) (l : List Nat) (hm : P.follows .mixedOrders = true) (hB : (anyOk ops (masks ops) (fun i => lou.contains i) (fun i => wks.contains i) && l == List.range ops.size) = true)
    (hx : TX P n K ⟨ops, h, LS, fun i => lou.contains i, fun i => wks.contains i⟩ l F h L Q) : CX P n K (.region id ops true) F h L Q := by
  simp only [Bool.and_eq_true, beq_iff_eq] at hB
  obtain ⟨hB, rfl⟩ := hB
  unfold CX
  unfold TX at hx
  exact fun a w f s => wp_region_tree (S0 := Hd h []) (S1 := Hd h LS) hd_weak hm hB (hx a w.drew ⟨f.size, f.dfs, f.get⟩ s.drew)
theorem tx_run {l : List Nat} (f : Bool) (qs r : List Nat) (hr : runOk g f l qs r = true) (hx : RX P n K (g.at f) (pickL g.ops.toList qs) F h L (TQ P g r Q)) : TX P n K g l F h L Q := by
  simp only [runOk, Bool.and_eq_true, beq_iff_eq, decide_eq_true_eq] at hr
  unfold TX
  unfold RX at hx
  exact fun a w fr s => run_wp _ _ _ _ hr.1.2 hr.1.1 (fun i hi => by have := List.all_eq_true.1 hr.2 i hi; simpa using this) a w (hx a w fr s)
theorem nx_tq {l : List Nat} (hx : TX P n K g l F h L Q) : NX n K .normal F h L (TQ P g l Q) := by
  unfold NX
  exact hx
theorem tx_end (hx : NX n K .normal F h L Q) : TX P n K g [] F h L Q := by
  unfold TX
  unfold NX at hx
  exact hx
theorem tx_to {l : List Nat} {F' : List (Nat × Value)} {L' : List Res} (hF : Sub F' F) (hL : ∀ w, St K h L w → St K h L' w) (hx : TX P n K g l F' h L' Q) : TX P n K g l F h L Q := by
  unfold TX at *
  exact fun a w f s => hx a w (f.sub hF) (hL w s)
theorem tx_join {l l1 : List Nat} (F1 : List (Nat × Value)) (h1 : View) (L1 : List Res) (hJ : TX P n K g l1 F1 h1 L1 Q) (hx : TX P n K g l1 F1 h1 L1 Q → TX P n K g l F h L Q) : TX P n K g l F h L Q := hx hJ
def brOk (g : Tg) (l : List Nat) (bs : List (Nat × List Nat)) : Bool :=
  (fqI (masks g.ops) g.lo l).isNone && !l.isEmpty && decide l.Nodup && l.all fun i => !rdyI (masks g.ops) l i || bs.any fun b => Nat.beq b.1 i && b.2 == era i l
theorem tx_br {l : List Nat} {bs : List (Nat × List Nat)} (hb : brOk g l bs = true) (hx : ∀ b ∈ bs, RX P n K (g.at (g.wk b.1)) (pickL g.ops.toList [b.1]) F h L (TQ P g b.2 Q)) : TX P n K g l F h L Q := by
  simp only [brOk, Bool.and_eq_true, decide_eq_true_eq, Bool.not_eq_true', Option.isNone_iff_eq_none] at hb
  obtain ⟨⟨⟨h1, h2⟩, h3⟩, h4⟩ := hb
  have hne : l ≠ [] := fun e => by rw [e] at h2; cases h2
  unfold TX
  intro a w f s
  obtain ⟨m, hm⟩ : ∃ m, l.length = m + 1 := ⟨l.length - 1, by
    have : 0 < l.length := List.length_pos_iff.2 hne
    omega⟩
  unfold wpU
  rw [hm, wpT_pos hne, h1]
  intro i hi hr
  have h5 := List.all_eq_true.1 h4 i hi
  rw [hr] at h5
  simp only [Bool.not_true, Bool.false_or, List.any_eq_true, Bool.and_eq_true, beq_iff_eq] at h5
  obtain ⟨⟨j, r⟩, hb, hj, rfl⟩ := h5
  have hj : j = i := Nat.eq_of_beq_eq_true hj
  subst hj
  have h6 := hx _ hb
  unfold RX at h6
  have hl := era_len h3 hi
  have : (era j l).length = m := by omega
  have h7 : R1 P g.ops (g.at (g.wk j)).S (g.lo j) false (nthO g.ops.toList j) _ a w := h6 a w f s
  replace h7 := r1_at rfl h7
  rw [← this]
  exact h7
theorem tx_1 {l : List Nat} (f : Bool) (i : Nat) (r : List Nat) (hb : (brOk g l [(i, r)] && (g.wk i == f)) = true) (hx : RX P n K (g.at f) (pickL g.ops.toList [i]) F h L (TQ P g r Q)) : TX P n K g l F h L Q := by
  simp only [Bool.and_eq_true, beq_iff_eq] at hb
  obtain ⟨hb, rfl⟩ := hb
  exact tx_br hb fun b hb => by rw [List.mem_singleton.1 hb]; exact hx
theorem tx_2 {l : List Nat} (f : Bool) (i : Nat) (r : List Nat) (f2 : Bool) (j : Nat) (t : List Nat) (hb : (brOk g l [(i, r), (j, t)] && (g.wk i == f) && (g.wk j == f2)) = true) (hx : RX P n K (g.at f) (pickL g.ops.toList [i]) F h L (TQ P g r Q)) (hy : RX P n K (g.at f2) (pickL g.ops.toList [j]) F h L (TQ P g t Q)) : TX P n K g l F h L Q := by
  simp only [Bool.and_eq_true, beq_iff_eq] at hb
  obtain ⟨⟨hb, rfl⟩, rfl⟩ := hb
  exact tx_br hb fun b hb => by
    rcases List.mem_cons.1 hb with rfl | hb
    · exact hx
    · rw [List.mem_singleton.1 hb]; exact hy
end
end Go.Ck
end

section
namespace Go.Proofs.YtgeepceieckooaaGreatDoor
open Go Go.Ck
set_option maxHeartbeats 4000000
theorem rDraw_sp (key : List Int) (kind n count : Nat) (hk : Bytes key) (hk32 : key.length = 32) (h1 : kind < 256) (h2 : n < 1000000) (h3 : 8 < count ∧ count ≤ 100000) (h : View) (w : World) (s : St ⟨w, h, []⟩ h [] w) :
    Calls Tryz.prog 68 [.string (bstr key), .int .i64 (kind : Int), .int .i64 (n : Int), .int .i64 (count : Int)].toArray w fun e w' => e = .returned (.string (bstr (drawF key kind n count))) ∧ St ⟨w, h, []⟩ h [] w' := by
  have w1 : IntKind.u64.wrap (kind : Int) = (kind : Int) := wrap_u64 (by omega) (by omega)
  have w2 : IntKind.u64.wrap (n : Int) = (n : Int) := wrap_u64 (by omega) (by omega)
  have P1 := Put_sp (kind : Int) 4 ⟨by omega, by omega⟩ (by omega) h
  have P2 := Put_sp (n : Int) 8 ⟨by omega, by omega⟩ (by omega) h
  have c1 : bstr (putLow 4 (kind : Int)).reverse ++ bstr (putLow 8 (n : Int)).reverse = bstr ((putLow 4 (kind : Int)).reverse ++ (putLow 8 (n : Int)).reverse) := bstr_app _ _
  have z1 : (bstr (putLow 4 (kind : Int)).reverse).size + (bstr (putLow 8 (n : Int)).reverse).size < 1000000 := by rw [bstr_size, bstr_size, List.length_reverse, List.length_reverse, putLow_len, putLow_len]; decide
  obtain ⟨zs, hz0, hz1, hz2⟩ : ∃ zs : List Int, zs = List.replicate (count - 8) 0 ∧ zs.length = count - 8 ∧ List.replicate zs.length (Value.int .u8 0) = bcs zs := ⟨_, rfl, by simp, by rw [List.length_replicate]; exact zeros_bcs _⟩
  have hcj : (count : Int) - 8 = (zs.length : Int) := by omega
  have S1 := rStream_sp key 0 ((putLow 4 (kind : Int)).reverse ++ (putLow 8 (n : Int)).reverse) (List.replicate (count - 8) 0) hk (cbytes_app (putLow_bytes' 4 _) (putLow_bytes' 8 _)) hk32 (by rw [List.length_append, List.length_reverse, List.length_reverse, putLow_len, putLow_len]) (by simp; omega) (zeros_by _) h
  have v0 : v32 0 = Value.int .u32 0 := rfl
  rw [v0] at S1
  have c2 : bstr (putLow 8 (n : Int)).reverse ++ bstr (streamF key 0 ((putLow 4 (kind : Int)).reverse ++ (putLow 8 (n : Int)).reverse) (List.replicate (count - 8) 0)) = bstr (drawF key kind n count) := bstr_app _ _
  have z2 : (bstr (putLow 8 (n : Int)).reverse).size + (bstr (streamF key 0 ((putLow 4 (kind : Int)).reverse ++ (putLow 8 (n : Int)).reverse) (List.replicate (count - 8) 0))).size < 1000000 := by
    rw [bstr_size, bstr_size, streamF_len, List.length_reverse, putLow_len, List.length_replicate]; omega
  generalize drawF key kind n count = X at c2 ⊢
  rw [← hz0] at S1 c2 z2
  generalize streamF key 0 ((putLow 4 (kind : Int)).reverse ++ (putLow 8 (n : Int)).reverse) zs = Y at S1 c2 z2
  generalize (putLow 4 (kind : Int)).reverse ++ (putLow 8 (n : Int)).reverse = nn at S1 c1
  refine calls_enter Tryz.func68 rfl Tryz.ntmps68 rfl s ?_
  repeat' (first|refine zw370 ?_|(refine ta_ ?_;intro _)|(refine zk0 ?_ ?_<;>intro ht)|fail)
  (refine ycn (ycp Tryz.func85 rfl (by kernel_rfl) rfl) (P1) rfl rfl rfl ?_ ?_; (· (exact to_)))
  repeat' (first|refine zw370 ?_|(refine ta_ ?_;intro _)|(refine zk0 ?_ ?_<;>intro ht)|fail)
  (refine ycn (ycp Tryz.func85 rfl (by kernel_rfl) rfl) (P2) rfl rfl rfl ?_ ?_; (· (exact to_)))
  repeat' (first|refine zw370 ?_|(refine ta_ ?_;intro _)|(refine zk0 ?_ ?_<;>intro ht)|fail)
  refine cx_region_any [] [2, 7, 8, 9] [] [0, 1, 2, 3, 4, 5, 6, 7, 8, 9, 10, 11] rfl (by kernel_rfl) ?_
  refine tx_run false [0, 1, 3, 4, 5, 6] [2, 7, 8, 9, 10, 11] (by kernel_rfl) ?_
  repeat' (first|refine zw371 ?_|(refine ycf ?_;(first|(refine zg0 ?_ ?_<;>intro ht)|(refine tb_ ?_ ?_ ?_;(·(exact to_));(·intro _;(exact to_));intro _)))|fail)
  refine nx_tq ?_
  refine tx_to (F' := [(18, .int .u64 (n : Int)), (20, .string (bstr key)), (21, .string (bstr nn)), (23, .int .i64 (zs.length : Int))]) ts_ (fun _ s => s) ?_
  refine tx_join (l1 := [9, 10, 11]) [(19, .string (bstr (putLow 8 (n : Int)).reverse)), (20, .string (bstr key)), (21, .string (bstr nn)), (25, .string (bstr zs))] h [] ?_ (fun J => ?_)
  · refine tx_1 false 9 [10, 11] (by kernel_rfl) ?_
    (refine ycn (ycp Tryz.func95 rfl (by kernel_rfl) rfl) (S1) rfl rfl rfl ?_ ?_; (· (exact to_)))
    refine ycg ?_
    refine nx_tq ?_
    refine tx_run false [10, 11] [] (by kernel_rfl) ?_
    repeat' (first|refine zw372 ?_|(refine ycf ?_;(first|(refine zg0 ?_ ?_<;>intro ht)|(refine tb_ ?_ ?_ ?_;(·(exact to_));(·intro _;(exact to_));intro _)))|fail)
    refine nx_tq ?_
    refine tx_end ?_
    repeat' (first|refine zw3 ?_|(refine ta_ ?_;intro _)|(refine zk0 ?_ ?_<;>intro ht)|fail)
    exact nx_ret1 rfl (rv_tmp rfl) (fun w' s' => ⟨rfl, s'⟩)
  have hcz : ∀ (b : Nat) (L : List Res) (h' : View), L[0]? = some (Res.blk b (.cells (List.replicate zs.length (Value.int .u8 0)).toArray 5 (0, 0))) → Cells h' L ⟨b, 0, none⟩ (bcs zs) := fun b L h' hL => by
    rw [← hz2]
    exact yaz 0 hL
  refine tx_2 false 2 [7, 8, 9, 10, 11] false 7 [2, 8, 9, 10, 11] (by kernel_rfl) ?_ ?_
  · skip
    (refine ycn (ycp Tryz.func85 rfl (by kernel_rfl) rfl) (P2) rfl rfl rfl ?_ ?_;(·exact zc163))
    refine ycg ?_
    refine nx_tq ?_
    refine tx_1 false 7 [8, 9, 10, 11] (by kernel_rfl) ?_
    refine yba (ma_makeBytes rfl rfl rfl (by omega)) rfl rfl rfl ?_ ?_ ?_
    · (first|exact ybf|(refine .inl ?_;(exact fun _ s => hd_weak _ s))|exact to_)
    · intro _;(first|exact ybf|(refine .inl ?_;(exact fun _ s => hd_weak _ s))|exact to_)
    intro b7
    refine ycg ?_
    refine nx_tq ?_
    refine tx_1 false 8 [9, 10, 11] (by kernel_rfl) ?_
    apply ybn
    · exact qv_str_of (l := zs) rfl (hcz b7 _ _ rfl)
    · rfl
    · rfl
    · rfl
    · (first|exact ybf|(refine .inl ?_;(exact fun _ s => hd_weak _ s))|exact to_)
    refine ycg ?_
    refine nx_tq ?_
    exact tx_to ts_ (fun _ s => s.nil) J
  · skip
    refine yba (ma_makeBytes rfl rfl rfl (by omega)) rfl rfl rfl ?_ ?_ ?_
    · (first|exact ybf|(refine .inl ?_;(exact fun _ s => hd_weak _ s))|exact to_)
    · intro _;(first|exact ybf|(refine .inl ?_;(exact fun _ s => hd_weak _ s))|exact to_)
    intro b7
    refine ycg ?_
    refine nx_tq ?_
    refine tx_2 false 2 [8, 9, 10, 11] false 8 [2, 9, 10, 11] (by kernel_rfl) ?_ ?_
    · skip
      (refine ycn (ycp Tryz.func85 rfl (by kernel_rfl) rfl) (P2) rfl rfl rfl ?_ ?_;(·exact zc163))
      refine ycg ?_
      refine nx_tq ?_
      refine tx_1 false 8 [9, 10, 11] (by kernel_rfl) ?_
      apply ybn
      · exact qv_str_of (l := zs) rfl (hcz b7 _ _ rfl)
      · rfl
      · rfl
      · rfl
      · (first|exact ybf|(refine .inl ?_;(exact fun _ s => hd_weak _ s))|exact to_)
      refine ycg ?_
      refine nx_tq ?_
      exact tx_to ts_ (fun _ s => s.nil) J
    · skip
      apply ybn
      · exact qv_str_of (l := zs) rfl (hcz b7 _ _ rfl)
      · rfl
      · rfl
      · rfl
      · (first|exact ybf|(refine .inl ?_;(exact fun _ s => hd_weak _ s))|exact to_)
      refine ycg ?_
      refine nx_tq ?_
      refine tx_1 false 2 [9, 10, 11] (by kernel_rfl) ?_
      (refine ycn (ycp Tryz.func85 rfl (by kernel_rfl) rfl) (P2) rfl rfl rfl ?_ ?_;(·exact zc163))
      refine ycg ?_
      refine nx_tq ?_
      exact tx_to ts_ (fun _ s => s.nil) J
end Go.Proofs.YtgeepceieckooaaGreatDoor
end

section
namespace Go.Proofs.YtgeepceieckooaaGreatDoor
open Go Go.Ck
set_option maxHeartbeats 4000000
abbrev dvB (bw : Nat) (idl : Bool) (key : List Int) (vn vl : Value) : Res := Res.blk bw (.cells #[.bool idl, .string (bstr key), vn, vl] 67 (0, 0))
def nmc (N : List (List Int)) : List Value := N.map fun x => .string (bstr x)
theorem nmc_app (N M : List (List Int)) : nmc (N ++ M) = nmc N ++ nmc M := by simp [nmc]
abbrev rowN (vn : Value) (N : List (List Int)) : Res := Res.row 9 1 vn N.length (nmc N)
theorem DocBlind_sp (bw : Nat) (idl : Bool) (key : List Int) (vn vl : Value) (N : List (List Int)) (nm : List Int) (hk : Bytes key) (hk32 : key.length = 32) (hN : Names N) (hNl : N.length < 900000) (hn : Bytes nm) (hnl : 1 ≤ nm.length ∧ nm.length ≤ 64) (h : View) (w : World) (s : St ⟨w, h, doms [dvB bw idl key vn vl, rowN vn N]⟩ h [dvB bw idl key vn vl, rowN vn N] w) :
    Calls Tryz.prog 32 [.pointer (some ⟨bw, 0, none⟩), .string (bstr nm)].toArray w fun e w' => ∃ vn2 : Value, e = .returned (.tuple #[.string (bstr (nameX idl key N nm)), .int .i64 0]) ∧ St ⟨w, h, doms [dvB bw idl key vn vl, rowN vn N]⟩ h [dvB bw idl key vn2 vl, rowN vn2 (addX idl N nm)] w' ∧ True := by
  have N1 := rName_sp nm.length h
  rw [decide_eq_true hnl] at N1
  refine calls_enter Tryz.func32 rfl Tryz.ntmps32 rfl s ?_
  repeat' (first|refine zw373 ?_|(refine ta_ ?_;intro _)|(refine zk0 ?_ ?_<;>intro ht)|fail)
  (refine ycn (ycp Tryz.func30 rfl (by kernel_rfl) rfl) (N1) rfl rfl rfl ?_ ?_; (· (exact to_)))
  cases idl with
  | false =>
    have B1 := rBlind_sp key nm hk hk32 hn (by omega) h
    repeat' (first|refine zw373 ?_|(refine ta_ ?_;intro _)|(refine zk0 ?_ ?_<;>intro ht)|fail)
    (refine ycn (ycp Tryz.func67 rfl (by kernel_rfl) rfl) (B1) rfl rfl rfl ?_ ?_; (· (exact to_)))
    repeat' (first|refine zw373 ?_|(refine ta_ ?_;intro _)|(refine zk0 ?_ ?_<;>intro ht)|fail)
    exact nx_ret2 rfl (rv_tmp rfl) (rv_tmp rfl) (fun w' s' => ⟨vn, rfl, s', trivial⟩)
  | true =>
    repeat' (first|refine zw373 ?_|(refine ta_ ?_;intro _)|(refine zk0 ?_ ?_<;>intro ht)|fail)
    refine cx_loop (X := Nat) (fun k => [(0, .pointer (some ⟨bw, 0, none⟩)), (1, .string (bstr nm)), (6, .int .i64 (k : Nat))]) (fun _ => h) (fun k => [dvB bw true key vn vl, rowN vn N]) (fun k => k ≤ N.length ∧ nm ∉ N.take k) (fun k => N.length - k) 0 ⟨Nat.zero_le _, by simp⟩ ts_ (fun _ s => s) ?_
    rintro k ⟨hk1, hk2⟩
    by_cases hkl : k < N.length
    · refine cx_rowform 1 rfl (fun _ e _ => by omega) ?_
      rintro g cap rfl
      have hcell : ∀ (h' : View) (L : List Res), L[1]? = some (rowN (.slice (some ⟨g, 0, none⟩) N.length cap) N) → CellAt h' L g (0 + ((k : Nat) : Int).toNat * 1) (.string (bstr N[k])) := fun h' L hL => by
        have := (row_cells (h := h') 1 hL).cell (j := k) (u := .string (bstr N[k])) (by simp [nmc, hkl])
        rw [show ((k : Nat) : Int).toNat * 1 = k by omega]
        exact this
      have hbe := bstr_eqD (hN _ (List.getElem_mem hkl)) hn
      have htk : N.take (k + 1) = N.take k ++ [N[k]] := List.take_succ_eq_append_getElem hkl
      have hix : N[k] = nm → N.idxOf nm = k := fun e => by
        have e2 : N = N.take k ++ (nm :: N.drop (k + 1)) := by
          rw [← e, List.getElem_cons_drop, List.take_append_drop]
        rw [e2, List.idxOf_append, if_neg hk2, List.idxOf_cons_self, List.length_take]
        omega
      have hmem : N[k] ∈ N := List.getElem_mem hkl
      generalize N[k] = x at hcell hbe htk hix hmem
      by_cases hx : x = nm
      · have hbe : ((bstr x).toList == (bstr nm).toList) = true := by rw [hbe]; exact decide_eq_true hx
        have D1 := rDraw_sp key 0 (k + 1) 32 hk hk32 (by omega) (by omega) (by omega) h
        repeat' (first|refine zw374 ?_|(refine ta_ ?_;intro _)|(refine zk0 ?_ ?_<;>intro ht)|fail)
        (refine ycn (ycp Tryz.func68 rfl (by kernel_rfl) rfl) (D1) rfl rfl rfl ?_ ?_; (· (exact to_)))
        repeat' (first|refine zw374 ?_|(refine ta_ ?_;intro _)|(refine zk0 ?_ ?_<;>intro ht)|fail)
        have e1 : nameX true key N nm = drawF key 0 (k + 1) 32 := by
          show drawF key 0 (N.idxOf nm + 1) 32 = _
          rw [hix hx]
        have e2 : addX true N nm = N := by
          show addN N nm = N
          unfold addN
          rw [if_pos (by rw [← hx]; exact hmem)]
        rw [e1, e2]
        exact nx_ret2 rfl (rv_tmp rfl) (rv_tmp rfl) (fun w' s' => ⟨_, rfl, s', trivial⟩)
      · have hbe : ((bstr x).toList == (bstr nm).toList) = false := by rw [hbe]; exact decide_eq_false hx
        repeat' (first|refine zw374 ?_|(refine ta_ ?_;intro _)|(refine zk0 ?_ ?_<;>intro ht)|fail)
        refine nx_round (k + 1) ⟨by show k + 1 ≤ _; omega, ?_⟩ (by show N.length - (k + 1) < N.length - k; omega) ts_ (fun _ s => s)
        rw [htk]
        intro hm
        rcases List.mem_append.1 hm with hm | hm
        · exact hk2 hm
        · exact hx (List.mem_singleton.1 hm).symm
    · have ek : k = N.length := by omega
      subst ek
      rw [List.take_length] at hk2
      have e2 : addX true N nm = N ++ [nm] := by
        show addN N nm = _
        unfold addN
        rw [if_neg hk2]
      have e1 : nameX true key N nm = drawF key 0 (N.length + 1) 32 := by
        show drawF key 0 (N.idxOf nm + 1) 32 = _
        rw [List.idxOf_eq_length hk2]
      have D1 := rDraw_sp key 0 (N.length + 1) 32 hk hk32 (by omega) (by omega) (by omega) h
      rw [e1, e2]
      refine cx_rowsl 1 rfl ?_
      rintro ad cap rfl
      repeat' (first|refine zw234 ?_|(refine ta_ ?_;intro _)|(refine zk0 ?_ ?_<;>intro ht)|fail)
      refine rx_append (sz := 1) 2 rfl rfl rfl (yaz 0 rfl) rfl (fun u hu => by rw [List.mem_singleton.1 hu]; rfl) rfl (by omega) (by unfold maxLen; omega) (by omega) rfl rfl rfl ybf (fun _ => ybf) ?_
      intro v2 _
      refine rx_rowsl 2 rfl ?_
      rintro ad2 cap2 rfl
      repeat' (first|refine zw375 ?_|(refine ta_ ?_;intro _)|(refine zk0 ?_ ?_<;>intro ht)|fail)
      refine cx_region_drawY [9] rfl (by kernel_rfl) ?_
      repeat' (first|refine zw376 ?_|(refine ycf ?_;(first|(refine zg0 ?_ ?_<;>intro ht)|(refine tb_ ?_ ?_ ?_;(·(exact to_));(·intro _;(exact to_));intro _)))|fail)
      (refine ycn (ycp Tryz.func68 rfl (by kernel_rfl) rfl) (D1) rfl rfl rfl ?_ ?_; (· (exact to_)))
      repeat' (first|refine zw376 ?_|(refine ycf ?_;(first|(refine zg0 ?_ ?_<;>intro ht)|(refine tb_ ?_ ?_ ?_;(·(exact to_));(·intro _;(exact to_));intro _)))|fail)
      repeat' (first|refine zw234 ?_|(refine ta_ ?_;intro _)|(refine zk0 ?_ ?_<;>intro ht)|fail)
      refine nx_ret2 rfl (rv_tmp rfl) (rv_tmp rfl) (fun w' s' => ⟨.slice ad2 (N.length + 1) cap2, rfl, ?_, trivial⟩)
      have s2 := s'.tl
      unfold rowN
      rw [List.length_append, nmc_app]
      exact s2
end Go.Proofs.YtgeepceieckooaaGreatDoor
end

section
namespace Go.Proofs.YtgeepceieckooaaGreatDoor
open Go Go.Ck
set_option maxHeartbeats 4000000
theorem right12_sp (ep c n : Int) (h : View) (w : World) (s : St ⟨w, h, []⟩ h [] w) :
    Calls Tryz.prog 69 [.int .i64 ep, .int .i64 c, .int .i64 n].toArray w fun e w' => e = .returned (.bool (decide (sealOk ep c n))) ∧ St ⟨w, h, []⟩ h [] w' := by
  have E1 := r11Epoch_sp ep h
  have E2 := r11Client_sp c h
  have E3 := r11Counter_sp n h
  have e : decide (sealOk ep c n) = (decide (1 ≤ ep ∧ ep ≤ 1048576) && (decide (1 ≤ c ∧ c ≤ 16) && decide (1 ≤ n ∧ n ≤ 4611686018427387904))) := by
    rw [Bool.eq_iff_iff]
    simp only [decide_eq_true_eq, Bool.and_eq_true]
    unfold sealOk nonceOk
    constructor
    · rintro ⟨⟨a, b, c, d⟩, e, f⟩; exact ⟨⟨e, f⟩, ⟨a, b⟩, c, d⟩
    · rintro ⟨⟨e, f⟩, ⟨a, b⟩, c, d⟩; exact ⟨⟨a, b, c, d⟩, e, f⟩
  rw [e]
  generalize decide (1 ≤ ep ∧ ep ≤ 1048576) = b1 at E1 ⊢
  generalize decide (1 ≤ c ∧ c ≤ 16) = b2 at E2 ⊢
  generalize decide (1 ≤ n ∧ n ≤ 4611686018427387904) = b3 at E3 ⊢
  refine calls_enter Tryz.func69 rfl Tryz.ntmps69 rfl s ?_
  repeat' (first|refine tw_ ?_|(refine ta_ ?_;intro _)|(refine zk0 ?_ ?_<;>intro ht)|fail)
  (refine ycn (ycp Tryz.func64 rfl (by kernel_rfl) rfl) (E1) rfl rfl rfl ?_ ?_; (· (exact to_)))
  cases b1
  · repeat' (first|refine tw_ ?_|(refine ta_ ?_;intro _)|(refine zk0 ?_ ?_<;>intro ht)|fail)
    exact nx_ret1 rfl (rv_tmp rfl) (fun w' s' => ⟨rfl, s'⟩)
  repeat' (first|refine tw_ ?_|(refine ta_ ?_;intro _)|(refine zk0 ?_ ?_<;>intro ht)|fail)
  (refine ycn (ycp Tryz.func66 rfl (by kernel_rfl) rfl) (E2) rfl rfl rfl ?_ ?_; (· (exact to_)))
  cases b2
  · repeat' (first|refine tw_ ?_|(refine ta_ ?_;intro _)|(refine zk0 ?_ ?_<;>intro ht)|fail)
    exact nx_ret1 rfl (rv_tmp rfl) (fun w' s' => ⟨rfl, s'⟩)
  repeat' (first|refine tw_ ?_|(refine ta_ ?_;intro _)|(refine zk0 ?_ ?_<;>intro ht)|fail)
  (refine ycn (ycp Tryz.func65 rfl (by kernel_rfl) rfl) (E3) rfl rfl rfl ?_ ?_; (· (exact to_)))
  repeat' (first|refine tw_ ?_|(refine ta_ ?_;intro _)|(refine zk0 ?_ ?_<;>intro ht)|fail)
  exact nx_ret1 rfl (rv_tmp rfl) (fun w' s' => ⟨rfl, s'⟩)
def sdc (x : Sd) : List Value := [.int .i64 x.ep, .int .i64 x.cl, .int .i64 x.ct, .string (bstr x.wi), .string (bstr x.b), .string (bstr x.out)]
theorem sdc_len (x : Sd) : (sdc x).length = 6 := rfl
abbrev rowSd (vl : Value) (D : List Sd) : Res := Res.row 124 6 vl D.length (D.flatMap sdc)
theorem usD_len (D : List Sd) : (usD D).length = D.length := by simp [usD]
theorem DocSeal_sp (bw : Nat) (idl : Bool) (key : List Int) (vn vl : Value) (D : List Sd) (ep cl ct : Int) (wi b : List Int) (hk : Bytes key) (hk32 : key.length = 32) (hDl : D.length < 900000) (hok : sealOk ep cl ct) (hnew : (cl, ct) ∉ usD D) (hwl : wi.length ≤ 200000) (hbl : b.length ≤ 5000) (yw : Bytes wi) (yb : Bytes b) (h : View) (w : World) (s : St ⟨w, h, doms [dvB bw idl key vn vl, rowSd vl D]⟩ h [dvB bw idl key vn vl, rowSd vl D] w) :
    Calls Tryz.prog 33 [.pointer (some ⟨bw, 0, none⟩), .int .i64 ep, .int .i64 cl, .int .i64 ct, .string (bstr wi), .string (bstr b)].toArray w fun e w' => ∃ vl2 : Value, e = .returned (.tuple #[.string (bstr (sealX idl key (usD D) ep cl ct wi b)), .int .i64 0]) ∧ St ⟨w, h, doms [dvB bw idl key vn vl, rowSd vl D]⟩ h [dvB bw idl key vn vl2, rowSd vl2 (D ++ [⟨ep, cl, ct, wi, b, sealX idl key (usD D) ep cl ct wi b⟩])] w' ∧ True := by
  have R1 := right12_sp ep cl ct h
  rw [decide_eq_true hok] at R1
  obtain ⟨X, hX⟩ : ∃ X, X = sealX idl key (usD D) ep cl ct wi b := ⟨_, rfl⟩
  rw [← hX]
  have hcD : (D ++ [⟨ep, cl, ct, wi, b, X⟩] : List Sd).flatMap sdc = D.flatMap sdc ++ sdc ⟨ep, cl, ct, wi, b, X⟩ := by simp
  have hzo : ∀ u ∈ sdc ⟨ep, cl, ct, wi, b, X⟩, u.oneCell' = true := List.all_eq_true.1 rfl
  have hfz : fillL (fun i : Nat => ([(0, 1), (1, 1), (2, 1), (3, 1), (4, 1), (5, 1)] : List (Nat × Nat))[i]?) [.int .i64 0, .int .i64 0, .int .i64 0, .string ⟨#[]⟩, .string ⟨#[]⟩, .string ⟨#[]⟩] [(0, .int .i64 ep), (1, .int .i64 cl), (2, .int .i64 ct), (3, .string (bstr wi)), (4, .string (bstr b)), (5, .string (bstr X))] = some (sdc ⟨ep, cl, ct, wi, b, X⟩) := by kernel_rfl
  refine calls_enter Tryz.func33 rfl Tryz.ntmps33 rfl s ?_
  repeat' (first|refine tw_ ?_|(refine ta_ ?_;intro _)|(refine zk0 ?_ ?_<;>intro ht)|fail)
  (refine ycn (ycp Tryz.func69 rfl (by kernel_rfl) rfl) (R1) rfl rfl rfl ?_ ?_; (· (exact to_)))
  repeat' (first|refine zw234 ?_|(refine ta_ ?_;intro _)|(refine zk0 ?_ ?_<;>intro ht)|fail)
  refine cx_loop (X := Nat) (fun k => [(0, .pointer (some ⟨bw, 0, none⟩)), (1, .int .i64 ep), (2, .int .i64 cl), (3, .int .i64 ct), (4, .string (bstr wi)), (5, .string (bstr b)), (14, .int .i64 (k : Nat))]) (fun _ => h) (fun k => [dvB bw idl key vn vl, rowSd vl D]) (fun k => k ≤ D.length) (fun k => D.length - k) 0 (Nat.zero_le _) ts_ (fun _ s => s) ?_
  intro k hk1
  by_cases hkl : k < D.length
  · refine cx_rowform 1 rfl (fun _ e _ => by omega) ?_
    rintro g cap rfl
    have hpart : ∀ (h' : View) (L : List Res), L[1]? = some (rowSd (.slice (some ⟨g, 0, none⟩) D.length cap) D) → Cells h' L ⟨g, 0 + ((k : Nat) : Int).toNat * 6, none⟩ (sdc D[k]) := fun h' L hL => by
      have h1 := ((row_cells (h := h') 1 hL).drop (k * 6)).take 6
      rw [flat_at sdc_len D k hkl] at h1
      rw [show ((k : Nat) : Int).toNat * 6 = k * 6 by omega]
      exact h1
    have hmem : (D[k].cl, D[k].ct) ∈ usD D := List.mem_map.2 ⟨D[k], List.getElem_mem hkl, rfl⟩
    generalize D[k] = x at hpart hmem
    by_cases h1 : x.cl = cl
    · have h2 : x.ct ≠ ct := fun e => hnew (by rw [← h1, ← e]; exact hmem)
      repeat' (first|refine zw377 ?_|(refine ta_ ?_;intro _)|(refine zk0 ?_ ?_<;>intro ht)|fail)
      exact nx_round (k + 1) (by show k + 1 ≤ _; omega) (by show D.length - (k + 1) < D.length - k; omega) ts_ (fun _ s => s)
    ·
      repeat' (first|refine zw377 ?_|(refine ta_ ?_;intro _)|(refine zk0 ?_ ?_<;>intro ht)|fail)
      exact nx_round (k + 1) (by show k + 1 ≤ _; omega) (by show D.length - (k + 1) < D.length - k; omega) ts_ (fun _ s => s)
  · have ek : k = D.length := by omega
    subst ek
    refine cx_rowsl 1 rfl ?_
    rintro ad0 cap0 rfl
    cases idl with
    | true =>
      have D1 := rDraw_sp key 1 (D.length + 1) (b.length + 16) hk hk32 (by omega) (by omega) (by omega) h
      have eX : drawF key 1 (D.length + 1) (b.length + 16) = X := by
        rw [hX]
        show _ = drawF key 1 ((usD D).length + 1) _
        rw [usD_len]
      rw [eX] at D1
      repeat' (first|refine zw378 ?_|(refine ta_ ?_;intro _)|(refine zk0 ?_ ?_<;>intro ht)|fail)
      refine cx_region_drawY [13] rfl (by kernel_rfl) ?_
      repeat' (first|refine zw379 ?_|(refine ycf ?_;(first|(refine zg0 ?_ ?_<;>intro ht)|(refine tb_ ?_ ?_ ?_;(·(exact to_));(·intro _;(exact to_));intro _)))|fail)
      (refine ycn (ycp Tryz.func68 rfl (by kernel_rfl) rfl) (D1) rfl rfl rfl ?_ ?_; (· (exact to_)))
      repeat' (first|refine zw379 ?_|(refine ycf ?_;(first|(refine zg0 ?_ ?_<;>intro ht)|(refine tb_ ?_ ?_ ?_;(·(exact to_));(·intro _;(exact to_));intro _)))|fail)
      refine yby ?_
      repeat' (first|refine zw380 ?_|(refine ta_ ?_;intro _)|(refine zk0 ?_ ?_<;>intro ht)|fail)
      refine rx_append (sz := 6) 2 rfl rfl rfl (yaz 0 rfl) rfl (fun u hu => hzo u hu) rfl (by omega) (by unfold maxLen; omega) (by omega) rfl rfl rfl ybf (fun _ => ybf) ?_
      intro v2 _
      refine rx_rowsl 2 rfl ?_
      rintro ad2 cap2 rfl
      repeat' (first|refine zw381 ?_|(refine ta_ ?_;intro _)|(refine zk0 ?_ ?_<;>intro ht)|fail)
      refine nx_ret2 rfl (rv_tmp rfl) (rv_tmp rfl) (fun w' s' => ⟨.slice ad2 (D.length + 1) cap2, rfl, ?_, trivial⟩)
      have s2 := s'.tl
      unfold rowSd
      rw [List.length_append, hcD]
      exact s2
    | false =>
      have K1 := rSealK_sp key ep hk hk32 ⟨hok.2.1, hok.2.2⟩ h
      have K2 := rNonce_sp cl ct hok.1 h
      have K3 := rASeal_sp (sealK key ep) (nonceF cl ct) wi b (sealK_by _ _) (nonceF_by _ _) (sealK_len _ _) (nonceF_len _ _) yw yb hwl (by omega) h
      have eX : aeadS (sealK key ep) (nonceF cl ct) wi b = X := by
        rw [hX]
        rfl
      rw [eX] at K3
      repeat' (first|refine zw234 ?_|(refine ta_ ?_;intro _)|(refine zk0 ?_ ?_<;>intro ht)|fail)
      (refine ycn (ycp Tryz.func71 rfl (by kernel_rfl) rfl) (K1) rfl rfl rfl ?_ ?_; (· (exact to_)))
      repeat' (first|refine zw234 ?_|(refine ta_ ?_;intro _)|(refine zk0 ?_ ?_<;>intro ht)|fail)
      (refine ycn (ycp Tryz.func72 rfl (by kernel_rfl) rfl) (K2) rfl rfl rfl ?_ ?_; (· (exact to_)))
      repeat' (first|refine zw234 ?_|(refine ta_ ?_;intro _)|(refine zk0 ?_ ?_<;>intro ht)|fail)
      (refine ycn (ycp Tryz.func70 rfl (by kernel_rfl) rfl) (K3) rfl rfl rfl ?_ ?_; (· (exact to_)))
      iterate 3 (first|refine zw234 ?_|(refine ta_ ?_;intro _)|(refine zk0 ?_ ?_<;>intro ht)|fail)
      repeat' (first|refine zw380 ?_|(refine ta_ ?_;intro _)|(refine zk0 ?_ ?_<;>intro ht)|fail)
      refine rx_append (sz := 6) 2 rfl rfl rfl (yaz 0 rfl) rfl (fun u hu => hzo u hu) rfl (by omega) (by unfold maxLen; omega) (by omega) rfl rfl rfl ybf (fun _ => ybf) ?_
      intro v2 _
      refine rx_rowsl 2 rfl ?_
      rintro ad2 cap2 rfl
      repeat' (first|refine zw382 ?_|(refine ta_ ?_;intro _)|(refine zk0 ?_ ?_<;>intro ht)|fail)
      refine nx_ret2 rfl (rv_tmp rfl) (rv_tmp rfl) (fun w' s' => ⟨.slice ad2 (D.length + 1) cap2, rfl, ?_, trivial⟩)
      have s2 := s'.tl
      unfold rowSd
      rw [List.length_append, hcD]
      exact s2
end Go.Proofs.YtgeepceieckooaaGreatDoor
end

section
namespace Go.Proofs.YtgeepceieckooaaGreatDoor
open Go Go.Ck
set_option maxHeartbeats 4000000
theorem class_up {n : Int} (h1 : n ≤ 4000) {k : Nat} (hk : k < classK n) : 64 * 4 ^ k < n + 4 ∧ k < 3 := by
  unfold classK at hk
  split at hk
  · omega
  · split at hk
    · have : k = 0 := by omega
      subst this
      constructor <;> omega
    · split at hk
      · have : k = 0 ∨ k = 1 := by omega
        rcases this with rfl | rfl <;> (constructor <;> omega)
      · have : k = 0 ∨ k = 1 ∨ k = 2 := by omega
        rcases this with rfl | rfl | rfl <;> (constructor <;> omega)
theorem rClass_sp (n : Int) (h0 : 0 ≤ n) (h1 : n ≤ 4000) (h : View) (w : World) (s : St ⟨w, h, []⟩ h [] w) :
    Calls Tryz.prog 74 [.int .i64 n].toArray w fun r w' => r = .returned (.tuple #[.int .i64 (sizeF n), .int .i64 (classK n : Nat), .int .i64 0]) ∧ St ⟨w, h, []⟩ h [] w' := by
  refine calls_enter Tryz.func74 rfl Tryz.ntmps74 rfl s ?_
  repeat' (first|refine zw3 ?_|(refine ta_ ?_;intro _)|(refine zk0 ?_ ?_<;>intro ht)|fail)
  refine cx_loop (X := Nat) (fun k => [(0, .int .i64 n), (5, .int .i64 (64 * 4 ^ k)), (6, .int .i64 (k : Nat))]) (fun _ => h) (fun k => []) (fun k => k ≤ classK n) (fun k => classK n - k) 0 (Nat.zero_le _) ts_ (fun _ s => s) ?_
  intro k hk
  by_cases hkl : k < classK n
  · obtain ⟨u1, u2⟩ := class_up h1 hkl
    have hp : (64 : Int) * 4 ^ k * 4 = 64 * 4 ^ (k + 1) := by rw [Int.pow_succ, Int.mul_assoc]
    have hlt : 0 ≤ (64 : Int) * 4 ^ (k + 1) ∧ (64 : Int) * 4 ^ (k + 1) ≤ 4096 := by
      have : k = 0 ∨ k = 1 ∨ k = 2 := by omega
      rcases this with rfl | rfl | rfl <;> omega
    obtain ⟨S1, hS1⟩ : ∃ S1, S1 = (64 : Int) * 4 ^ (k + 1) := ⟨_, rfl⟩
    obtain ⟨S0, hS0⟩ : ∃ S0, S0 = (64 : Int) * 4 ^ k := ⟨_, rfl⟩
    rw [← hS1] at hp hlt
    rw [← hS0] at u1 hp ⊢
    have hw : IntKind.i64.wrap (S0 * 4) = S1 := by
      rw [hp, IntKind.wrap_i64] <;> omega
    repeat' (first|refine zw383 ?_|(refine ta_ ?_;intro _)|(refine zk0 ?_ ?_<;>intro ht)|fail)
    refine nx_round (k + 1) (by show k + 1 ≤ _; omega) (by show classK n - (k + 1) < classK n - k; omega) ?_ (fun _ s => s)
    show Ck.Sub [(0, .int .i64 n), (5, .int .i64 (64 * 4 ^ (k + 1))), (6, _)] _
    rw [← hS1]
    exact ts_
  · have ek : k = classK n := by omega
    subst ek
    have hb := sizeF_bd h0 h1
    have es : (64 : Int) * 4 ^ classK n = sizeF n := rfl
    rw [es]
    generalize sizeF n = S at hb ⊢
    repeat' (first|refine zw3 ?_|(refine ta_ ?_;intro _)|(refine zk0 ?_ ?_<;>intro ht)|fail)
    exact nx_ret3 rfl (rv_tmp rfl) (rv_tmp rfl) (rv_tmp rfl) (fun w' s' => ⟨rfl, s'⟩)
theorem rPad_sp (b : List Int) (yb : Bytes b) (hl : b.length ≤ 4000) (h : View) (w : World) (s : St ⟨w, h, []⟩ h [] w) :
    Calls Tryz.prog 35 [.string (bstr b)].toArray w fun e w' => e = .returned (.string (bstr (padW b))) ∧ St ⟨w, h, []⟩ h [] w' := by
  have C1 := rClass_sp b.length (by omega) (by omega) h
  have hb := sizeF_bd (n := b.length) (by omega) (by omega)
  have B1 := rBytes_sp b (by omega) h
  obtain ⟨zs, hz0, hz1, hz2⟩ : ∃ zs : List Int, zs = List.replicate ((sizeF b.length).toNat - (4 + b.length)) 0 ∧ zs.length = (sizeF b.length).toNat - (4 + b.length) ∧ List.replicate zs.length (Value.int .u8 0) = bcs zs := ⟨_, rfl, by simp, by rw [List.length_replicate]; exact zeros_bcs _⟩
  have hnl : (num4 b.length ++ b).length = 4 + b.length := by rw [List.length_append, num4_len]
  have hcj : sizeF b.length - ((num4 b.length ++ b).length : Int) = (zs.length : Int) := by rw [hnl]; omega
  have c1 : bstr (num4 b.length ++ b) ++ bstr zs = bstr (padW b) := by rw [bstr_app, hz0]; rfl
  have z1 : (bstr (num4 b.length ++ b)).size + (bstr zs).size < 1000000 := by rw [bstr_size, bstr_size, hnl]; omega
  have hsz : zs.length ≤ 4096 := by omega
  generalize padW b = X at c1 ⊢
  generalize num4 b.length ++ b = B at B1 hcj c1 z1 hnl
  generalize sizeF b.length = S at C1 hb hcj
  generalize classK b.length = K at C1
  have hcz : ∀ (bb : Nat) (L : List Res) (h' : View), L[0]? = some (Res.blk bb (.cells (List.replicate zs.length (Value.int .u8 0)).toArray 5 (0, 0))) → Cells h' L ⟨bb, 0, none⟩ (bcs zs) := fun bb L h' hL => by
    rw [← hz2]
    exact yaz 0 hL
  refine calls_enter Tryz.func35 rfl Tryz.ntmps35 rfl s ?_
  repeat' (first|refine zw384 ?_|(refine ta_ ?_;intro _)|(refine zk0 ?_ ?_<;>intro ht)|fail)
  (refine ycn (ycp Tryz.func74 rfl (by kernel_rfl) rfl) (C1) rfl rfl rfl ?_ ?_; (· (exact to_)))
  repeat' (first|refine zw384 ?_|(refine ta_ ?_;intro _)|(refine zk0 ?_ ?_<;>intro ht)|fail)
  (refine ycn (ycp Tryz.func52 rfl (by kernel_rfl) rfl) (B1) rfl rfl rfl ?_ ?_; (· (exact to_)))
  repeat' (first|refine zw384 ?_|(refine ta_ ?_;intro _)|(refine zk0 ?_ ?_<;>intro ht)|fail)
  refine yba (ma_makeBytes rfl rfl rfl (by omega)) rfl rfl rfl ybf (fun _ => ybf) ?_
  intro bm
  repeat' (first|refine zw384 ?_|(refine ta_ ?_;intro _)|(refine zk0 ?_ ?_<;>intro ht)|fail)
  exact nx_ret1 rfl (rv_tmp rfl) (fun w' s' => ⟨rfl, s'.nil⟩)
end Go.Proofs.YtgeepceieckooaaGreatDoor
end
