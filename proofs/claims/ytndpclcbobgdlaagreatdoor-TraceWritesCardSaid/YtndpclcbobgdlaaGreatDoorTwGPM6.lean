/-
  Part 6 of a proof: TrD TwA TrF SrH TrB TrG.
  Conditions: each theorem states its own.
-/
import Derived.Test.YtndpclcbobgdlaaGreatDoorTwGPM5
set_option maxRecDepth 100000
set_option linter.unusedVariables false
set_option linter.unusedSimpArgs false
section
namespace Go.Proofs.YtndpclcbobgdlaaGreatDoor
open Go Go.Ck
set_option maxHeartbeats 4000000
def t9 (ki cl : Int) (nv vv : Value) (ha bo k : Int) (sv rv : Value) : List Value := [.int .i64 ki, .int .i64 cl, nv, vv, .int .i64 ha, .int .i64 bo, .int .i64 k, sv, rv]
def nS : Nat → RS → RS
  | 0, s => (trp2 s).2
  | k + 1, s => (numC (nS k s) 8 4611686018427387904).2
def nV (k : Nat) (s : RS) : Int := (numC (nS k s) 8 4611686018427387904).1
def nF (j k : Nat) (s : RS) : Int := if j < k then nV j s else 0
theorem nS_ok {s : RS} (h : RsOk s) : ∀ k, RsOk (nS k s)
  | 0 => trp2_ok h
  | k + 1 => (nS_ok h k).num _ _
theorem spl_t9 {k : Nat} (hk : k < 3) (s : RS) (ki cl : Int) (nv vv sv rv : Value) : spl (t9 ki cl nv vv (nF 0 k s) (nF 1 k s) (nF 2 k s) sv rv) (4 + k) [.int .i64 (nV k s)] = t9 ki cl nv vv (nF 0 (k + 1) s) (nF 1 (k + 1) s) (nF 2 (k + 1) s) sv rv := by
  rcases (by omega : k = 0 ∨ k = 1 ∨ k = 2) with rfl | rfl | rfl <;> rfl
def ptr3 (bx : Nat) : List Value := [.pointer (some ⟨bx, 4 + 0, none⟩), .pointer (some ⟨bx, 4 + 1, none⟩), .pointer (some ⟨bx, 4 + 2, none⟩)]
theorem ptr3_at {bx k : Nat} (h : k < 3) : (ptr3 bx)[k]? = some (.pointer (some ⟨bx, 4 + k, none⟩)) := by
  rcases (by omega : k = 0 ∨ k = 1 ∨ k = 2) with rfl | rfl | rfl <;> rfl
theorem hd_at {h : View} {L : List Res} {A : Res} (k : Nat) (hk : L[k]? = some A) : ∀ w, Hd h L w → Hd h [A] w := fun w s => Hd.sub s (Le.refl h) (fun r hr => by rw [List.mem_singleton.1 hr]; exact List.mem_of_getElem? hk)
theorem ttake_sp (bi : Nat) (v : Value) (s0 : RS) (hok0 : RsOk s0) (h : View) (hv : Bs8 h v s0.1) (w : World) (s : St ⟨w, h, doms [inR bi v s0.2]⟩ h [inR bi v s0.2] w) :
    Calls Tryz.prog 26 [.pointer (some ⟨bi, 0, none⟩)].toArray w fun en w' => ∃ x : View × Value × Ts, en = .returned (.agg (tsc x.2.2).toArray) ∧ St ⟨w, h, doms [inR bi v s0.2]⟩ x.1 [inR bi x.2.1 (trp10 s0).2.2] w' ∧ (Bs8 x.1 x.2.1 (trp10 s0).2.1 ∧ Tsv x.1 x.2.2 ∧ x.2.2.a = taC s0) := by
  have k1 := trp1_ok hok0
  have k2 := trp2_ok hok0
  have k5 := trp5_ok hok0
  obtain ⟨k6, y6, l6⟩ := trp6_ok hok0
  obtain ⟨k7, y7, l7⟩ := trp7_ok hok0
  have k8 := trp8_ok hok0
  have d8 := trp8_bd hok0
  refine calls_enter Tryz.func26 rfl Tryz.ntmps26 rfl s ?_
  repeat' (first|refine tw_ ?_|(refine ta_ ?_;intro _)|((fail_if_success (refine ybi rfl ?_));refine ybj rfl ?_ ?_<;>(intro ht;rw [ht];first|replace ht := oet_ ht|replace ht := oef_ ht|skip))|(refine ych ?_;first|(refine ybw rfl ?_ ?_<;>intro ht)|(refine ybx rfl ?_ ?_<;>intro ht)))
  rename_i b2
  (refine rx_call_m (ycp Tryz.func50 rfl (by kernel_rfl) rfl) (perm_at (k := 1) rfl) (InSmall_sp bi v s0.1 s0.2 255 hok0.b (by omega) hok0.l h hv) rfl rfl rfl ?_ ?_ ?_; (· (exact to_)); (· intro _ _ hle; (exact to_)); intro x px hle)
  rw [show numC (s0.1, s0.2) 1 255 = trp1 s0 from rfl] at px ⊢
  repeat' (first|refine tw_ ?_|(refine ta_ ?_;intro _)|((fail_if_success (refine ybi rfl ?_));refine ybj rfl ?_ ?_<;>(intro ht;rw [ht];first|replace ht := oet_ ht|replace ht := oef_ ht|skip))|(refine ych ?_;first|(refine ybw rfl ?_ ?_<;>intro ht)|(refine ybx rfl ?_ ?_<;>intro ht)))
  rename_i b3
  have px1 : Bs8 h x (trp1 s0).2.1 := px
  clear px hle
  refine rx_perm (L' := [Res.blk b3 (.cells (t9 (trp1 s0).1 0 (.slice none 0 0) (.slice none 0 0) 0 0 0 (.slice none 0 0) (.slice none 0 0)).toArray 39 (0, 0)), inR bi x (trp1 s0).2.2, Res.blk b2 (.cells (t9 0 0 (.slice none 0 0) (.slice none 0 0) 0 0 0 (.slice none 0 0) (.slice none 0 0)).toArray 39 (0, 0))]) (.refl _) ?_
  (refine rx_call_m (ycp Tryz.func50 rfl (by kernel_rfl) rfl) (perm_at (k := 1) rfl) (InSmall_sp bi x (trp1 s0).2.1 (trp1 s0).2.2 255 k1.b (by omega) k1.l h px1) rfl rfl rfl ?_ ?_ ?_; (· (exact to_)); (· intro _ _ hle; (exact to_)); intro x px hle)
  rw [show numC ((trp1 s0).2.1, (trp1 s0).2.2) 1 255 = trp2 s0 from rfl] at px ⊢
  clear px1 hle
  repeat' (first|refine tw_ ?_|(refine ta_ ?_;intro _)|((fail_if_success (refine ybi rfl ?_));refine ybj rfl ?_ ?_<;>(intro ht;rw [ht];first|replace ht := oet_ ht|replace ht := oef_ ht|skip))|(refine ych ?_;first|(refine ybw rfl ?_ ?_<;>intro ht)|(refine ybx rfl ?_ ?_<;>intro ht)))
  rename_i bp
  refine cx_loop (X := Nat × Value) (fun y => [(0, .pointer (some ⟨bi, 0, none⟩)), (2, .pointer (some ⟨b2, 0, none⟩)), (3, .pointer (some ⟨b3, 0, none⟩)), (15, .slice (some ⟨bp, 0, none⟩) 3 3), (16, .int .i64 (3 : Nat)), (17, .int .i64 (y.1 : Nat))]) (fun _ => h)
    (fun y => [Res.blk bp (.cells (ptr3 b3).toArray 97 (0, 0)), inR bi y.2 (nS y.1 s0).2, Res.blk b3 (.cells (t9 (trp1 s0).1 (trp2 s0).1 (.slice none 0 0) (.slice none 0 0) (nF 0 y.1 s0) (nF 1 y.1 s0) (nF 2 y.1 s0) (.slice none 0 0) (.slice none 0 0)).toArray 39 (0, 0)), Res.blk b2 (.cells (t9 0 0 (.slice none 0 0) (.slice none 0 0) 0 0 0 (.slice none 0 0) (.slice none 0 0)).toArray 39 (0, 0))])
    (fun y => y.1 ≤ 3 ∧ Bs8 h y.2 (nS y.1 s0).1) (fun y => 3 - y.1) (0, x) ⟨by omega, px⟩ ts_ (fun _ s => s) ?_
  clear px
  rintro ⟨k, v3⟩ ⟨hk, pv3⟩
  dsimp only at hk pv3 ⊢
  by_cases hk3 : k < 3
  · have ok := nS_ok hok0 k
    have hps : ∀ L' : List Res, L'[0]? = some (Res.blk bp (.cells (ptr3 b3).toArray 97 (0, 0))) → CellAt h L' bp (0 + (k : Int).toNat * 1) (.pointer (some ⟨b3, 4 + k, none⟩)) := fun L' hL => by
      have := (yaz (h := h) 0 hL).cell (ptr3_at (bx := b3) hk3)
      have e : 0 + (k : Int).toNat * 1 = 0 + k := by omega
      rw [e]; exact this
    repeat' (first|(refine ycf ?_;apply ybk;(·first|(exact tk_)|(apply yae;(·rfl);(·(exact hps _ rfl))));(·rfl);(·rfl))|refine t1_ ?_|(refine ta_ ?_;intro _)|((fail_if_success (refine ybi rfl ?_));refine ybj rfl ?_ ?_<;>(intro ht;rw [ht];first|replace ht := oet_ ht|replace ht := oef_ ht|skip))|(refine ych ?_;first|(refine ybw rfl ?_ ?_<;>intro ht)|(refine ybx rfl ?_ ?_<;>intro ht)))
    (refine rx_call_m (ycp Tryz.func25 rfl (by kernel_rfl) rfl) (perm_at (k := 1) rfl) (InNum_sp bi v3 (nS k s0).1 (nS k s0).2 4611686018427387904 ok.b (by omega) ok.l h pv3) rfl rfl rfl ?_ ?_ ?_; (· (exact to_)); (· intro _ _ hle; (exact to_)); intro x px hle)
    repeat' (first|(refine ycf ?_;apply ybk;(·first|(apply qv_nilCheck;rfl));(·rfl);(·rfl))|(refine ybg 2 rfl rfl rfl rfl (by show 4 + k + 1 ≤ 9;omega) rfl (spl_t9 hk3 s0 _ _ _ _ _ _) rfl rfl ?_ ?_ ?_;(·(exact to_));(·(exact to_)))|refine t1_ ?_|(refine ta_ ?_;intro _)|((fail_if_success (refine ybi rfl ?_));refine ybj rfl ?_ ?_<;>(intro ht;rw [ht];first|replace ht := oet_ ht|replace ht := oef_ ht|skip))|(refine ych ?_;first|(refine ybw rfl ?_ ?_<;>intro ht)|(refine ybx rfl ?_ ?_<;>intro ht)))
    repeat' (first|(refine ycf ?_;apply ybk;(·first|(exact tk_));(·rfl);(·rfl))|refine t1_ ?_|(refine ta_ ?_;intro _)|((fail_if_success (refine ybi rfl ?_));refine ybj rfl ?_ ?_<;>(intro ht;rw [ht];first|replace ht := oet_ ht|replace ht := oef_ ht|skip))|(refine ych ?_;first|(refine ybw rfl ?_ ?_<;>intro ht)|(refine ybx rfl ?_ ?_<;>intro ht)))
    exact nx_round (k + 1, x) ⟨by show k + 1 ≤ 3; omega, px⟩ (by show 3 - (k + 1) < 3 - k; omega) ts_ (fun _ s => s.picks [1, 0, 0, 0])
  obtain rfl : k = 3 := by omega
  have pv5 : Bs8 h v3 (trp5 s0).2.1 := pv3
  clear pv3 hk3 hk
  repeat' (first|(refine ycf ?_;apply ybk;(·first|(exact tk_));(·rfl);(·rfl))|refine t1_ ?_|(refine ta_ ?_;intro _)|((fail_if_success (refine ybi rfl ?_));refine ybj rfl ?_ ?_<;>(intro ht;rw [ht];first|replace ht := oet_ ht|replace ht := oef_ ht|skip))|(refine ych ?_;first|(refine ybw rfl ?_ ?_<;>intro ht)|(refine ybx rfl ?_ ?_<;>intro ht)))
  refine rx_perm (L' := [inR bi v3 (trp5 s0).2.2, Res.blk b3 (.cells (t9 (trp1 s0).1 (trp2 s0).1 (.slice none 0 0) (.slice none 0 0) (trp3 s0).1 (trp4 s0).1 (trp5 s0).1 (.slice none 0 0) (.slice none 0 0)).toArray 39 (0, 0)), Res.blk b2 (.cells (t9 0 0 (.slice none 0 0) (.slice none 0 0) 0 0 0 (.slice none 0 0) (.slice none 0 0)).toArray 39 (0, 0)), Res.blk bp (.cells (ptr3 b3).toArray 97 (0, 0))]) ((List.perm_append_comm (l₁ := [_]) (l₂ := [_, _, _]))) ?_
  (refine rx_call_m (ycp Tryz.func51 rfl (by kernel_rfl) rfl) (perm_at (k := 0) rfl) (InBytes_sp bi v3 (trp5 s0).2.1 (trp5 s0).2.2 255 k5.b (by omega) k5.l h pv5) rfl rfl rfl ?_ ?_ ?_; (· (exact to_)); (· intro _ _ hle; (exact to_)); intro x px hle)
  rw [show byC ((trp5 s0).2.1, (trp5 s0).2.2) 255 = trp6 s0 from rfl] at px ⊢
  obtain ⟨h1, vn, v4⟩ := x
  obtain ⟨pn, pv6⟩ := px
  have hle1 : Le h h1 := hle
  clear hle
  dsimp only at pn pv6 ⊢
  obtain ⟨_, adn, capn, rfl, _, _⟩ := id pn
  repeat' (first|refine tw_ ?_|(refine ta_ ?_;intro _)|((fail_if_success (refine ybi rfl ?_));refine ybj rfl ?_ ?_<;>(intro ht;rw [ht];first|replace ht := oet_ ht|replace ht := oef_ ht|skip))|(refine ych ?_;first|(refine ybw rfl ?_ ?_<;>intro ht)|(refine ybx rfl ?_ ?_<;>intro ht)))
  refine rx_perm (L' := [inR bi v4 (trp6 s0).2.2, Res.blk b3 (.cells (t9 (trp1 s0).1 (trp2 s0).1 (.slice adn (trp6 s0).1.length capn) (.slice none 0 0) (trp3 s0).1 (trp4 s0).1 (trp5 s0).1 (.slice none 0 0) (.slice none 0 0)).toArray 39 (0, 0)), Res.blk b2 (.cells (t9 0 0 (.slice none 0 0) (.slice none 0 0) 0 0 0 (.slice none 0 0) (.slice none 0 0)).toArray 39 (0, 0)), Res.blk bp (.cells (ptr3 b3).toArray 97 (0, 0))]) (.refl _) ?_
  (refine rx_call_m (ycp Tryz.func51 rfl (by kernel_rfl) rfl) (perm_at (k := 0) rfl) (InBytes_sp bi v4 (trp6 s0).2.1 (trp6 s0).2.2 65536 k6.b (by omega) k6.l h1 pv6) rfl rfl rfl ?_ ?_ ?_; (· (exact to_)); (· intro _ _ hle; (exact to_)); intro x px hle)
  rw [show byC ((trp6 s0).2.1, (trp6 s0).2.2) 65536 = trp7 s0 from rfl] at px ⊢
  obtain ⟨h2, vv, v5⟩ := x
  obtain ⟨pv, pv7⟩ := px
  have hle2 : Le h1 h2 := hle
  clear hle
  dsimp only at pv pv7 ⊢
  obtain ⟨_, adv, capv, rfl, _, _⟩ := id pv
  repeat' (first|refine tw_ ?_|(refine ta_ ?_;intro _)|((fail_if_success (refine ybi rfl ?_));refine ybj rfl ?_ ?_<;>(intro ht;rw [ht];first|replace ht := oet_ ht|replace ht := oef_ ht|skip))|(refine ych ?_;first|(refine ybw rfl ?_ ?_<;>intro ht)|(refine ybx rfl ?_ ?_<;>intro ht)))
  refine rx_perm (L' := [inR bi v5 (trp7 s0).2.2, Res.blk b3 (.cells (t9 (trp1 s0).1 (trp2 s0).1 (.slice adn (trp6 s0).1.length capn) (.slice adv (trp7 s0).1.length capv) (trp3 s0).1 (trp4 s0).1 (trp5 s0).1 (.slice none 0 0) (.slice none 0 0)).toArray 39 (0, 0)), Res.blk b2 (.cells (t9 0 0 (.slice none 0 0) (.slice none 0 0) 0 0 0 (.slice none 0 0) (.slice none 0 0)).toArray 39 (0, 0)), Res.blk bp (.cells (ptr3 b3).toArray 97 (0, 0))]) (.refl _) ?_
  (refine rx_call_m (ycp Tryz.func25 rfl (by kernel_rfl) rfl) (perm_at (k := 0) rfl) (InNum_sp bi v5 (trp7 s0).2.1 (trp7 s0).2.2 1000 k7.b (by omega) k7.l h2 pv7) rfl rfl rfl ?_ ?_ ?_; (· (exact to_)); (· intro _ _ hle; (exact to_)); intro x px hle)
  rw [show numC ((trp7 s0).2.1, (trp7 s0).2.2) 8 1000 = trp8 s0 from rfl] at px ⊢
  obtain ⟨n, hn⟩ : ∃ n : Nat, (trp8 s0).1 = n := ⟨(trp8 s0).1.toNat, by omega⟩
  rw [hn] at d8 ⊢
  repeat' (first|refine tw_ ?_|(refine ta_ ?_;intro _)|((fail_if_success (refine ybi rfl ?_));refine ybj rfl ?_ ?_<;>(intro ht;rw [ht];first|replace ht := oet_ ht|replace ht := oef_ ht|skip))|(refine ych ?_;first|(refine ybw rfl ?_ ?_<;>intro ht)|(refine ybx rfl ?_ ?_<;>intro ht)))
  refine cx_row 4 1 ?_
  refine cx_loop (X := Nat × Value × Value) (fun y => [(0, .pointer (some ⟨bi, 0, none⟩)), (2, .pointer (some ⟨b2, 0, none⟩)), (3, .pointer (some ⟨b3, 0, none⟩)), (33, .int .i64 (n : Nat)), (34, .int .i64 (y.1 : Nat))]) (fun _ => h2)
    (fun y => [Res.row 4 1 y.2.2 y.1 (bls (stC y.1 (trp8 s0).2).1), inR bi y.2.1 (stC y.1 (trp8 s0).2).2.2, Res.blk b3 (.cells (t9 (trp1 s0).1 (trp2 s0).1 (.slice adn (trp6 s0).1.length capn) (.slice adv (trp7 s0).1.length capv) (trp3 s0).1 (trp4 s0).1 (trp5 s0).1 y.2.2 (.slice none 0 0)).toArray 39 (0, 0)), Res.blk b2 (.cells (t9 0 0 (.slice none 0 0) (.slice none 0 0) 0 0 0 (.slice none 0 0) (.slice none 0 0)).toArray 39 (0, 0))])
    (fun y => y.1 ≤ n ∧ Bs8 h2 y.2.1 (stC y.1 (trp8 s0).2).2.1) (fun y => n - y.1) (0, x, .slice none 0 0) ⟨by omega, px⟩ ts_ (fun _ s => s.picks [0, 0, 0, 0]) ?_
  clear px hle
  rintro ⟨k, v6, mv⟩ ⟨hk, pv8⟩
  dsimp only at hk pv8 ⊢
  obtain ⟨ok, hlen⟩ := stC_ok k8 k
  by_cases hkn : k < n
  · have eD : stC (k + 1) (trp8 s0).2 = ((stC k (trp8 s0).2).1 ++ [decide ((numC (stC k (trp8 s0).2).2 1 1).1 = 1)], (numC (stC k (trp8 s0).2).2 1 1).2) := rfl
    generalize stC k (trp8 s0).2 = D at ok hlen pv8 eD ⊢
    obtain ⟨B, ls, e⟩ := D
    dsimp only at ok hlen pv8 eD ⊢
    repeat' (first|(refine ycf ?_;apply ybk;(·first|(exact tk_));(·rfl);(·rfl))|refine t1_ ?_|(refine ta_ ?_;intro _)|((fail_if_success (refine ybi rfl ?_));refine ybj rfl ?_ ?_<;>(intro ht;rw [ht];first|replace ht := oet_ ht|replace ht := oef_ ht|skip))|(refine ych ?_;first|(refine ybw rfl ?_ ?_<;>intro ht)|(refine ybx rfl ?_ ?_<;>intro ht)))
    refine cx_region_draw [Res.blk b3 (.cells (t9 (trp1 s0).1 (trp2 s0).1 (.slice adn (trp6 s0).1.length capn) (.slice adv (trp7 s0).1.length capv) (trp3 s0).1 (trp4 s0).1 (trp5 s0).1 mv (.slice none 0 0)).toArray 39 (0, 0))] rfl (by kernel_rfl) ?_
    repeat' (refine ycf ?_;(first|(first|(apply ybm;(·exact tq_);(·rfl);(·rfl);(·(first|exact hd_at 2 rfl|exact hd_at 3 rfl)))|refine ybl rfl rfl ?_|((fail_if_success (refine ybi rfl ?_));refine ybj rfl ?_ ?_<;>(intro ht;rw [ht];first|replace ht := oet_ ht|replace ht := oef_ ht|skip))|(refine tb_ ?_ ?_ ?_;(·(first|exact ybf|(refine .inl ?_;(first|exact hd_at 2 rfl|exact hd_at 3 rfl))|exact to_));(·intro _;(first|exact ybf|(refine .inl ?_;(first|exact hd_at 2 rfl|exact hd_at 3 rfl))|exact to_));intro _)|(first|(refine tqs_ ?_ ?_ ?_;(·(first|exact ybf|(refine .inl ?_;(first|exact hd_at 2 rfl|exact hd_at 3 rfl))|exact to_));(·(first|exact ybf|(refine .inl ?_;(first|exact hd_at 2 rfl|exact hd_at 3 rfl))|exact to_))))|(apply ybn;(·exact tq_);(·rfl);(·rfl);(·rfl);(·(first|exact ybf|(refine .inl ?_;(first|exact hd_at 2 rfl|exact hd_at 3 rfl))|exact to_))))|refine ycg ?_))
    (refine rx_call_m (ycp Tryz.func50 rfl (by kernel_rfl) rfl) (perm_at (k := 1) rfl) (InSmall_sp bi v6 ls e 1 ok.b (by omega) ok.l h2 pv8) rfl rfl rfl ?_ ?_ ?_;(·(first|exact ybf|(refine .inl ?_;(first|exact hd_at 2 rfl|exact hd_at 3 rfl))|exact to_));(·intro _ _ hle;(first|exact ybf|(refine .inl ?_;(first|exact hd_at 2 rfl|exact hd_at 3 rfl))|exact to_));intro x px hle)
    repeat' (refine ycf ?_;(first|(first|(apply ybm;(·exact tq_);(·rfl);(·rfl);(·(first|exact hd_at 2 rfl|exact hd_at 3 rfl)))|refine ybl rfl rfl ?_|((fail_if_success (refine ybi rfl ?_));refine ybj rfl ?_ ?_<;>(intro ht;rw [ht];first|replace ht := oet_ ht|replace ht := oef_ ht|skip))|(refine tb_ ?_ ?_ ?_;(·(first|exact ybf|(refine .inl ?_;(first|exact hd_at 2 rfl|exact hd_at 3 rfl))|exact to_));(·intro _;(first|exact ybf|(refine .inl ?_;(first|exact hd_at 2 rfl|exact hd_at 3 rfl))|exact to_));intro _)|(first|(refine tqs_ ?_ ?_ ?_;(·(first|exact ybf|(refine .inl ?_;(first|exact hd_at 2 rfl|exact hd_at 3 rfl))|exact to_));(·(first|exact ybf|(refine .inl ?_;(first|exact hd_at 2 rfl|exact hd_at 3 rfl))|exact to_))))|(apply ybn;(·exact tq_);(·rfl);(·rfl);(·rfl);(·(first|exact ybf|(refine .inl ?_;(first|exact hd_at 2 rfl|exact hd_at 3 rfl))|exact to_))))|refine ycg ?_))
    refine rx_append (sz := 1) 2 rfl rfl rfl (yaz 0 rfl) rfl (fun u hu => by have hu : u ∈ [Value.bool _] := hu;rw [List.mem_singleton.1 hu];rfl) rfl (by omega) (by unfold maxLen;omega) (by omega) rfl rfl rfl (by (first|exact ybf|(refine .inl ?_;(first|exact hd_at 2 rfl|exact hd_at 3 rfl))|exact to_)) (fun _ => by (first|exact ybf|(refine .inl ?_;(first|exact hd_at 2 rfl|exact hd_at 3 rfl))|exact to_)) ?_
    intro v9 _
    refine rx_rowform 2 rfl (fun _ h1 _ => (by omega)) ?_
    rintro g9 cap9 rfl
    repeat' (refine ycf ?_;(first|(first|(apply ybm;(·exact tq_);(·rfl);(·rfl);(·(first|exact hd_at 2 rfl|exact hd_at 3 rfl)))|refine ybl rfl rfl ?_|((fail_if_success (refine ybi rfl ?_));refine ybj rfl ?_ ?_<;>(intro ht;rw [ht];first|replace ht := oet_ ht|replace ht := oef_ ht|skip))|(refine tb_ ?_ ?_ ?_;(·(first|exact ybf|(refine .inl ?_;(first|exact hd_at 2 rfl|exact hd_at 3 rfl))|exact to_));(·intro _;(first|exact ybf|(refine .inl ?_;(first|exact hd_at 2 rfl|exact hd_at 3 rfl))|exact to_));intro _)|(first|(refine ybg 3 rfl rfl rfl rfl (by decide) rfl rfl rfl rfl ?_ ?_ ?_;(·(first|exact ybf|(refine .inl ?_;(first|exact hd_at 2 rfl|exact hd_at 3 rfl))|exact to_));(·exact .inr (by kernel_rfl)))|(refine tqs_ ?_ ?_ ?_;(·(first|exact ybf|(refine .inl ?_;(first|exact hd_at 2 rfl|exact hd_at 3 rfl))|exact to_));(·(first|exact ybf|(refine .inl ?_;(first|exact hd_at 2 rfl|exact hd_at 3 rfl))|exact to_))))|(apply ybn;(·exact tq_);(·rfl);(·rfl);(·rfl);(·(first|exact ybf|(refine .inl ?_;(first|exact hd_at 2 rfl|exact hd_at 3 rfl))|exact to_))))|refine ycg ?_))
    repeat' (first|(refine ycf ?_;apply ybk;(·first|(exact tk_));(·rfl);(·rfl))|refine t1_ ?_|(refine ta_ ?_;intro _)|((fail_if_success (refine ybi rfl ?_));refine ybj rfl ?_ ?_<;>(intro ht;rw [ht];first|replace ht := oet_ ht|replace ht := oef_ ht|skip))|(refine ych ?_;first|(refine ybw rfl ?_ ?_<;>intro ht)|(refine ybx rfl ?_ ?_<;>intro ht)))
    refine nx_round (k + 1, x, .slice (some ⟨g9, 0, none⟩) (k + 1) cap9) ⟨by show k + 1 ≤ n; omega, by rw [eD]; exact px⟩ (by show n - (k + 1) < n - k; omega) ts_ (fun _ s => ?_)
    dsimp only
    rw [eD, bls_app]
    exact s.picks [2, 1, 1, 1]
  · obtain rfl : k = n := by omega
    have e9 : stC k (trp8 s0).2 = trp9 s0 := by unfold trp9; rw [hn, Int.toNat_natCast]
    rw [e9] at ok hlen pv8 ⊢
    repeat' (first|(refine ycf ?_;apply ybk;(·first|(exact tk_));(·rfl);(·rfl))|refine t1_ ?_|(refine ta_ ?_;intro _)|((fail_if_success (refine ybi rfl ?_));refine ybj rfl ?_ ?_<;>(intro ht;rw [ht];first|replace ht := oet_ ht|replace ht := oef_ ht|skip))|(refine ych ?_;first|(refine ybw rfl ?_ ?_<;>intro ht)|(refine ybx rfl ?_ ?_<;>intro ht)))
    refine rx_persistA (fun z hz => by simp [doms, Res.blk] at hz ⊢; exact .inl hz) fun h3 hle3 hsm => ?_
    have hsm : Sc h3 1 mv k (bls (trp9 s0).1) := hsm
    obtain ⟨_, ads, caps, rfl, _, _⟩ := id hsm
    (refine rx_call_m (ycp Tryz.func51 rfl (by kernel_rfl) rfl) (perm_at (k := 0) rfl) (InBytes_sp bi v6 (trp9 s0).2.1 (trp9 s0).2.2 65536 ok.b (by omega) ok.l h3 (pv8.mono hle3)) rfl rfl rfl ?_ ?_ ?_; (· (exact to_)); (· intro _ _ hle; (exact to_)); intro x px hle)
    rw [show byC ((trp9 s0).2.1, (trp9 s0).2.2) 65536 = trp10 s0 from rfl] at px ⊢
    obtain ⟨h4, vr, v7⟩ := x
    obtain ⟨pr, pv9⟩ := px
    have hle4 : Le h3 h4 := hle
    clear hle
    dsimp only at pr pv9 ⊢
    obtain ⟨_, adr, capr, rfl, _, _⟩ := id pr
    repeat' (first|(refine ycf ?_;apply ybk;(·first|(exact tk_));(·rfl);(·rfl))|refine t1_ ?_|(refine ta_ ?_;intro _)|((fail_if_success (refine ybi rfl ?_));refine ybj rfl ?_ ?_<;>(intro ht;rw [ht];first|replace ht := oet_ ht|replace ht := oef_ ht|skip))|(refine ych ?_;first|(refine ybw rfl ?_ ?_<;>intro ht)|(refine ybx rfl ?_ ?_<;>intro ht)))
    refine nx_ret1 rfl (rv_cells rfl (yaz 2 rfl) rfl) (fun w' s' => ⟨(h4, v7, ⟨taC s0, .slice adn (trp6 s0).1.length capn, .slice adv (trp7 s0).1.length capv, .slice ads k caps, .slice adr (trp10 s0).1.length capr⟩), rfl, s'.picks [0], pv9, ⟨?_, ?_, ?_, ?_⟩, rfl⟩)
    · exact ((pn.mono hle2).mono hle3).mono hle4
    · exact (pv.mono hle3).mono hle4
    · show Sc h4 1 _ (trp9 s0).1.length (bls (trp9 s0).1)
      rw [hlen]
      exact hsm.mono hle4
    · exact pr
end Go.Proofs.YtndpclcbobgdlaaGreatDoor
end

section
namespace Go.Proofs.YtndpclcbobgdlaaGreatDoor
open Go Go.Ck
set_option maxHeartbeats 4000000
theorem in34_sp (n b : Int) (h : View) (w : World) (s : St ⟨w, h, []⟩ h [] w) :
    Calls Tryz.prog 33 [.int .i64 n, .int .i64 b].toArray w fun e w' => e = .returned (.bool (decide (0 ≤ n ∧ n ≤ b))) ∧ St ⟨w, h, []⟩ h [] w' := by
  refine calls_enter Tryz.func33 rfl Tryz.ntmps33 rfl s ?_
  by_cases h1 : 0 ≤ n
  · by_cases h2 : n ≤ b
    · have e : decide (0 ≤ n ∧ n ≤ b) = true := by simp [h1, h2]
      rw [e]
      repeat' (first|(refine ycf ?_;apply ybk;(·first|(exact tk_));(·rfl);(·rfl))|refine t1_ ?_|(refine ta_ ?_;intro _)|((fail_if_success (refine ybi rfl ?_));refine ybj rfl ?_ ?_<;>(intro ht;rw [ht];first|replace ht := oet_ ht|replace ht := oef_ ht|skip))|(refine ych ?_;first|(refine ybw rfl ?_ ?_<;>intro ht)|(refine ybx rfl ?_ ?_<;>intro ht)))
      exact nx_ret1 rfl (rv_tmp rfl) (fun w' s' => ⟨rfl, s'⟩)
    · have e : decide (0 ≤ n ∧ n ≤ b) = false := by simp [h2]
      rw [e]
      repeat' (first|(refine ycf ?_;apply ybk;(·first|(exact tk_));(·rfl);(·rfl))|refine t1_ ?_|(refine ta_ ?_;intro _)|((fail_if_success (refine ybi rfl ?_));refine ybj rfl ?_ ?_<;>(intro ht;rw [ht];first|replace ht := oet_ ht|replace ht := oef_ ht|skip))|(refine ych ?_;first|(refine ybw rfl ?_ ?_<;>intro ht)|(refine ybx rfl ?_ ?_<;>intro ht)))
      exact nx_ret1 rfl (rv_tmp rfl) (fun w' s' => ⟨rfl, s'⟩)
  · have e : decide (0 ≤ n ∧ n ≤ b) = false := by simp [h1]
    rw [e]
    repeat' (first|(refine ycf ?_;apply ybk;(·first|(exact tk_));(·rfl);(·rfl))|refine t1_ ?_|(refine ta_ ?_;intro _)|((fail_if_success (refine ybi rfl ?_));refine ybj rfl ?_ ?_<;>(intro ht;rw [ht];first|replace ht := oet_ ht|replace ht := oef_ ht|skip))|(refine ych ?_;first|(refine ybw rfl ?_ ?_<;>intro ht)|(refine ybx rfl ?_ ?_<;>intro ht)))
    exact nx_ret1 rfl (rv_tmp rfl) (fun w' s' => ⟨rfl, s'⟩)
theorem Right34_sp (x : Ts) (h : View) (hx : Rtv h x) (w : World) (s : St ⟨w, h, []⟩ h [] w) :
    Calls Tryz.prog 16 [.agg (rtc x).toArray].toArray w fun e w' => e = .returned (.bool (decide (TaR x.a))) ∧ St ⟨w, h, []⟩ h [] w' := by
  obtain ⟨⟨ki, cl, ha, bo, kk, nm, va, st, ra⟩, nv, vv, sv, rv⟩ := x
  obtain ⟨g1, g2, g3, g4⟩ := hx
  dsimp only at g1 g2 g3 g4
  subst g1 g2 g4
  obtain ⟨_, ads, caps, rfl, _, _⟩ := id g3
  have e : decide (TaR ⟨ki, cl, ha, bo, kk, nm, va, st, ra⟩) = (decide (0 ≤ ki ∧ ki ≤ 255) && (decide (0 ≤ cl ∧ cl ≤ 255) && (decide (0 ≤ ha ∧ ha ≤ 4611686018427387904) && (decide (0 ≤ bo ∧ bo ≤ 4611686018427387904) && (decide (0 ≤ kk ∧ kk ≤ 4611686018427387904) &&
      (decide (((bstr nm).size : Int) ≤ 255) && (decide (((bstr va).size : Int) ≤ 65536) && (decide ((st.length : Int) ≤ 1000) && decide (((bstr ra).size : Int) ≤ 65536))))))))) := by
    rw [Bool.eq_iff_iff, bstr_size, bstr_size, bstr_size]
    simp only [decide_eq_true_eq, Bool.and_eq_true]
    unfold TaR
    dsimp only
    constructor
    · rintro ⟨a, b, c, d, e, f, g, i, j⟩; exact ⟨d, e, a, b, c, by omega, by omega, by omega, by omega⟩
    · rintro ⟨a, b, c, d, e, f, g, i, j⟩; exact ⟨c, d, e, a, b, by omega, by omega, by omega, by omega⟩
  rw [e]
  have W1 := in34_sp ki 255 h
  have W2 := in34_sp cl 255 h
  have W3 := in34_sp ha 4611686018427387904 h
  have W4 := in34_sp bo 4611686018427387904 h
  have W5 := in34_sp kk 4611686018427387904 h
  generalize decide (0 ≤ ki ∧ ki ≤ 255) = b1 at W1 ⊢
  generalize decide (0 ≤ cl ∧ cl ≤ 255) = b2 at W2 ⊢
  generalize decide (0 ≤ ha ∧ ha ≤ 4611686018427387904) = b3 at W3 ⊢
  generalize decide (0 ≤ bo ∧ bo ≤ 4611686018427387904) = b4 at W4 ⊢
  generalize decide (0 ≤ kk ∧ kk ≤ 4611686018427387904) = b5 at W5 ⊢
  refine calls_enter Tryz.func16 rfl Tryz.ntmps16 rfl s ?_
  repeat' (first|(refine ycf ?_;apply ybk;(·first|(exact tk_));(·rfl);(·rfl))|refine t1_ ?_|(refine ta_ ?_;intro _)|((fail_if_success (refine ybi rfl ?_));refine ybj rfl ?_ ?_<;>(intro ht;rw [ht];first|replace ht := oet_ ht|replace ht := oef_ ht|skip))|(refine ych ?_;first|(refine ybw rfl ?_ ?_<;>intro ht)|(refine ybx rfl ?_ ?_<;>intro ht)))
  (refine ycn (ycp Tryz.func33 rfl (by kernel_rfl) rfl) (W1) rfl rfl rfl ?_ ?_; (· (exact to_)))
  cases b1
  · repeat' (first|(refine ycf ?_;apply ybk;(·first|(exact tk_));(·rfl);(·rfl))|refine t1_ ?_|(refine ta_ ?_;intro _)|((fail_if_success (refine ybi rfl ?_));refine ybj rfl ?_ ?_<;>(intro ht;rw [ht];first|replace ht := oet_ ht|replace ht := oef_ ht|skip))|(refine ych ?_;first|(refine ybw rfl ?_ ?_<;>intro ht)|(refine ybx rfl ?_ ?_<;>intro ht)))
    exact nx_ret1 rfl (rv_tmp rfl) (fun w' s' => ⟨rfl, s'.nil⟩)
  repeat' (first|(refine ycf ?_;apply ybk;(·first|(exact tk_));(·rfl);(·rfl))|refine t1_ ?_|(refine ta_ ?_;intro _)|((fail_if_success (refine ybi rfl ?_));refine ybj rfl ?_ ?_<;>(intro ht;rw [ht];first|replace ht := oet_ ht|replace ht := oef_ ht|skip))|(refine ych ?_;first|(refine ybw rfl ?_ ?_<;>intro ht)|(refine ybx rfl ?_ ?_<;>intro ht)))
  (refine ycn (ycp Tryz.func33 rfl (by kernel_rfl) rfl) (W2) rfl rfl rfl ?_ ?_; (· (exact to_)))
  cases b2
  · repeat' (first|(refine ycf ?_;apply ybk;(·first|(exact tk_));(·rfl);(·rfl))|refine t1_ ?_|(refine ta_ ?_;intro _)|((fail_if_success (refine ybi rfl ?_));refine ybj rfl ?_ ?_<;>(intro ht;rw [ht];first|replace ht := oet_ ht|replace ht := oef_ ht|skip))|(refine ych ?_;first|(refine ybw rfl ?_ ?_<;>intro ht)|(refine ybx rfl ?_ ?_<;>intro ht)))
    exact nx_ret1 rfl (rv_tmp rfl) (fun w' s' => ⟨rfl, s'.nil⟩)
  repeat' (first|(refine ycf ?_;apply ybk;(·first|(exact tk_));(·rfl);(·rfl))|refine t1_ ?_|(refine ta_ ?_;intro _)|((fail_if_success (refine ybi rfl ?_));refine ybj rfl ?_ ?_<;>(intro ht;rw [ht];first|replace ht := oet_ ht|replace ht := oef_ ht|skip))|(refine ych ?_;first|(refine ybw rfl ?_ ?_<;>intro ht)|(refine ybx rfl ?_ ?_<;>intro ht)))
  (refine ycn (ycp Tryz.func33 rfl (by kernel_rfl) rfl) (W3) rfl rfl rfl ?_ ?_; (· (exact to_)))
  cases b3
  · repeat' (first|(refine ycf ?_;apply ybk;(·first|(exact tk_));(·rfl);(·rfl))|refine t1_ ?_|(refine ta_ ?_;intro _)|((fail_if_success (refine ybi rfl ?_));refine ybj rfl ?_ ?_<;>(intro ht;rw [ht];first|replace ht := oet_ ht|replace ht := oef_ ht|skip))|(refine ych ?_;first|(refine ybw rfl ?_ ?_<;>intro ht)|(refine ybx rfl ?_ ?_<;>intro ht)))
    exact nx_ret1 rfl (rv_tmp rfl) (fun w' s' => ⟨rfl, s'.nil⟩)
  repeat' (first|(refine ycf ?_;apply ybk;(·first|(exact tk_));(·rfl);(·rfl))|refine t1_ ?_|(refine ta_ ?_;intro _)|((fail_if_success (refine ybi rfl ?_));refine ybj rfl ?_ ?_<;>(intro ht;rw [ht];first|replace ht := oet_ ht|replace ht := oef_ ht|skip))|(refine ych ?_;first|(refine ybw rfl ?_ ?_<;>intro ht)|(refine ybx rfl ?_ ?_<;>intro ht)))
  (refine ycn (ycp Tryz.func33 rfl (by kernel_rfl) rfl) (W4) rfl rfl rfl ?_ ?_; (· (exact to_)))
  cases b4
  · repeat' (first|(refine ycf ?_;apply ybk;(·first|(exact tk_));(·rfl);(·rfl))|refine t1_ ?_|(refine ta_ ?_;intro _)|((fail_if_success (refine ybi rfl ?_));refine ybj rfl ?_ ?_<;>(intro ht;rw [ht];first|replace ht := oet_ ht|replace ht := oef_ ht|skip))|(refine ych ?_;first|(refine ybw rfl ?_ ?_<;>intro ht)|(refine ybx rfl ?_ ?_<;>intro ht)))
    exact nx_ret1 rfl (rv_tmp rfl) (fun w' s' => ⟨rfl, s'.nil⟩)
  repeat' (first|(refine ycf ?_;apply ybk;(·first|(exact tk_));(·rfl);(·rfl))|refine t1_ ?_|(refine ta_ ?_;intro _)|((fail_if_success (refine ybi rfl ?_));refine ybj rfl ?_ ?_<;>(intro ht;rw [ht];first|replace ht := oet_ ht|replace ht := oef_ ht|skip))|(refine ych ?_;first|(refine ybw rfl ?_ ?_<;>intro ht)|(refine ybx rfl ?_ ?_<;>intro ht)))
  (refine ycn (ycp Tryz.func33 rfl (by kernel_rfl) rfl) (W5) rfl rfl rfl ?_ ?_; (· (exact to_)))
  cases b5
  · repeat' (first|(refine ycf ?_;apply ybk;(·first|(exact tk_));(·rfl);(·rfl))|refine t1_ ?_|(refine ta_ ?_;intro _)|((fail_if_success (refine ybi rfl ?_));refine ybj rfl ?_ ?_<;>(intro ht;rw [ht];first|replace ht := oet_ ht|replace ht := oef_ ht|skip))|(refine ych ?_;first|(refine ybw rfl ?_ ?_<;>intro ht)|(refine ybx rfl ?_ ?_<;>intro ht)))
    exact nx_ret1 rfl (rv_tmp rfl) (fun w' s' => ⟨rfl, s'.nil⟩)
  repeat' (first|(refine ycf ?_;apply ybk;(·first|(exact tk_));(·rfl);(·rfl))|refine t1_ ?_|(refine ta_ ?_;intro _)|((fail_if_success (refine ybi rfl ?_));refine ybj rfl ?_ ?_<;>(intro ht;rw [ht];first|replace ht := oet_ ht|replace ht := oef_ ht|skip))|(refine ych ?_;first|(refine ybw rfl ?_ ?_<;>intro ht)|(refine ybx rfl ?_ ?_<;>intro ht)))
  all_goals exact nx_ret1 rfl (rv_tmp rfl) (fun w' s' => ⟨by simp [*], s'.nil⟩)
end Go.Proofs.YtndpclcbobgdlaaGreatDoor
end

section
namespace Go.Proofs.YtndpclcbobgdlaaGreatDoor
open Go Go.Ck
set_option maxHeartbeats 4000000
theorem TRead_sp (sv : Value) (l : List Int) (hb : Bytes l) (hl : l.length ≤ 1000000) (h : View) (hs : Bs8 h sv l) (w : World) (s : St ⟨w, h, []⟩ h [] w) :
    Calls Tryz.prog 11 [sv].toArray w fun en w' => ∃ x : View × Value × List Ts, en = .returned (.tuple #[x.2.1, .int .i64 (if (trS l).1 = true then 0 else 2)]) ∧ St ⟨w, h, []⟩ x.1 [] w' ∧ (Tss x.1 x.2.1 x.2.2 ∧ x.2.2.map Ts.a = (trS l).2) := by
  have hok0 : RsOk (tmS l).2 := tmS_ok hb hl
  have hbd := tmS_bd hb hl
  refine calls_enter Tryz.func11 rfl Tryz.ntmps11 rfl s ?_
  repeat' (first|refine tw_ ?_|(refine ta_ ?_;intro _)|((fail_if_success (refine ybi rfl ?_));refine ybj rfl ?_ ?_<;>(intro ht;rw [ht];first|replace ht := oet_ ht|replace ht := oef_ ht|skip))|(refine ych ?_;first|(refine ybw rfl ?_ ?_<;>intro ht)|(refine ybx rfl ?_ ?_<;>intro ht)))
  (refine yco (ycp Tryz.func24 rfl (by kernel_rfl) rfl) (Of_sp sv l (by omega) h hs) rfl rfl rfl ?_ ?_ ?_; (· (exact to_)); (· intro _ _ hle; (exact to_)); intro x px hle)
  obtain ⟨h1, bi, v⟩ := x
  replace hle : Le h h1 := hle
  have hv1 : Bs8 h1 v l := px
  have hs1 := hle
  clear px hle
  repeat' (first|refine tw_ ?_|(refine ta_ ?_;intro _)|((fail_if_success (refine ybi rfl ?_));refine ybj rfl ?_ ?_<;>(intro ht;rw [ht];first|replace ht := oet_ ht|replace ht := oef_ ht|skip))|(refine ych ?_;first|(refine ybw rfl ?_ ?_<;>intro ht)|(refine ybx rfl ?_ ?_<;>intro ht)))
  (refine rx_call_m (ycp Tryz.func25 rfl (by kernel_rfl) rfl) (perm_at (k := 0) rfl) (InNum_sp bi v l 0 1000 hb (by omega) (by omega) h1 hv1) rfl rfl rfl ?_ ?_ ?_; (· (exact to_)); (· intro _ _ hle; (exact to_)); intro x px hle)
  have px : Bs8 h1 x (tmS l).2.1 := px
  have eM : numC (l, 0) 8 1000 = tmS l := rfl
  rw [eM]
  have eS : trS l = if endC (tsC (tmS l).1.toNat (tmS l).2).2 = 0 then (true, (tsC (tmS l).1.toNat (tmS l).2).1) else (false, []) := rfl
  rw [eS]
  clear eS eM
  generalize tmS l = M at hok0 hbd px ⊢
  obtain ⟨nv, st⟩ := M
  dsimp only at hok0 hbd px ⊢
  obtain ⟨n, rfl⟩ : ∃ n : Nat, nv = n := ⟨nv.toNat, by omega⟩
  rw [Int.toNat_natCast]
  repeat' (first|refine tw_ ?_|(refine ta_ ?_;intro _)|((fail_if_success (refine ybi rfl ?_));refine ybj rfl ?_ ?_<;>(intro ht;rw [ht];first|replace ht := oet_ ht|replace ht := oef_ ht|skip))|(refine ych ?_;first|(refine ybw rfl ?_ ?_<;>intro ht)|(refine ybx rfl ?_ ?_<;>intro ht)))
  refine cx_row 39 9 ?_
  refine cx_loop (X := Nat × View × Value × Value × List Ts)
    (fun y => [(2, .slice none 0 0), (3, .int .i64 0), (4, .pointer (some ⟨bi, 0, none⟩)), (5, y.2.2.2.1), (9, .int .i64 (n : Nat)), (10, .int .i64 (y.1 : Nat))])
    (fun y => y.2.1) (fun y => [Res.row 39 9 y.2.2.2.1 y.1 (y.2.2.2.2.flatMap tsc), inR bi y.2.2.1 (tsC y.1 st).2.2])
    (fun y => y.1 ≤ n ∧ Le h1 y.2.1 ∧ Bs8 y.2.1 y.2.2.1 (tsC y.1 st).2.1 ∧ (∀ z ∈ y.2.2.2.2, Tsv y.2.1 z) ∧ y.2.2.2.2.map Ts.a = (tsC y.1 st).1)
    (fun y => n - y.1) (0, h1, x, .slice none 0 0, []) ⟨Nat.zero_le _, Le.refl _, px, (fun z hz => by cases hz), rfl⟩ ts_ (fun _ s => s) ?_
  rintro ⟨k, hk, v, mv, zs⟩ ⟨q1, q2, q3, q4, q5⟩
  dsimp only at q1 q2 q3 q4 q5 ⊢
  clear px hle
  obtain ⟨hok, hlen⟩ := tsC_ok hok0 k
  by_cases hkn : k < n
  · have eD : tsC (k + 1) st = ((tsC k st).1 ++ [taC (tsC k st).2], (trp10 (tsC k st).2).2) := rfl
    generalize tsC k st = D at hok hlen q3 q5 eD ⊢
    obtain ⟨A, ss⟩ := D
    dsimp only at hok hlen q3 q5 eD ⊢
    repeat' (first|(refine ycf ?_;apply ybk;(·first|(exact tk_));(·rfl);(·rfl))|refine t1_ ?_|(refine ta_ ?_;intro _)|((fail_if_success (refine ybi rfl ?_));refine ybj rfl ?_ ?_<;>(intro ht;rw [ht];first|replace ht := oet_ ht|replace ht := oef_ ht|skip))|(refine ych ?_;first|(refine ybw rfl ?_ ?_<;>intro ht)|(refine ybx rfl ?_ ?_<;>intro ht)))
    (refine rx_call_m (ycp Tryz.func26 rfl (by kernel_rfl) rfl) (perm_at (k := 1) rfl) (ttake_sp bi v ss hok hk q3) rfl rfl rfl ?_ ?_ ?_; (· (exact to_)); (· intro _ _ hle; (exact to_)); intro x px hle)
    obtain ⟨h2, v2, z⟩ := x
    obtain ⟨p1, p2, p3⟩ := px
    have hle2 : Le hk h2 := hle
    clear hle
    dsimp only at p1 p2 p3 ⊢
    repeat' (first|(refine ycf ?_;apply ybk;(·first|(exact tk_));(·rfl);(·rfl))|refine t1_ ?_|(refine ta_ ?_;intro _)|((fail_if_success (refine ybi rfl ?_));refine ybj rfl ?_ ?_<;>(intro ht;rw [ht];first|replace ht := oet_ ht|replace ht := oef_ ht|skip))|(refine ych ?_;first|(refine ybw rfl ?_ ?_<;>intro ht)|(refine ybx rfl ?_ ?_<;>intro ht)))
    refine rx_append (sz := 9) 2 rfl rfl rfl (yaz 0 rfl) rfl (fun u hu => p2.ones u hu) rfl (by omega) (by unfold maxLen; omega) (by omega) rfl rfl rfl ybf (fun _ => ybf) ?_
    intro v9 _
    repeat' (first|(refine ycf ?_;apply ybk;(·first|(exact tk_));(·rfl);(·rfl))|refine t1_ ?_|(refine ta_ ?_;intro _)|((fail_if_success (refine ybi rfl ?_));refine ybj rfl ?_ ?_<;>(intro ht;rw [ht];first|replace ht := oet_ ht|replace ht := oef_ ht|skip))|(refine ych ?_;first|(refine ybw rfl ?_ ?_<;>intro ht)|(refine ybx rfl ?_ ?_<;>intro ht)))
    refine nx_round (k + 1, h2, v2, v9, zs ++ [z]) ⟨by show k + 1 ≤ n; omega, q2.trans hle2, by rw [eD]; exact p1, fun y hy => ?_, by rw [eD, List.map_append, q5, ← p3]; rfl⟩ (by show n - (k + 1) < n - k; omega) ts_ (fun _ s => ?_)
    · rcases List.mem_append.1 hy with hy | hy
      · exact (q4 y hy).mono hle2
      · rw [List.mem_singleton.1 hy]; exact p2
    · dsimp only
      rw [eD, List.flatMap_append, show [z].flatMap tsc = tsc z by simp]
      exact s.picks [2, 1]
  · obtain rfl : k = n := by omega
    have hzl : zs.length = k := by rw [← hlen, ← q5, List.length_map]
    generalize tsC k st = D at hok hlen q3 q5 ⊢
    obtain ⟨A, ls, e⟩ := D
    dsimp only at hok hlen q3 q5 ⊢
    repeat' (first|(refine ycf ?_;apply ybk;(·first|(exact tk_));(·rfl);(·rfl))|refine t1_ ?_|(refine ta_ ?_;intro _)|((fail_if_success (refine ybi rfl ?_));refine ybj rfl ?_ ?_<;>(intro ht;rw [ht];first|replace ht := oet_ ht|replace ht := oef_ ht|skip))|(refine ych ?_;first|(refine ybw rfl ?_ ?_<;>intro ht)|(refine ybx rfl ?_ ?_<;>intro ht)))
    refine rx_persist rfl fun h6 hle6 hsm => ?_
    rw [← hzl] at hsm
    have S6 : Tss h6 mv zs := ⟨hsm, fun z hz => (q4 z hz).mono hle6⟩
    obtain ⟨_, ad6, cap6, rfl, _, _⟩ := id S6.1
    (refine rx_call_m (ycp Tryz.func27 rfl (by kernel_rfl) rfl) (perm_at (k := 0) rfl) (End_sp bi v ls e h6 (q3.mono hle6)) rfl rfl rfl ?_ ?_ ?_; (· (exact to_)); (· intro _ _ hle; (exact to_)); intro x px hle)
    by_cases hE : endC (ls, e) = 0
    · rw [hE, if_pos rfl]
      repeat' (first|(refine ycf ?_;apply ybk;(·first|(exact tk_));(·rfl);(·rfl))|refine t1_ ?_|(refine ta_ ?_;intro _)|((fail_if_success (refine ybi rfl ?_));refine ybj rfl ?_ ?_<;>(intro ht;rw [ht];first|replace ht := oet_ ht|replace ht := oef_ ht|skip))|(refine ych ?_;first|(refine ybw rfl ?_ ?_<;>intro ht)|(refine ybx rfl ?_ ?_<;>intro ht)))
      exact nx_ret2 rfl (rv_tmp rfl) (rv_tmp rfl) (fun w' s' => ⟨(h6, _, zs), rfl, s'.nil, S6, q5⟩)
    · rw [if_neg hE]
      generalize endC (ls, e) = ez at hE ⊢
      repeat' (first|(refine ycf ?_;apply ybk;(·first|(exact tk_));(·rfl);(·rfl))|refine t1_ ?_|(refine ta_ ?_;intro _)|((fail_if_success (refine ybi rfl ?_));refine ybj rfl ?_ ?_<;>(intro ht;rw [ht];first|replace ht := oet_ ht|replace ht := oef_ ht|skip))|(refine ych ?_;first|(refine ybw rfl ?_ ?_<;>intro ht)|(refine ybx rfl ?_ ?_<;>intro ht)))
      exact nx_ret2 rfl (rv_tmp rfl) (rv_tmp rfl) (fun w' s' => ⟨(h6, .slice none 0 0, []), rfl, s'.nil, ⟨Sc.nil h6 9 none 0, fun z hz => by cases hz⟩, rfl⟩)
end Go.Proofs.YtndpclcbobgdlaaGreatDoor
end

section
namespace Go.Proofs.YtndpclcbobgdlaaGreatDoor
open Go Go.Ck
set_option maxHeartbeats 2000000
theorem byC_put {b r : List Int} {most : Int} (hl : (b.length : Int) ≤ most) (h4 : b.length < 4294967296) : byC (num4 (b.length : Int) ++ b ++ r, 0) most = (b, (r, 0)) := by
  have h1 : lookC (num4 (b.length : Int) ++ b ++ r) 4 most = ((b.length : Int), 0) := by
    have := numC_put (size := 4) (x := (b.length : Int)) (most := most) (r := b ++ r) (by omega) hl (by
      have e : (256 : Int) ^ 4 = 4294967296 := by decide
      rw [e]; omega)
    unfold numC at this
    rw [if_neg (by simp)] at this
    dsimp only at this
    rw [show (putLow 4 (b.length : Int)).reverse ++ (b ++ r) = num4 (b.length : Int) ++ b ++ r by rw [List.append_assoc]; rfl] at this
    split at this
    · rename_i hz
      have e1 := congrArg Prod.fst this
      dsimp only at e1
      exact Prod.ext e1 hz
    · rename_i hz
      have e2 := congrArg (fun p => p.2.2) this
      exact absurd e2 hz
  have hlen : (num4 (b.length : Int) ++ b ++ r).length = 4 + b.length + r.length := by simp only [List.length_append, num4_len]
  have hd : (num4 (b.length : Int) ++ b ++ r).drop 4 = b ++ r := by
    rw [List.append_assoc, List.drop_append_of_le_length (by rw [num4_len]; exact Nat.le_refl _), List.drop_of_length_le (by rw [num4_len]; exact Nat.le_refl _), List.nil_append]
  unfold byC
  rw [if_neg (by simp)]
  dsimp only
  rw [h1, if_neg (by simp)]
  dsimp only
  rw [hlen, Int.toNat_natCast, if_neg (by omega), hd]
  rw [List.take_left, List.drop_left]
end Go.Proofs.YtndpclcbobgdlaaGreatDoor
end

section
namespace Go.Proofs.YtndpclcbobgdlaaGreatDoor
open Go Go.Ck
set_option maxHeartbeats 2000000
theorem numC_p1 {x most : Int} {r : List Int} (h0 : 0 ≤ x) (h1 : x ≤ most) (h2 : x < 256) : numC (num1 x ++ r, 0) 1 most = (x, (r, 0)) := numC_put h0 h1 (by simpa using h2)
theorem numC_p8 {x most : Int} {r : List Int} (h0 : 0 ≤ x) (h1 : x ≤ most) (h2 : x < 18446744073709551616) : numC (num8 x ++ r, 0) 8 most = (x, (r, 0)) :=
  numC_put h0 h1 (by have : (256 : Int) ^ 8 = 18446744073709551616 := by decide
                     rw [this]; exact h2)
theorem flagI_bd (b : Bool) : 0 ≤ flagI b ∧ flagI b ≤ 1 := by cases b <;> decide
theorem flagI_dec (b : Bool) : decide (flagI b = 1) = b := by cases b <;> rfl
theorem stC_put (st : List Bool) (r : List Int) : ∀ k, k ≤ st.length → stC k (encF st ++ r, 0) = (st.take k, (encF (st.drop k) ++ r, 0))
  | 0, _ => by simp [stC]
  | k + 1, hk => by
    have ih := stC_put st r k (by omega)
    have hlt : k < st.length := by omega
    have hd : st.drop k = st[k] :: st.drop (k + 1) := List.drop_eq_getElem_cons hlt
    have e : encF (st.drop k) ++ r = num1 (flagI st[k]) ++ (encF (st.drop (k + 1)) ++ r) := by
      rw [hd]
      unfold encF
      rw [List.flatMap_cons, List.append_assoc]
    have hb := flagI_bd st[k]
    unfold stC
    rw [ih]
    dsimp only
    rw [e, numC_p1 hb.1 hb.2 (by omega)]
    dsimp only
    rw [flagI_dec, List.take_succ_eq_append_getElem hlt]
theorem trp_put {a : Ta} (h : TaOk a) (r : List Int) : taC (encT a ++ r, 0) = a ∧ (trp10 (encT a ++ r, 0)).2 = (r, 0) := by
  obtain ⟨ki, cl, ha, bo, k, nm, va, st, ra⟩ := a
  obtain ⟨h1, h2, h3, h4, h5, h6, h7, h8, h9⟩ := h
  dsimp only at h1 h2 h3 h4 h5 h6 h7 h8 h9
  have e0 : encT ⟨ki, cl, ha, bo, k, nm, va, st, ra⟩ ++ r = num1 ki ++ (num1 cl ++ (num8 ha ++ (num8 bo ++ (num8 k ++ (num4 nm.length ++ nm ++ (num4 va.length ++ va ++ (num8 st.length ++ (encF st ++ (num4 ra.length ++ ra ++ r))))))))) := by
    unfold encT
    simp only [List.append_assoc]
  rw [e0]
  generalize hS : (num1 ki ++ (num1 cl ++ (num8 ha ++ (num8 bo ++ (num8 k ++ (num4 nm.length ++ nm ++ (num4 va.length ++ va ++ (num8 st.length ++ (encF st ++ (num4 ra.length ++ ra ++ r)))))))))) = S
  have E1 : trp1 (S, 0) = (ki, (num1 cl ++ (num8 ha ++ (num8 bo ++ (num8 k ++ (num4 nm.length ++ nm ++ (num4 va.length ++ va ++ (num8 st.length ++ (encF st ++ (num4 ra.length ++ ra ++ r))))))))), 0) := by rw [← hS]; exact numC_p1 h1.1 h1.2 (by omega)
  have E2 : trp2 (S, 0) = (cl, (num8 ha ++ (num8 bo ++ (num8 k ++ (num4 nm.length ++ nm ++ (num4 va.length ++ va ++ (num8 st.length ++ (encF st ++ (num4 ra.length ++ ra ++ r)))))))), 0) := by unfold trp2; rw [E1]; exact numC_p1 h2.1 h2.2 (by omega)
  have E3 : trp3 (S, 0) = (ha, (num8 bo ++ (num8 k ++ (num4 nm.length ++ nm ++ (num4 va.length ++ va ++ (num8 st.length ++ (encF st ++ (num4 ra.length ++ ra ++ r))))))), 0) := by unfold trp3; rw [E2]; exact numC_p8 h3.1 h3.2 (by omega)
  have E4 : trp4 (S, 0) = (bo, (num8 k ++ (num4 nm.length ++ nm ++ (num4 va.length ++ va ++ (num8 st.length ++ (encF st ++ (num4 ra.length ++ ra ++ r)))))), 0) := by unfold trp4; rw [E3]; exact numC_p8 h4.1 h4.2 (by omega)
  have E5 : trp5 (S, 0) = (k, (num4 nm.length ++ nm ++ (num4 va.length ++ va ++ (num8 st.length ++ (encF st ++ (num4 ra.length ++ ra ++ r))))), 0) := by unfold trp5; rw [E4]; exact numC_p8 h5.1 h5.2 (by omega)
  have E6 : trp6 (S, 0) = (nm, (num4 va.length ++ va ++ (num8 st.length ++ (encF st ++ (num4 ra.length ++ ra ++ r)))), 0) := by unfold trp6; rw [E5]; exact byC_put (by omega) (by omega)
  have E7 : trp7 (S, 0) = (va, (num8 st.length ++ (encF st ++ (num4 ra.length ++ ra ++ r))), 0) := by unfold trp7; rw [E6]; exact byC_put (by omega) (by omega)
  have E8 : trp8 (S, 0) = ((st.length : Int), (encF st ++ (num4 ra.length ++ ra ++ r)), 0) := by unfold trp8; rw [E7]; exact numC_p8 (by omega) (by omega) (by omega)
  have E9 : trp9 (S, 0) = (st, num4 ra.length ++ ra ++ r, 0) := by
    unfold trp9
    rw [E8]
    dsimp only
    rw [Int.toNat_natCast, stC_put st _ st.length (Nat.le_refl _), List.take_length, List.drop_length]
    rfl
  have E10 : trp10 (S, 0) = (ra, r, 0) := by unfold trp10; rw [E9]; exact byC_put (by omega) (by omega)
  refine ⟨?_, by rw [E10]⟩
  unfold taC
  rw [E1, E2, E3, E4, E5, E6, E7, E9, E10]
theorem tsC_put {l : List Ta} (hl : ∀ a ∈ l, TaOk a) (r : List Int) : ∀ k, k ≤ l.length → tsC k (l.flatMap encT ++ r, 0) = (l.take k, ((l.drop k).flatMap encT ++ r, 0))
  | 0, _ => by simp [tsC]
  | k + 1, hk => by
    have ih := tsC_put hl r k (by omega)
    have hlt : k < l.length := by omega
    have hd : l.drop k = l[k] :: l.drop (k + 1) := List.drop_eq_getElem_cons hlt
    have e : (l.drop k).flatMap encT ++ r = encT l[k] ++ ((l.drop (k + 1)).flatMap encT ++ r) := by
      rw [hd, List.flatMap_cons, List.append_assoc]
    obtain ⟨p1, p2⟩ := trp_put (hl _ (List.getElem_mem hlt)) ((l.drop (k + 1)).flatMap encT ++ r)
    unfold tsC
    rw [ih]
    dsimp only
    rw [e, p1, p2, List.take_succ_eq_append_getElem hlt]
theorem trS_put {l : List Ta} (hl : ∀ a ∈ l, TaOk a) (hn : l.length ≤ 1000) : trS (encL l) = (true, l) := by
  have e1 : tmS (encL l) = ((l.length : Int), l.flatMap encT, 0) := numC_p8 (by omega) (by omega) (by omega)
  have e2 : trC (encL l) = (l, [], 0) := by
    have := tsC_put hl [] l.length (Nat.le_refl _)
    rw [List.append_nil, List.take_length, List.drop_length] at this
    unfold trC
    rw [e1]
    dsimp only
    rw [Int.toNat_natCast, this]
    rfl
  unfold trS
  rw [e2]
  rfl
end Go.Proofs.YtndpclcbobgdlaaGreatDoor
end

section
namespace Go.Proofs.YtndpclcbobgdlaaGreatDoor
open Go Go.Ck
set_option maxHeartbeats 4000000
theorem hd_at3 {h : View} {L : List Res} {A : Res} (k : Nat) (hk : L[k]? = some A) : ∀ w, Hd h L w → Hd h [A] w := fun w s => Hd.sub s (Le.refl h) (fun r hr => by rw [List.mem_singleton.1 hr]; exact List.mem_of_getElem? hk)
theorem num8_lenT (x : Int) : (num8 x).length = 8 := by simp [num8, putLow_len]
theorem num1_lenT (x : Int) : (num1 x).length = 1 := by simp [num1, putLow_len]
theorem encF_len (l : List Bool) : (encF l).length = l.length := by
  induction l with
  | nil => rfl
  | cons b l ih =>
    show (num1 (flagI b) ++ encF l).length = _
    rw [List.length_append, num1_lenT, ih, List.length_cons]
    omega
theorem encT_len (a : Ta) : (encT a).length = 46 + a.name.length + a.value.length + a.stay.length + a.raw.length := by
  unfold encT
  simp only [List.length_append, num1_lenT, num8_lenT, num4_len, encF_len]
  omega
theorem encF_take (l : List Bool) (k : Nat) (hk : k < l.length) : encF (l.take (k + 1)) = encF (l.take k) ++ num1 (flagI l[k]) := by
  rw [List.take_succ_eq_append_getElem hk]
  unfold encF
  rw [List.flatMap_append, List.flatMap_cons, List.flatMap_nil, List.append_nil]
theorem tput_sp (bo : Nat) (v : Value) (l : List Int) (x : Ts) (ok : TaR x.a) (hl : l.length + (encT x.a).length ≤ 1000000) (h : View) (hx : Tsv h x) (w : World) (s : St ⟨w, h, doms [outR bo v false, rowB v l]⟩ h [outR bo v false, rowB v l] w) :
    Calls Tryz.prog 21 [.pointer (some ⟨bo, 0, none⟩), .agg (tsc x).toArray].toArray w fun e w' => ∃ y : Value, e = .returned (.tuple #[]) ∧ St ⟨w, h, doms [outR bo v false, rowB v l]⟩ h [outR bo y false, rowB y (l ++ encT x.a)] w' ∧ True := by
  obtain ⟨⟨ki, cl, ha, bx, kk, nm, va, st, ra⟩, nv, vv, sv, rv⟩ := x
  obtain ⟨g1, g2, g3, g4⟩ := hx
  rw [encT_len] at hl
  obtain ⟨o1, o2, o3, o4, o5, o6, o7, o8, o9⟩ := ok
  dsimp only at g1 g2 g3 g4 hl o1 o2 o3 o4 o5 o6 o7 o8 o9
  obtain ⟨_, adn, capn, rfl, _, _⟩ := id g1
  obtain ⟨_, adv, capv, rfl, _, _⟩ := id g2
  obtain ⟨_, ads, caps, rfl, _, _⟩ := id g3
  obtain ⟨_, adr, capr, rfl, _, _⟩ := id g4
  refine calls_enter Tryz.func21 rfl Tryz.ntmps21 rfl s ?_
  repeat' (first|refine tw_ ?_|(refine ta_ ?_;intro _)|((fail_if_success (refine ybi rfl ?_));refine ybj rfl ?_ ?_<;>(intro ht;rw [ht];first|replace ht := oet_ ht|replace ht := oef_ ht|skip))|(refine ych ?_;first|(refine ybw rfl ?_ ?_<;>intro ht)|(refine ybx rfl ?_ ?_<;>intro ht)))
  rename_i b3
  refine cx_perm (L' := [outR bo v false, rowB v l, Res.blk b3 (.cells (tsc ⟨⟨ki, cl, ha, bx, kk, nm, va, st, ra⟩, .slice adn nm.length capn, .slice adv va.length capv, .slice ads st.length caps, .slice adr ra.length capr⟩).toArray 39 (0, 0))]) (List.perm_append_comm (l₁ := [_]) (l₂ := [_, _])) ?_
  refine cx_region_draw [Res.blk b3 (.cells (tsc ⟨⟨ki, cl, ha, bx, kk, nm, va, st, ra⟩, .slice adn nm.length capn, .slice adv va.length capv, .slice ads st.length caps, .slice adr ra.length capr⟩).toArray 39 (0, 0))] rfl (by kernel_rfl) ?_
  repeat' (refine ycf ?_;(first|(first|(apply ybm;(·(first|(apply yae;(·rfl);(·(exact yay 2 rfl rfl)))|exact tq_));(·rfl);(·rfl);(·(first|exact hd_at3 2 rfl)))|refine ybl rfl rfl ?_|((fail_if_success (refine ybi rfl ?_));refine ybj rfl ?_ ?_<;>(intro ht;rw [ht];first|replace ht := oet_ ht|replace ht := oef_ ht|skip))|(refine tb_ ?_ ?_ ?_;(·(first|exact ybf|(refine .inl ?_;(first|exact hd_at3 2 rfl))|exact to_));(·intro _;(first|exact ybf|(refine .inl ?_;(first|exact hd_at3 2 rfl))|exact to_));intro _)|(first|(refine tqs_ ?_ ?_ ?_;(·(first|exact ybf|(refine .inl ?_;(first|exact hd_at3 2 rfl))|exact to_));(·(first|exact ybf|(refine .inl ?_;(first|exact hd_at3 2 rfl))|exact to_))))|(apply ybn;(·(first|(apply yae;(·rfl);(·(exact yay 2 rfl rfl)))|exact tq_));(·rfl);(·rfl);(·rfl);(·(first|exact ybf|(refine .inl ?_;(first|exact hd_at3 2 rfl))|exact to_))))|refine ycg ?_))
  (refine rx_call_2 (ycp Tryz.func37 rfl (by kernel_rfl) rfl) (OutSmall_sp bo v l false ki (by omega) (by omega) (by omega) h) rfl rfl rfl ?_ ?_ ?_;(·(first|exact ybf|(refine .inl ?_;(first|exact hd_at3 2 rfl))|exact to_));(·intro _ _ hle;(first|exact ybf|(refine .inl ?_;(first|exact hd_at3 2 rfl))|exact to_));intro x px hle)
  repeat' (refine ycf ?_;(first|(first|(apply ybm;(·(first|(apply yae;(·rfl);(·(exact yay 2 rfl rfl)))|exact tq_));(·rfl);(·rfl);(·(first|exact hd_at3 2 rfl)))|refine ybl rfl rfl ?_|((fail_if_success (refine ybi rfl ?_));refine ybj rfl ?_ ?_<;>(intro ht;rw [ht];first|replace ht := oet_ ht|replace ht := oef_ ht|skip))|(refine tb_ ?_ ?_ ?_;(·(first|exact ybf|(refine .inl ?_;(first|exact hd_at3 2 rfl))|exact to_));(·intro _;(first|exact ybf|(refine .inl ?_;(first|exact hd_at3 2 rfl))|exact to_));intro _)|(first|(refine tqs_ ?_ ?_ ?_;(·(first|exact ybf|(refine .inl ?_;(first|exact hd_at3 2 rfl))|exact to_));(·(first|exact ybf|(refine .inl ?_;(first|exact hd_at3 2 rfl))|exact to_))))|(apply ybn;(·(first|(apply yae;(·rfl);(·(exact yay 2 rfl rfl)))|exact tq_));(·rfl);(·rfl);(·rfl);(·(first|exact ybf|(refine .inl ?_;(first|exact hd_at3 2 rfl))|exact to_))))|refine ycg ?_))
  (refine rx_call_2 (ycp Tryz.func37 rfl (by kernel_rfl) rfl) (OutSmall_sp bo x _ false cl (by omega) (by omega) (by simp only [List.length_append, List.length_reverse, putLow_len];omega) h) rfl rfl rfl ?_ ?_ ?_;(·(first|exact ybf|(refine .inl ?_;(first|exact hd_at3 2 rfl))|exact to_));(·intro _ _ hle;(first|exact ybf|(refine .inl ?_;(first|exact hd_at3 2 rfl))|exact to_));intro x px hle)
  repeat' (refine ycf ?_;(first|(first|(apply ybm;(·(first|(apply yae;(·rfl);(·(exact yay 2 rfl rfl)))|exact tq_));(·rfl);(·rfl);(·(first|exact hd_at3 2 rfl)))|refine ybl rfl rfl ?_|((fail_if_success (refine ybi rfl ?_));refine ybj rfl ?_ ?_<;>(intro ht;rw [ht];first|replace ht := oet_ ht|replace ht := oef_ ht|skip))|(refine tb_ ?_ ?_ ?_;(·(first|exact ybf|(refine .inl ?_;(first|exact hd_at3 2 rfl))|exact to_));(·intro _;(first|exact ybf|(refine .inl ?_;(first|exact hd_at3 2 rfl))|exact to_));intro _)|(first|(refine tqs_ ?_ ?_ ?_;(·(first|exact ybf|(refine .inl ?_;(first|exact hd_at3 2 rfl))|exact to_));(·(first|exact ybf|(refine .inl ?_;(first|exact hd_at3 2 rfl))|exact to_))))|(apply ybn;(·(first|(apply yae;(·rfl);(·(exact yay 2 rfl rfl)))|exact tq_));(·rfl);(·rfl);(·rfl);(·(first|exact ybf|(refine .inl ?_;(first|exact hd_at3 2 rfl))|exact to_))))|refine ycg ?_))
  (refine rx_call_2 (ycp Tryz.func19 rfl (by kernel_rfl) rfl) (OutNum_sp bo x _ false ha (by omega) (by omega) (by simp only [List.length_append, List.length_reverse, putLow_len];omega) h) rfl rfl rfl ?_ ?_ ?_;(·(first|exact ybf|(refine .inl ?_;(first|exact hd_at3 2 rfl))|exact to_));(·intro _ _ hle;(first|exact ybf|(refine .inl ?_;(first|exact hd_at3 2 rfl))|exact to_));intro x px hle)
  repeat' (refine ycf ?_;(first|(first|(apply ybm;(·(first|(apply yae;(·rfl);(·(exact yay 2 rfl rfl)))|exact tq_));(·rfl);(·rfl);(·(first|exact hd_at3 2 rfl)))|refine ybl rfl rfl ?_|((fail_if_success (refine ybi rfl ?_));refine ybj rfl ?_ ?_<;>(intro ht;rw [ht];first|replace ht := oet_ ht|replace ht := oef_ ht|skip))|(refine tb_ ?_ ?_ ?_;(·(first|exact ybf|(refine .inl ?_;(first|exact hd_at3 2 rfl))|exact to_));(·intro _;(first|exact ybf|(refine .inl ?_;(first|exact hd_at3 2 rfl))|exact to_));intro _)|(first|(refine tqs_ ?_ ?_ ?_;(·(first|exact ybf|(refine .inl ?_;(first|exact hd_at3 2 rfl))|exact to_));(·(first|exact ybf|(refine .inl ?_;(first|exact hd_at3 2 rfl))|exact to_))))|(apply ybn;(·(first|(apply yae;(·rfl);(·(exact yay 2 rfl rfl)))|exact tq_));(·rfl);(·rfl);(·rfl);(·(first|exact ybf|(refine .inl ?_;(first|exact hd_at3 2 rfl))|exact to_))))|refine ycg ?_))
  (refine rx_call_2 (ycp Tryz.func19 rfl (by kernel_rfl) rfl) (OutNum_sp bo x _ false bx (by omega) (by omega) (by simp only [List.length_append, List.length_reverse, putLow_len];omega) h) rfl rfl rfl ?_ ?_ ?_;(·(first|exact ybf|(refine .inl ?_;(first|exact hd_at3 2 rfl))|exact to_));(·intro _ _ hle;(first|exact ybf|(refine .inl ?_;(first|exact hd_at3 2 rfl))|exact to_));intro x px hle)
  repeat' (refine ycf ?_;(first|(first|(apply ybm;(·(first|(apply yae;(·rfl);(·(exact yay 2 rfl rfl)))|exact tq_));(·rfl);(·rfl);(·(first|exact hd_at3 2 rfl)))|refine ybl rfl rfl ?_|((fail_if_success (refine ybi rfl ?_));refine ybj rfl ?_ ?_<;>(intro ht;rw [ht];first|replace ht := oet_ ht|replace ht := oef_ ht|skip))|(refine tb_ ?_ ?_ ?_;(·(first|exact ybf|(refine .inl ?_;(first|exact hd_at3 2 rfl))|exact to_));(·intro _;(first|exact ybf|(refine .inl ?_;(first|exact hd_at3 2 rfl))|exact to_));intro _)|(first|(refine tqs_ ?_ ?_ ?_;(·(first|exact ybf|(refine .inl ?_;(first|exact hd_at3 2 rfl))|exact to_));(·(first|exact ybf|(refine .inl ?_;(first|exact hd_at3 2 rfl))|exact to_))))|(apply ybn;(·(first|(apply yae;(·rfl);(·(exact yay 2 rfl rfl)))|exact tq_));(·rfl);(·rfl);(·rfl);(·(first|exact ybf|(refine .inl ?_;(first|exact hd_at3 2 rfl))|exact to_))))|refine ycg ?_))
  (refine rx_call_2 (ycp Tryz.func19 rfl (by kernel_rfl) rfl) (OutNum_sp bo x _ false kk (by omega) (by omega) (by simp only [List.length_append, List.length_reverse, putLow_len];omega) h) rfl rfl rfl ?_ ?_ ?_;(·(first|exact ybf|(refine .inl ?_;(first|exact hd_at3 2 rfl))|exact to_));(·intro _ _ hle;(first|exact ybf|(refine .inl ?_;(first|exact hd_at3 2 rfl))|exact to_));intro x px hle)
  repeat' (refine ycf ?_;(first|(first|(apply ybm;(·(first|(apply yae;(·rfl);(·(exact yay 2 rfl rfl)))|exact tq_));(·rfl);(·rfl);(·(first|exact hd_at3 2 rfl)))|refine ybl rfl rfl ?_|((fail_if_success (refine ybi rfl ?_));refine ybj rfl ?_ ?_<;>(intro ht;rw [ht];first|replace ht := oet_ ht|replace ht := oef_ ht|skip))|(refine tb_ ?_ ?_ ?_;(·(first|exact ybf|(refine .inl ?_;(first|exact hd_at3 2 rfl))|exact to_));(·intro _;(first|exact ybf|(refine .inl ?_;(first|exact hd_at3 2 rfl))|exact to_));intro _)|(first|(refine tqs_ ?_ ?_ ?_;(·(first|exact ybf|(refine .inl ?_;(first|exact hd_at3 2 rfl))|exact to_));(·(first|exact ybf|(refine .inl ?_;(first|exact hd_at3 2 rfl))|exact to_))))|(apply ybn;(·(first|(apply yae;(·rfl);(·(exact yay 2 rfl rfl)))|exact tq_));(·rfl);(·rfl);(·rfl);(·(first|exact ybf|(refine .inl ?_;(first|exact hd_at3 2 rfl))|exact to_))))|refine ycg ?_))
  (refine rx_call_2 (ycp Tryz.func38 rfl (by kernel_rfl) rfl) (OutBytes_sp bo x _ false _ nm (by simp only [List.length_append, List.length_reverse, putLow_len];omega) h g1) rfl rfl rfl ?_ ?_ ?_;(·(first|exact ybf|(refine .inl ?_;(first|exact hd_at3 2 rfl))|exact to_));(·intro _ _ hle;(first|exact ybf|(refine .inl ?_;(first|exact hd_at3 2 rfl))|exact to_));intro x px hle)
  repeat' (refine ycf ?_;(first|(first|(apply ybm;(·(first|(apply yae;(·rfl);(·(exact yay 2 rfl rfl)))|exact tq_));(·rfl);(·rfl);(·(first|exact hd_at3 2 rfl)))|refine ybl rfl rfl ?_|((fail_if_success (refine ybi rfl ?_));refine ybj rfl ?_ ?_<;>(intro ht;rw [ht];first|replace ht := oet_ ht|replace ht := oef_ ht|skip))|(refine tb_ ?_ ?_ ?_;(·(first|exact ybf|(refine .inl ?_;(first|exact hd_at3 2 rfl))|exact to_));(·intro _;(first|exact ybf|(refine .inl ?_;(first|exact hd_at3 2 rfl))|exact to_));intro _)|(first|(refine tqs_ ?_ ?_ ?_;(·(first|exact ybf|(refine .inl ?_;(first|exact hd_at3 2 rfl))|exact to_));(·(first|exact ybf|(refine .inl ?_;(first|exact hd_at3 2 rfl))|exact to_))))|(apply ybn;(·(first|(apply yae;(·rfl);(·(exact yay 2 rfl rfl)))|exact tq_));(·rfl);(·rfl);(·rfl);(·(first|exact ybf|(refine .inl ?_;(first|exact hd_at3 2 rfl))|exact to_))))|refine ycg ?_))
  (refine rx_call_2 (ycp Tryz.func38 rfl (by kernel_rfl) rfl) (OutBytes_sp bo x _ false _ va (by simp only [List.length_append, List.length_reverse, putLow_len, num4_len];omega) h g2) rfl rfl rfl ?_ ?_ ?_;(·(first|exact ybf|(refine .inl ?_;(first|exact hd_at3 2 rfl))|exact to_));(·intro _ _ hle;(first|exact ybf|(refine .inl ?_;(first|exact hd_at3 2 rfl))|exact to_));intro x px hle)
  repeat' (refine ycf ?_;(first|(first|(apply ybm;(·(first|(apply yae;(·rfl);(·(exact yay 2 rfl rfl)))|exact tq_));(·rfl);(·rfl);(·(first|exact hd_at3 2 rfl)))|refine ybl rfl rfl ?_|((fail_if_success (refine ybi rfl ?_));refine ybj rfl ?_ ?_<;>(intro ht;rw [ht];first|replace ht := oet_ ht|replace ht := oef_ ht|skip))|(refine tb_ ?_ ?_ ?_;(·(first|exact ybf|(refine .inl ?_;(first|exact hd_at3 2 rfl))|exact to_));(·intro _;(first|exact ybf|(refine .inl ?_;(first|exact hd_at3 2 rfl))|exact to_));intro _)|(first|(refine tqs_ ?_ ?_ ?_;(·(first|exact ybf|(refine .inl ?_;(first|exact hd_at3 2 rfl))|exact to_));(·(first|exact ybf|(refine .inl ?_;(first|exact hd_at3 2 rfl))|exact to_))))|(apply ybn;(·(first|(apply yae;(·rfl);(·(exact yay 2 rfl rfl)))|exact tq_));(·rfl);(·rfl);(·rfl);(·(first|exact ybf|(refine .inl ?_;(first|exact hd_at3 2 rfl))|exact to_))))|refine ycg ?_))
  (refine rx_call_2 (ycp Tryz.func19 rfl (by kernel_rfl) rfl) (OutNum_sp bo x _ false (st.length : Nat) (by omega) (by omega) (by simp only [List.length_append, List.length_reverse, putLow_len, num4_len];omega) h) rfl rfl rfl ?_ ?_ ?_;(·(first|exact ybf|(refine .inl ?_;(first|exact hd_at3 2 rfl))|exact to_));(·intro _ _ hle;(first|exact ybf|(refine .inl ?_;(first|exact hd_at3 2 rfl))|exact to_));intro x px hle)
  repeat' (refine ycf ?_;(first|(first|(apply ybm;(·(first|(apply yae;(·rfl);(·(exact yay 2 rfl rfl)))|exact tq_));(·rfl);(·rfl);(·(first|exact hd_at3 2 rfl)))|refine ybl rfl rfl ?_|((fail_if_success (refine ybi rfl ?_));refine ybj rfl ?_ ?_<;>(intro ht;rw [ht];first|replace ht := oet_ ht|replace ht := oef_ ht|skip))|(refine tb_ ?_ ?_ ?_;(·(first|exact ybf|(refine .inl ?_;(first|exact hd_at3 2 rfl))|exact to_));(·intro _;(first|exact ybf|(refine .inl ?_;(first|exact hd_at3 2 rfl))|exact to_));intro _)|(first|(refine tqs_ ?_ ?_ ?_;(·(first|exact ybf|(refine .inl ?_;(first|exact hd_at3 2 rfl))|exact to_));(·(first|exact ybf|(refine .inl ?_;(first|exact hd_at3 2 rfl))|exact to_))))|(apply ybn;(·(first|(apply yae;(·rfl);(·(exact yay 2 rfl rfl)))|exact tq_));(·rfl);(·rfl);(·rfl);(·(first|exact ybf|(refine .inl ?_;(first|exact hd_at3 2 rfl))|exact to_))))|refine ycg ?_))
  obtain ⟨P0, hP0⟩ : ∃ P0 : List Int, P0 = l ++ num1 ki ++ num1 cl ++ num8 ha ++ num8 bx ++ num8 kk ++ num4 nm.length ++ nm ++ num4 va.length ++ va ++ num8 st.length := ⟨_, rfl⟩
  have hP1 : P0.length = l.length + 42 + nm.length + va.length := by
    rw [hP0]; simp only [List.length_append, num1_lenT, num8_lenT, num4_len]; omega
  repeat' (first|refine tw_ ?_|(refine ta_ ?_;intro _)|((fail_if_success (refine ybi rfl ?_));refine ybj rfl ?_ ?_<;>(intro ht;rw [ht];first|replace ht := oet_ ht|replace ht := oef_ ht|skip))|(refine ych ?_;first|(refine ybw rfl ?_ ?_<;>intro ht)|(refine ybx rfl ?_ ?_<;>intro ht)))
  refine cx_loop (X := Nat × Value) (fun y => [(0, .pointer (some ⟨bo, 0, none⟩)), (3, .pointer (some ⟨b3, 0, none⟩)), (33, .slice ads st.length caps), (34, .int .i64 (st.length : Nat)), (35, .int .i64 (y.1 : Nat))]) (fun _ => h)
    (fun y => [outR bo y.2 false, rowB y.2 (P0 ++ encF (st.take y.1)), Res.blk b3 (.cells (tsc ⟨⟨ki, cl, ha, bx, kk, nm, va, st, ra⟩, .slice adn nm.length capn, .slice adv va.length capv, .slice ads st.length caps, .slice adr ra.length capr⟩).toArray 39 (0, 0))])
    (fun y => y.1 ≤ st.length) (fun y => st.length - y.1) (0, x) (Nat.zero_le _) ts_ (fun _ s => ?_) ?_
  · dsimp only
    rw [List.take_zero, show encF [] = [] from rfl, List.append_nil, hP0]
    exact s
  rintro ⟨k, y⟩ hk
  replace hk : k ≤ st.length := hk
  have hpl : (P0 ++ encF (st.take k)).length = P0.length + k := by rw [List.length_append, encF_len, List.length_take]; omega
  dsimp only
  by_cases hkl : k < st.length
  · obtain ⟨bs, o, rfl⟩ := g3.ad (by omega) (by omega)
    have hel : ∀ L, CellAt h L bs (o + (k : Int).toNat * 1) (.bool st[k]) := fun L => by
      have e : o + (k : Int).toNat * 1 = o + k := by omega
      rw [e]
      exact (g3.cells (L := L)).cell (j := k) (by unfold bls; rw [List.getElem?_map, List.getElem?_eq_getElem hkl]; rfl)
    have hstep := encF_take st k hkl
    generalize st[k] = bb at hel hstep
    repeat' (first|(refine ycf ?_;apply ybk;(·first|(exact tk_)|(apply yae;(·rfl);(·(exact hel _))));(·rfl);(·rfl))|refine t1_ ?_|(refine ta_ ?_;intro _)|((fail_if_success (refine ybi rfl ?_));refine ybj rfl ?_ ?_<;>(intro ht;rw [ht];first|replace ht := oet_ ht|replace ht := oef_ ht|skip))|(refine ych ?_;first|(refine ybw rfl ?_ ?_<;>intro ht)|(refine ybx rfl ?_ ?_<;>intro ht)))
    (refine rx_call_2 (ycp Tryz.func39 rfl (by kernel_rfl) rfl) (flag_sp bo y _ bb (by omega) h) rfl rfl rfl ?_ ?_ ?_; (· (exact to_)); (· intro _ _ hle; (exact to_)); intro x px hle)
    repeat' (first|(refine ycf ?_;apply ybk;(·first|(exact tk_));(·rfl);(·rfl))|refine t1_ ?_|(refine ta_ ?_;intro _)|((fail_if_success (refine ybi rfl ?_));refine ybj rfl ?_ ?_<;>(intro ht;rw [ht];first|replace ht := oet_ ht|replace ht := oef_ ht|skip))|(refine ych ?_;first|(refine ybw rfl ?_ ?_<;>intro ht)|(refine ybx rfl ?_ ?_<;>intro ht)))
    refine nx_round (k + 1, x) (by show k + 1 ≤ _; omega) (by show st.length - (k + 1) < st.length - k; omega) ts_ (fun _ s => ?_)
    dsimp only
    rw [hstep, ← List.append_assoc]
    exact s
  · obtain rfl : k = st.length := by omega
    rw [List.take_length] at hpl ⊢
    repeat' (first|(refine ycf ?_;apply ybk;(·first|(exact tk_)|(apply yae;(·rfl);(·(exact yay 2 rfl rfl))));(·rfl);(·rfl))|refine t1_ ?_|(refine ta_ ?_;intro _)|((fail_if_success (refine ybi rfl ?_));refine ybj rfl ?_ ?_<;>(intro ht;rw [ht];first|replace ht := oet_ ht|replace ht := oef_ ht|skip))|(refine ych ?_;first|(refine ybw rfl ?_ ?_<;>intro ht)|(refine ybx rfl ?_ ?_<;>intro ht)))
    (refine rx_call_2 (ycp Tryz.func38 rfl (by kernel_rfl) rfl) (OutBytes_sp bo y _ false _ ra (by omega) h g4) rfl rfl rfl ?_ ?_ ?_; (· (exact to_)); (· intro _ _ hle; (exact to_)); intro x px hle)
    repeat' (first|(refine ycf ?_;apply ybk;(·first|(exact tk_)|(apply yae;(·rfl);(·(exact yay 2 rfl rfl))));(·rfl);(·rfl))|refine t1_ ?_|(refine ta_ ?_;intro _)|((fail_if_success (refine ybi rfl ?_));refine ybj rfl ?_ ?_<;>(intro ht;rw [ht];first|replace ht := oet_ ht|replace ht := oef_ ht|skip))|(refine ych ?_;first|(refine ybw rfl ?_ ?_<;>intro ht)|(refine ybx rfl ?_ ?_<;>intro ht)))
    refine nx_end0 rfl (fun w' s' => ⟨x, rfl, ?_, trivial⟩)
    have e : l ++ encT ⟨ki, cl, ha, bx, kk, nm, va, st, ra⟩ = P0 ++ encF st ++ num4 ra.length ++ ra := by
      rw [hP0]
      unfold encT
      simp only [List.append_assoc]
    rw [e]
    exact s'.picks [0, 0]
def allR (A : List Ta) : Bool := A.all fun a => decide (TaR a)
theorem twrite_len (A : List Ta) (k : Nat) : ((A.take k).flatMap encT).length ≤ (A.flatMap encT).length := by
  conv => rhs; rw [← List.take_append_drop k A, List.flatMap_append, List.length_append]
  omega
theorem TWrite_sp (v : Value) (l : List Ts) (h : View) (hs : Tss h v l) (hn : l.length ≤ 1000) (hsz : ((l.map Ts.a).flatMap encT).length ≤ 900000) (w : World) (s : St ⟨w, h, []⟩ h [] w) :
    Calls Tryz.prog 7 [v].toArray w fun e w' => ∃ x : View × Value, e = .returned (.tuple #[x.2, .int .i64 (if allR (l.map Ts.a) = true then 0 else 2)]) ∧ St ⟨w, h, []⟩ x.1 [] w' ∧ Bs8 x.1 x.2 (if allR (l.map Ts.a) = true then encL (l.map Ts.a) else []) := by
  obtain ⟨_, ad, cap, rfl, _, _⟩ := id hs.1
  refine calls_enter Tryz.func7 rfl Tryz.ntmps7 rfl s ?_
  repeat' (first|(refine ycf ?_;apply ybk;(·first|(exact tk_)|(apply yae;(·rfl);(·(exact yay 2 rfl rfl))));(·rfl);(·rfl))|refine t1_ ?_|(refine ta_ ?_;intro _)|((fail_if_success (refine ybi rfl ?_));refine ybj rfl ?_ ?_<;>(intro ht;rw [ht];first|replace ht := oet_ ht|replace ht := oef_ ht|skip))|(refine ych ?_;first|(refine ybw rfl ?_ ?_<;>intro ht)|(refine ybx rfl ?_ ?_<;>intro ht)))
  rename_i bo
  refine rx_row 5 1 ?_
  refine rx_perm (List.Perm.swap _ _ _) ?_
  (refine rx_call_2 (ycp Tryz.func19 rfl (by kernel_rfl) rfl) (OutNum_sp bo (.slice none 0 0) [] false l.length (by omega) (by omega) (by simp) h) rfl rfl rfl ?_ ?_ ?_; (· (exact to_)); (· intro _ _ hle; (exact to_)); intro x px hle)
  repeat' (first|(refine ycf ?_;apply ybk;(·first|(apply yae;(·rfl);(·(exact yay 2 rfl rfl))));(·rfl);(·rfl))|refine t1_ ?_|(refine ta_ ?_;intro _)|((fail_if_success (refine ybi rfl ?_));refine ybj rfl ?_ ?_<;>(intro ht;rw [ht];first|replace ht := oet_ ht|replace ht := oef_ ht|skip))|(refine ych ?_;first|(refine ybw rfl ?_ ?_<;>intro ht)|(refine ybx rfl ?_ ?_<;>intro ht)))
  refine cx_loop (X := Nat × Value) (fun y => [(4, .pointer (some ⟨bo, 0, none⟩)), (16, .slice ad l.length cap), (17, .int .i64 (l.length : Nat)), (18, .int .i64 (y.1 : Nat))]) (fun _ => h) (fun y => [outR bo y.2 false, rowB y.2 (num8 l.length ++ ((l.map Ts.a).take y.1).flatMap encT)])
    (fun y => y.1 ≤ l.length ∧ allR ((l.map Ts.a).take y.1) = true) (fun y => l.length - y.1) (0, x) ⟨Nat.zero_le _, rfl⟩ ts_ (fun _ s => ?_) ?_
  · dsimp only
    rw [List.take_zero, List.flatMap_nil, List.append_nil]
    exact s
  clear px hle
  rintro ⟨k, y⟩ ⟨q1, q2⟩
  dsimp only at q1 q2 ⊢
  have hpl : (num8 l.length ++ ((l.map Ts.a).take k).flatMap encT).length ≤ 900008 := by
    have := twrite_len (l.map Ts.a) k
    rw [List.length_append, num8_lenT]
    omega
  by_cases hkl : k < l.length
  · obtain ⟨bs, o, rfl⟩ := hs.1.ad (by omega) (by omega)
    have hel : ∀ L, Cells h L ⟨bs, o + k * 9, none⟩ (tsc l[k]) := fun L => hs.1.elem tsc_len k hkl
    have vx := hs.2 _ (List.getElem_mem hkl)
    have htk : (l.map Ts.a).take (k + 1) = (l.map Ts.a).take k ++ [l[k].a] := by
      rw [List.take_succ_eq_append_getElem (by rw [List.length_map]; exact hkl), List.getElem_map]
    have hall : allR ((l.map Ts.a).take (k + 1)) = decide (TaR l[k].a) := by
      unfold allR at q2 ⊢
      rw [htk, List.all_append, q2, Bool.true_and, List.all_cons, List.all_nil, Bool.and_true]
    have hbad : ¬ TaR l[k].a → allR (l.map Ts.a) = false := fun hb => by
      have h1 : (l.map Ts.a) = (l.map Ts.a).take (k + 1) ++ (l.map Ts.a).drop (k + 1) := (List.take_append_drop _ _).symm
      rw [h1]
      unfold allR at hall ⊢
      rw [List.all_append, hall, decide_eq_false hb, Bool.false_and]
    have hsl : (((l.map Ts.a).take k).flatMap encT).length + (encT (l[k].a)).length ≤ 900000 := by
      have h1 := twrite_len (l.map Ts.a) (k + 1)
      rw [htk, List.flatMap_append, List.length_append, List.flatMap_cons, List.flatMap_nil, List.append_nil] at h1
      omega
    generalize l[k] = x0 at hel vx htk hall hbad hsl
    have R1 := right_sp3 x0 h vx
    have hone := vx.ones
    repeat' (first|(refine ycf ?_;apply ybk;(·first|(first|exact tk_|(apply yad;(·rfl);(·exact hel _);(·exact tsc_len x0))|(apply yad;(·rfl);(·exact yaz 0 rfl);(·exact tsc_len x0)))|(apply yae;(·rfl);(·(exact yay 2 rfl rfl))));(·rfl);(·rfl))|(refine ybg 0 rfl rfl rfl rfl (nble rfl) (List.all_eq_true.2 hone) (ybh rfl) rfl rfl ?_ ?_ ?_;(·(exact to_));(·(exact to_)))|refine t1_ ?_|(refine ta_ ?_;intro _)|((fail_if_success (refine ybi rfl ?_));refine ybj rfl ?_ ?_<;>(intro ht;rw [ht];first|replace ht := oet_ ht|replace ht := oef_ ht|skip))|(refine ych ?_;first|(refine ybw rfl ?_ ?_<;>intro ht)|(refine ybx rfl ?_ ?_<;>intro ht)))
    rename_i b6
    (refine ycn (ycp Tryz.func20 rfl (by kernel_rfl) rfl) (R1) rfl rfl rfl ?_ ?_; (· (exact to_)))
    by_cases hT : TaR x0.a
    · rw [decide_eq_true hT] at hall ⊢
      repeat' (first|(refine ycf ?_;apply ybk;(·first|(first|exact tk_|(apply yad;(·rfl);(·exact hel _);(·exact tsc_len x0))|(apply yad;(·rfl);(·exact yaz 0 rfl);(·exact tsc_len x0)))|(apply yae;(·rfl);(·(exact yay 2 rfl rfl))));(·rfl);(·rfl))|refine t1_ ?_|(refine ta_ ?_;intro _)|((fail_if_success (refine ybi rfl ?_));refine ybj rfl ?_ ?_<;>(intro ht;rw [ht];first|replace ht := oet_ ht|replace ht := oef_ ht|skip))|(refine ych ?_;first|(refine ybw rfl ?_ ?_<;>intro ht)|(refine ybx rfl ?_ ?_<;>intro ht)))
      refine rx_perm (L' := [outR bo y false, rowB y (num8 l.length ++ ((l.map Ts.a).take k).flatMap encT), Res.blk b6 (.cells (tsc x0).toArray 39 (0, 0))]) (List.perm_append_comm (l₁ := [_]) (l₂ := [_, _])) ?_
      (refine rx_call_2 (ycp Tryz.func21 rfl (by kernel_rfl) rfl) (tput_sp bo y _ x0 hT (by rw [List.length_append, num8_lenT]; omega) h vx) rfl rfl rfl ?_ ?_ ?_; (· (exact to_)); (· intro _ _ hle; (exact to_)); intro x px hle)
      repeat' (first|(refine ycf ?_;apply ybk;(·first|(first|exact tk_|(apply yad;(·rfl);(·exact hel _);(·exact tsc_len x0))|(apply yad;(·rfl);(·exact yaz 0 rfl);(·exact tsc_len x0)))|(apply yae;(·rfl);(·(exact yay 2 rfl rfl))));(·rfl);(·rfl))|refine t1_ ?_|(refine ta_ ?_;intro _)|((fail_if_success (refine ybi rfl ?_));refine ybj rfl ?_ ?_<;>(intro ht;rw [ht];first|replace ht := oet_ ht|replace ht := oef_ ht|skip))|(refine ych ?_;first|(refine ybw rfl ?_ ?_<;>intro ht)|(refine ybx rfl ?_ ?_<;>intro ht)))
      refine nx_round (k + 1, x) ⟨by show k + 1 ≤ _; omega, hall⟩ (by show l.length - (k + 1) < l.length - k; omega) ts_ (fun _ s => ?_)
      dsimp only
      rw [htk, List.flatMap_append, ← List.append_assoc, List.flatMap_cons, List.flatMap_nil, List.append_nil]
      exact s.picks [0, 0]
    · rw [decide_eq_false hT, hbad hT]
      repeat' (first|(refine ycf ?_;apply ybk;(·first|(first|exact tk_|(apply yad;(·rfl);(·exact hel _);(·exact tsc_len x0))|(apply yad;(·rfl);(·exact yaz 0 rfl);(·exact tsc_len x0)))|(apply yae;(·rfl);(·(exact yay 2 rfl rfl))));(·rfl);(·rfl))|refine t1_ ?_|(refine ta_ ?_;intro _)|((fail_if_success (refine ybi rfl ?_));refine ybj rfl ?_ ?_<;>(intro ht;rw [ht];first|replace ht := oet_ ht|replace ht := oef_ ht|skip))|(refine ych ?_;first|(refine ybw rfl ?_ ?_<;>intro ht)|(refine ybx rfl ?_ ?_<;>intro ht)))
      exact nx_ret2 rfl (rv_tmp rfl) (rv_tmp rfl) (fun w' s' => ⟨(h, .slice none 0 0), rfl, s'.nil, Sc.nil h 1 none 0⟩)
  · obtain rfl : k = l.length := by omega
    have et : (l.map Ts.a).take l.length = l.map Ts.a := List.take_of_length_le (by rw [List.length_map]; exact Nat.le_refl _)
    rw [et] at q2 hpl ⊢
    rw [q2]
    repeat' (first|(refine ycf ?_;apply ybk;(·first|(exact tk_)|(apply yae;(·rfl);(·(exact yay 2 rfl rfl))));(·rfl);(·rfl))|refine t1_ ?_|(refine ta_ ?_;intro _)|((fail_if_success (refine ybi rfl ?_));refine ybj rfl ?_ ?_<;>(intro ht;rw [ht];first|replace ht := oet_ ht|replace ht := oef_ ht|skip))|(refine ych ?_;first|(refine ybw rfl ?_ ?_<;>intro ht)|(refine ybx rfl ?_ ?_<;>intro ht)))
    (refine rx_call_2 (ycp Tryz.func22 rfl (by kernel_rfl) rfl) (Done_sp bo y _ (by omega) h) rfl rfl rfl ?_ ?_ ?_; (· (exact to_)); (· intro _ _ hle; (exact to_)); intro x px hle)
    refine rx_persist rfl fun h3 hle3 hsv => ?_
    obtain ⟨_, adx, capx, hx, _, _⟩ := id hsv
    subst hx
    repeat' (first|(refine ycf ?_;apply ybk;(·first|(exact tk_)|(apply yae;(·rfl);(·(exact yay 2 rfl rfl))));(·rfl);(·rfl))|refine t1_ ?_|(refine ta_ ?_;intro _)|((fail_if_success (refine ybi rfl ?_));refine ybj rfl ?_ ?_<;>(intro ht;rw [ht];first|replace ht := oet_ ht|replace ht := oef_ ht|skip))|(refine ych ?_;first|(refine ybw rfl ?_ ?_<;>intro ht)|(refine ybx rfl ?_ ?_<;>intro ht)))
    refine nx_ret2 rfl (rv_tmp rfl) (rv_tmp rfl) (fun w' s' => ⟨(h3, _), rfl, s'.nil, ?_⟩)
    rw [if_pos rfl]
    have e : encL (l.map Ts.a) = num8 l.length ++ (l.map Ts.a).flatMap encT := by
      unfold encL
      rw [List.length_map]
    rw [e]
    exact hsv
end Go.Proofs.YtndpclcbobgdlaaGreatDoor
end
