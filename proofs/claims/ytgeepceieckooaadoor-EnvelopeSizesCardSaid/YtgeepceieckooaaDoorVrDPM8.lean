/-
  Part 8 of a proof: VaD VaE CkGrow CkZero VaF CkNoZ ShD.
  Conditions: each theorem states its own.
-/
import Derived.Lib.AppendZerosOnto
import Derived.Lib.MakeNoZero
import Derived.Laws.Externs
import Derived.Test.YtgeepceieckooaaDoorVrDPM7
section
namespace Go.Proofs.YtgeepceieckooaaDoor
open Go Go.Ck
set_option maxRecDepth 100000
set_option maxHeartbeats 4000000
set_option linter.unusedVariables false
def vcells (idl : Bool) (key : List Int) (a b c : Nat) : List Value := .bool idl :: (bcs key ++ [.map (some a), .map (some b), .map (some c)])
def Vb (h : View) (bv : Nat) (idl : Bool) (key : List Int) (a b c : Nat) : Prop := h bv = some (.cells (vcells idl key a b c).toArray 68 (0, 0))
theorem Vb.mono {h h' : View} {bv : Nat} {idl : Bool} {key : List Int} {a b c : Nat} (s : Vb h bv idl key a b c) (hl : Le h h') : Vb h' bv idl key a b c := hl _ _ s
section
variable {h : View} {L : List Res} {bv : Nat} {idl : Bool} {key : List Int} {a b c : Nat}
theorem Vb.kb (s : Vb h bv idl key a b c) : Cells h L ⟨bv, 0 + 1, none⟩ (bcs key) := by
  have h1 : Cells h L ⟨bv, 0, none⟩ (vcells idl key a b c) := cells_view s
  have h2 := (h1.drop 1).take (bcs key).length
  simpa [vcells] using h2
theorem Vb.at (s : Vb h bv idl key a b c) (hk : key.length = 32) {o : Nat} {v : Value} (hv : o = 0 ∧ v = .bool idl ∨ o = 33 ∧ v = .map (some a) ∨ o = 34 ∧ v = .map (some b) ∨ o = 35 ∧ v = .map (some c)) : CellAt h L bv (0 + o) v := by
  have h1 : Cells h L ⟨bv, 0, none⟩ (vcells idl key a b c) := cells_view s
  refine h1.cell ?_
  have hb := bcs_len key
  rcases hv with ⟨rfl, rfl⟩ | ⟨rfl, rfl⟩ | ⟨rfl, rfl⟩ | ⟨rfl, rfl⟩
  · rfl
  all_goals simp [vcells, hb, hk]
end
def drawF (key : List Int) (kind n count : Nat) : List Int := (putLow 8 n).reverse ++ streamF key 0 ((putLow 4 kind).reverse ++ (putLow 8 n).reverse) (List.replicate (count - 8) 0)
theorem drawF_len (key : List Int) (kind n count : Nat) (h : 8 ≤ count) : (drawF key kind n count).length = count := by
  rw [drawF, List.length_append, streamF_len, List.length_reverse, putLow_len, List.length_replicate]
  omega
theorem drawF_by (key : List Int) (kind n count : Nat) : Bytes (drawF key kind n count) := cbytes_app (putLow_bytes' 8 _) (strmF_by _ _ _ _ _)
theorem drawF_ne (key : List Int) {kind n m count : Nat} (hn : n < 1000000) (hm : m < 1000000) (he : n ≠ m) : drawF key kind n count ≠ drawF key kind m count := fun e => by
  have h1 := congrArg (List.take 8) e
  unfold drawF at h1
  rw [List.take_left' (by simp [putLow_len]), List.take_left' (by simp [putLow_len])] at h1
  have h2 := congrArg valB h1
  rw [val_putLow 8 n (by omega) (by omega), val_putLow 8 m (by omega) (by omega)] at h2
  omega
theorem zeros_bcs (m : Nat) : (List.replicate m (Value.int .u8 0)) = bcs (List.replicate m 0) := by simp [bcs]
theorem zeros_by (m : Nat) : Bytes (List.replicate m 0) := fun x hx => by
  have := List.eq_of_mem_replicate hx
  omega
theorem draw_sp (bv : Nat) (idl : Bool) (key : List Int) (a b c : Nat) (kind n count : Nat) (hk : Bytes key) (hk32 : key.length = 32) (h1 : kind < 256) (h2 : n < 1000000) (h3 : 8 < count ∧ count ≤ 100000) (h : View) (hv : Vb h bv idl key a b c) (w : World) (s : St ⟨w, h, []⟩ h [] w) :
    Calls Tryd.prog 28 [.pointer (some ⟨bv, 0, none⟩), .int .i64 kind, .int .i64 n, .int .i64 count].toArray w fun e w' => ∃ v, e = .returned v ∧ St ⟨w, h, []⟩ h [rowB v (drawF key kind n count)] w' ∧ True := by
  refine calls_enter Tryd.func28 rfl Tryd.ntmps28 rfl s ?_
  have w1 : IntKind.u64.wrap (n : Int) = n := wrap_u64 (by omega) (by omega)
  have w2 : IntKind.u64.wrap (kind : Int) = kind := wrap_u64 (by omega) (by omega)
  repeat' (first|(refine ycf ?_;apply ybk;(·first|(first|exact tk_|(refine qv_convert_int' rfl w1)|(refine qv_convert_int' rfl w2)));(·rfl);(·rfl))|refine t1_ ?_|(refine ta_ ?_;intro _)|((fail_if_success (refine ybi rfl ?_));refine ybj rfl ?_ ?_<;>(intro ht;rw [ht];first|replace ht := oet_ ht|replace ht := oef_ ht|skip))|(refine ych ?_;first|(refine ybw rfl ?_ ?_<;>intro ht)|(refine ybx rfl ?_ ?_<;>intro ht)))
  (refine yco (ycp Tryd.func40 rfl (by kernel_rfl) rfl) (PutHigh_sp n 8 ⟨by omega, by omega⟩ (by omega) (by omega) h) rfl rfl rfl ?_ ?_ ?_; (· (exact to_)); (· intro _ _ hle; (exact to_)); intro x px hle)
  repeat' (first|(refine ycf ?_;apply ybk;(·first|(first|exact tk_|(refine qv_convert_int' rfl w1)|(refine qv_convert_int' rfl w2)));(·rfl);(·rfl))|refine t1_ ?_|(refine ta_ ?_;intro _)|((fail_if_success (refine ybi rfl ?_));refine ybj rfl ?_ ?_<;>(intro ht;rw [ht];first|replace ht := oet_ ht|replace ht := oef_ ht|skip))|(refine ych ?_;first|(refine ybw rfl ?_ ?_<;>intro ht)|(refine ybx rfl ?_ ?_<;>intro ht)))
  have p8 := putLow_len 8 n
  have p4 := putLow_len 4 kind
  have ho := cbytes_app (putLow_bytes' 4 (kind : Int)) (putLow_bytes' 8 (n : Int))
  have hol : (bcs ((putLow 4 (kind : Int)).reverse ++ (putLow 8 (n : Int)).reverse)).length = 12 := by rw [bcs_len, List.length_append, List.length_reverse, List.length_reverse, p4, p8]
  (refine yco (ycp Tryd.func40 rfl (by kernel_rfl) rfl) (PutHigh_sp kind 4 ⟨by omega, by omega⟩ (by omega) (by omega) h) rfl rfl rfl ?_ ?_ ?_; (· (exact to_)); (· intro _ _ hle; (exact to_)); intro x px hle)
  refine rx_rowform 1 rfl (fun _ h1 _ => (by rw [List.length_reverse] at h1; omega)) ?_
  rintro g8 cap8 rfl
  repeat' (first|refine tw_ ?_|(refine ta_ ?_;intro _)|((fail_if_success (refine ybi rfl ?_));refine ybj rfl ?_ ?_<;>(intro ht;rw [ht];first|replace ht := oet_ ht|replace ht := oef_ ht|skip))|(refine ych ?_;first|(refine ybw rfl ?_ ?_<;>intro ht)|(refine ybx rfl ?_ ?_<;>intro ht)))
  refine rx_append (sz := 1) 0 rfl rfl rfl (row_cells 1 rfl) (by rw [bcs_len, Nat.mul_one]) (bcs_one _) rfl (by omega) (by unfold maxLen; rw [List.length_reverse, List.length_reverse]; omega) (by rw [List.length_reverse, List.length_reverse]; omega) rfl rfl rfl ybf (fun _ => ybf) ?_
  intro v5 _
  rw [← bcs_app]
  have hrl : (putLow 4 (kind : Int)).reverse.length + (putLow 8 (n : Int)).reverse.length = 12 := by simp [p4, p8]
  rw [hrl]
  generalize hout : (putLow 4 (kind : Int)).reverse ++ (putLow 8 (n : Int)).reverse = out at hol ho ⊢
  refine rx_rowform 0 rfl (fun _ h1 _ => (by omega)) ?_
  rintro g6 cap6 rfl
  repeat' (first|(refine ycf ?_;apply ybk;(·first|(first|(refine qv_arrptr rfl (by omega))|(apply yad;(·rfl);(·exact row_cells 0 rfl);(·exact hol))));(·rfl);(·rfl))|(refine ybg 0 rfl rfl rfl (by show (bcs out).toArray.size = 12;simpa using hol) (by show 0 + (bcs out).toArray.size ≤ _;rw [List.size_toArray, hol];exact nble rfl) (List.all_eq_true.2 (bcs_one out)) (ybh (by show (bcs out).length = _;rw [hol];rfl)) rfl rfl ?_ ?_ ?_;(·(exact to_));(·(exact to_)))|refine t1_ ?_|(refine ta_ ?_;intro _)|((fail_if_success (refine ybi rfl ?_));refine ybj rfl ?_ ?_<;>(intro ht;rw [ht];first|replace ht := oet_ ht|replace ht := oef_ ht|skip))|(refine ych ?_;first|(refine ybw rfl ?_ ?_<;>intro ht)|(refine ybx rfl ?_ ?_<;>intro ht)))
  rename_i bA
  have ws : IntKind.i64.wrap ((count : Int) - 8) = ((count - 8 : Nat) : Int) := by rw [IntKind.wrap_i64]<;>omega
  refine cx_region_draw' rfl (by kernel_rfl) ?_
  repeat' (refine ycf ?_;(first|(first|(apply ybm;(·(first|(first|exact tk_|(refine qv_subr rfl rfl ws)|(apply yad;(·rfl);(·exact hv.kb);(·rw [bcs_len, hk32]))|(apply yad;(·rfl);(·exact yaz 0 rfl);(·exact hol)))|exact tq_));(·rfl);(·rfl);(·(exact th_)))|refine ybl rfl rfl ?_|((fail_if_success (refine ybi rfl ?_));refine ybj rfl ?_ ?_<;>(intro ht;rw [ht];first|replace ht := oet_ ht|replace ht := oef_ ht|skip))|(refine tb_ ?_ ?_ ?_;(·(exact to_));(·intro _;(exact to_));intro _)|(first|(refine tqs_ ?_ ?_ ?_;(·(exact to_));(·(exact to_))))|(apply ybn;(·(first|(first|exact tk_|(refine qv_subr rfl rfl ws)|(apply yad;(·rfl);(·exact hv.kb);(·rw [bcs_len, hk32]))|(apply yad;(·rfl);(·exact yaz 0 rfl);(·exact hol)))|exact tq_));(·rfl);(·rfl);(·rfl);(·(exact to_))))|refine ycg ?_))
  refine yba (ma_makeBytes (m := count - 8) rfl rfl rfl (by omega)) rfl rfl rfl ?_ ?_ ?_
  · (exact to_)
  · intro _; (exact to_)
  intro bz
  refine rx_rowOf 1 (count - 8) (count - 8) (Nat.le_refl _) (by unfold maxLen; omega) (by simp) ?_
  refine rx_persist rfl fun h1 hle1 hv1 => ?_
  have hz : Bs8 h1 (.slice (some ⟨bz, 0, none⟩) (List.replicate (count - 8) (0 : Int)).length (count - 8)) (List.replicate (count - 8) 0) := by
    unfold Bs8
    rw [← zeros_bcs, List.length_replicate]
    rw [List.take_of_length_le (by simp)] at hv1
    exact hv1
  rw [List.length_replicate] at hz
  repeat' (refine ycf ?_;(first|(first|(apply ybm;(·exact tq_);(·rfl);(·rfl);(·(first|exact fun _ s => Hd.sub s hle1 (fun r hr => hr)|exact fun _ s => Hd.sub s hle1 (fun r hr => List.mem_cons_of_mem _ hr))))|refine ybl rfl rfl ?_|((fail_if_success (refine ybi rfl ?_));refine ybj rfl ?_ ?_<;>(intro ht;rw [ht];first|replace ht := oet_ ht|replace ht := oef_ ht|skip))|(refine tb_ ?_ ?_ ?_;(·(first|exact ybf|(refine .inl ?_;(first|exact fun _ s => Hd.sub s hle1 (fun r hr => hr)|exact fun _ s => Hd.sub s hle1 (fun r hr => List.mem_cons_of_mem _ hr)))|exact to_));(·intro _;(first|exact ybf|(refine .inl ?_;(first|exact fun _ s => Hd.sub s hle1 (fun r hr => hr)|exact fun _ s => Hd.sub s hle1 (fun r hr => List.mem_cons_of_mem _ hr)))|exact to_));intro _)|(first|(refine tqs_ ?_ ?_ ?_;(·(first|exact ybf|(refine .inl ?_;(first|exact fun _ s => Hd.sub s hle1 (fun r hr => hr)|exact fun _ s => Hd.sub s hle1 (fun r hr => List.mem_cons_of_mem _ hr)))|exact to_));(·(first|exact ybf|(refine .inl ?_;(first|exact fun _ s => Hd.sub s hle1 (fun r hr => hr)|exact fun _ s => Hd.sub s hle1 (fun r hr => List.mem_cons_of_mem _ hr)))|exact to_))))|(apply ybn;(·exact tq_);(·rfl);(·rfl);(·rfl);(·(first|exact ybf|(refine .inl ?_;(first|exact fun _ s => Hd.sub s hle1 (fun r hr => hr)|exact fun _ s => Hd.sub s hle1 (fun r hr => List.mem_cons_of_mem _ hr)))|exact to_))))|refine ycg ?_))
  (refine yco (ycp Tryd.func41 rfl (by kernel_rfl) rfl) (Stream_sp key 0 out _ _ hk ho hk32 (by rw [← bcs_len];exact hol) (by simp;omega) (zeros_by _) h1 hz) rfl rfl rfl ?_ ?_ ?_;(·(first|exact ybf|(refine .inl ?_;(first|exact fun _ s => Hd.sub s hle1 (fun r hr => hr)|exact fun _ s => Hd.sub s hle1 (fun r hr => List.mem_cons_of_mem _ hr)))|exact to_));(·intro _ _ hle;(first|exact ybf|(refine .inl ?_;(first|exact fun _ s => Hd.sub s hle1 (fun r hr => hr)|exact fun _ s => Hd.sub s hle1 (fun r hr => List.mem_cons_of_mem _ hr)))|exact to_));intro x px hle)
  have hsl := streamF_len key 0 out (List.replicate (count - 8) 0)
  rw [List.length_replicate] at hsl
  refine rx_rowform 0 rfl (fun _ h1 _ => (by omega)) ?_
  rintro g30 cap30 rfl
  refine rx_append (sz := 1) 3 rfl rfl rfl (row_cells 0 rfl) (by rw [bcs_len, Nat.mul_one]) (bcs_one _) rfl (by omega) (by unfold maxLen; rw [List.length_reverse, p8, hsl]; omega) (by rw [List.length_reverse, p8, hsl]; omega) rfl rfl rfl ?_ ?_ ?_
  · (first|exact ybf|(refine .inl ?_;(first|exact fun _ s => Hd.sub s hle1 (fun r hr => hr)|exact fun _ s => Hd.sub s hle1 (fun r hr => List.mem_cons_of_mem _ hr)))|exact to_)
  · intro v'; (exact .inr (by kernel_rfl))
  intro v9 _
  rw [← bcs_app]
  repeat' (refine ycf ?_;(first|(first|(apply ybm;(·exact tq_);(·rfl);(·rfl);(·(first|exact fun _ s => Hd.sub s hle1 (fun r hr => hr)|exact fun _ s => Hd.sub s hle1 (fun r hr => List.mem_cons_of_mem _ hr))))|refine ybl rfl rfl ?_|((fail_if_success (refine ybi rfl ?_));refine ybj rfl ?_ ?_<;>(intro ht;rw [ht];first|replace ht := oet_ ht|replace ht := oef_ ht|skip))|(refine tb_ ?_ ?_ ?_;(·(first|exact ybf|(refine .inl ?_;(first|exact fun _ s => Hd.sub s hle1 (fun r hr => hr)|exact fun _ s => Hd.sub s hle1 (fun r hr => List.mem_cons_of_mem _ hr)))|exact to_));(·intro _;(first|exact ybf|(refine .inl ?_;(first|exact fun _ s => Hd.sub s hle1 (fun r hr => hr)|exact fun _ s => Hd.sub s hle1 (fun r hr => List.mem_cons_of_mem _ hr)))|exact to_));intro _)|(first|(refine tqs_ ?_ ?_ ?_;(·(first|exact ybf|(refine .inl ?_;(first|exact fun _ s => Hd.sub s hle1 (fun r hr => hr)|exact fun _ s => Hd.sub s hle1 (fun r hr => List.mem_cons_of_mem _ hr)))|exact to_));(·(first|exact ybf|(refine .inl ?_;(first|exact fun _ s => Hd.sub s hle1 (fun r hr => hr)|exact fun _ s => Hd.sub s hle1 (fun r hr => List.mem_cons_of_mem _ hr)))|exact to_))))|(apply ybn;(·exact tq_);(·rfl);(·rfl);(·rfl);(·(first|exact ybf|(refine .inl ?_;(first|exact fun _ s => Hd.sub s hle1 (fun r hr => hr)|exact fun _ s => Hd.sub s hle1 (fun r hr => List.mem_cons_of_mem _ hr)))|exact to_))))|refine ycg ?_))
  repeat' (first|refine tw_ ?_|(refine ta_ ?_;intro _)|((fail_if_success (refine ybi rfl ?_));refine ybj rfl ?_ ?_<;>(intro ht;rw [ht];first|replace ht := oet_ ht|replace ht := oef_ ht|skip))|(refine ych ?_;first|(refine ybw rfl ?_ ?_<;>intro ht)|(refine ybx rfl ?_ ?_<;>intro ht)))
  refine nx_ret1 rfl (rv_tmp rfl) (fun w' s' => ⟨_, rfl, ?_, trivial⟩)
  have s3 := (s'.perm (perm_at (k := 3) rfl)).keep1.baseL
  unfold drawF
  rw [hout]
  unfold rowB
  rw [List.length_append]
  exact s3
end Go.Proofs.YtgeepceieckooaaDoor
end

section
namespace Go.Proofs.YtgeepceieckooaaDoor
open Go Go.Ck
set_option maxRecDepth 100000
set_option maxHeartbeats 4000000
set_option linter.unusedVariables false
def difB (a b : List Int) : Nat → BitVec 8
  | 0 => 0#8
  | k + 1 => difB a b k ||| (BitVec.ofInt 8 (a.getD k 0) ^^^ BitVec.ofInt 8 (b.getD k 0))
theorem byte_inj {x y : Int} (hx : 0 ≤ x ∧ x < 256) (hy : 0 ≤ y ∧ y < 256) : BitVec.ofInt 8 x = BitVec.ofInt 8 y ↔ x = y := by
  constructor
  · intro h
    have := congrArg BitVec.toNat h
    simp only [BitVec.toNat_ofInt] at this
    omega
  · intro h; rw [h]
theorem difB_zero {a b : List Int} (ya : Bytes a) (yb : Bytes b) : ∀ k, k ≤ a.length → k ≤ b.length → (difB a b k = 0#8 ↔ a.take k = b.take k)
  | 0, _, _ => by simp [difB]
  | k + 1, h1, h2 => by
    have ih := difB_zero ya yb k (by omega) (by omega)
    have ea : a.getD k 0 = a[k]'(by omega) := by simp [List.getD_eq_getElem?_getD, List.getElem?_eq_getElem (show k < a.length by omega)]
    have eb : b.getD k 0 = b[k]'(by omega) := by simp [List.getD_eq_getElem?_getD, List.getElem?_eq_getElem (show k < b.length by omega)]
    have hx := byte_inj (ya _ (List.getElem_mem (show k < a.length by omega))) (yb _ (List.getElem_mem (show k < b.length by omega)))
    have he : difB a b (k + 1) = 0#8 ↔ difB a b k = 0#8 ∧ BitVec.ofInt 8 (a.getD k 0) ^^^ BitVec.ofInt 8 (b.getD k 0) = 0#8 := by
      show difB a b k ||| _ = 0#8 ↔ _
      exact BitVec.or_eq_zero_iff
    rw [he, ih, BitVec.xor_eq_zero_iff, ea, eb, hx, List.take_succ_eq_append_getElem (by omega), List.take_succ_eq_append_getElem (by omega)]
    constructor
    · rintro ⟨h3, h4⟩
      rw [h3, h4]
    · intro h3
      have := List.append_inj' h3 rfl
      exact ⟨this.1, by simpa using this.2⟩
theorem bSame_sp (va vb : Value) (a b : List Int) (h : View) (ha : Bs8 h va a) (hb : Bs8 h vb b) (ya : Bytes a) (yb : Bytes b) (hl : a.length ≤ 900000) (hlb : b.length ≤ 900000) (w : World) (s : St ⟨w, h, []⟩ h [] w) :
    Calls Tryd.prog 45 [va, vb].toArray w fun e w' => e = .returned (.bool (decide (a = b))) ∧ St ⟨w, h, []⟩ h [] w' := by
  obtain ⟨_, ada, capa, rfl, hcapa, _⟩ := id ha
  obtain ⟨_, adb, capb, rfl, hcapb, _⟩ := id hb
  refine calls_enter Tryd.func45 rfl Tryd.ntmps45 rfl s ?_
  by_cases hne : a.length = b.length
  · have hd : (decide (((difB a b a.length).toNat : Int) = 0)) = decide (a = b) := by
      have h0 := difB_zero ya yb a.length (Nat.le_refl _) (by omega)
      rw [List.take_of_length_le (Nat.le_refl _), List.take_of_length_le (by omega)] at h0
      rw [decide_eq_decide, ← h0]
      constructor
      · intro e
        apply BitVec.eq_of_toNat_eq
        simpa using e
      · intro e; rw [e]; rfl
    repeat' (first|(refine ycf ?_;apply ybk;(·first|(exact tk_));(·rfl);(·rfl))|refine t1_ ?_|(refine ta_ ?_;intro _)|((fail_if_success (refine ybi rfl ?_));refine ybj rfl ?_ ?_<;>(intro ht;rw [ht];first|replace ht := oet_ ht|replace ht := oef_ ht|skip))|(refine ych ?_;first|(refine ybw rfl ?_ ?_<;>intro ht)|(refine ybx rfl ?_ ?_<;>intro ht)))
    refine cx_loop (X := Nat) (fun k => [(0, .slice ada a.length capa), (1, .slice adb b.length capb), (5, .int .u8 ((difB a b k).toNat : Nat)), (13, .int .i64 (a.length : Nat)), (14, .int .i64 (k : Nat))]) (fun _ => h) (fun _ => []) (fun k => k ≤ a.length) (fun k => a.length - k) 0 (Nat.zero_le _) ts_ (fun _ s => s) ?_
    intro k hk
    by_cases hkm : k < a.length
    · obtain ⟨ba, oa, rfl⟩ := ha.ad (by omega) (by omega)
      obtain ⟨bb, ob, rfl⟩ := hb.ad (by omega) (by omega)
      have hea : ∀ L, CellAt h L ba (oa + k * 1) (.int .u8 (a.getD k 0)) := fun L => (ha.cells (L := L)).cell (by simp [bcs, hkm])
      have heb : ∀ L, CellAt h L bb (ob + k * 1) (.int .u8 (b.getD k 0)) := fun L => (hb.cells (L := L)).cell (by simp [bcs, hne ▸ hkm])
      have ha8 : 0 ≤ a.getD k 0 ∧ a.getD k 0 < 256 := by
        have := ya a[k] (List.getElem_mem _)
        simpa [List.getD_eq_getElem?_getD, hkm] using this
      have hb8 : 0 ≤ b.getD k 0 ∧ b.getD k 0 < 256 := by
        have := yb (b[k]'(by omega)) (List.getElem_mem _)
        simpa [List.getD_eq_getElem?_getD, hne ▸ hkm] using this
      have hs : difB a b (k + 1) = difB a b k ||| (BitVec.ofInt 8 (a.getD k 0) ^^^ BitVec.ofInt 8 (b.getD k 0)) := rfl
      repeat' (first|(refine ycf ?_;apply ybk;(·first|(first|exact tk_|(refine qv_bx rfl rfl ha8 hb8)|(refine qv_orw (a := difB a b k) rfl rfl rfl rfl))|(apply yae;(·rfl);(·(first|exact hea _|exact heb _))));(·rfl);(·rfl))|refine t1_ ?_|(refine ta_ ?_;intro _)|((fail_if_success (refine ybi rfl ?_));refine ybj rfl ?_ ?_<;>(intro ht;rw [ht];first|replace ht := oet_ ht|replace ht := oef_ ht|skip))|(refine ych ?_;first|(refine ybw rfl ?_ ?_<;>intro ht)|(refine ybx rfl ?_ ?_<;>intro ht)))
      refine cx_region_draw' rfl (by kernel_rfl) ?_
      repeat' (refine ycf ?_;(first|(first|(apply ybm;(·(first|(first|exact tk_|(refine qv_bx rfl rfl ha8 hb8)|(refine qv_orw (a := difB a b k) rfl rfl rfl rfl))|(apply yae;(·rfl);(·(first|exact hea _|exact heb _)))|exact tq_));(·rfl);(·rfl);(·(exact th_)))|refine ybl rfl rfl ?_|((fail_if_success (refine ybi rfl ?_));refine ybj rfl ?_ ?_<;>(intro ht;rw [ht];first|replace ht := oet_ ht|replace ht := oef_ ht|skip))|(refine tb_ ?_ ?_ ?_;(·(exact to_));(·intro _;(exact to_));intro _)|(first|(refine tqs_ ?_ ?_ ?_;(·(exact to_));(·(exact to_))))|(apply ybn;(·(first|(first|exact tk_|(refine qv_bx rfl rfl ha8 hb8)|(refine qv_orw (a := difB a b k) rfl rfl rfl rfl))|(apply yae;(·rfl);(·(first|exact hea _|exact heb _)))|exact tq_));(·rfl);(·rfl);(·rfl);(·(exact to_))))|refine ycg ?_))
      repeat' (first|(refine ycf ?_;apply ybk;(·first|(exact tk_));(·rfl);(·rfl))|refine t1_ ?_|(refine ta_ ?_;intro _)|((fail_if_success (refine ybi rfl ?_));refine ybj rfl ?_ ?_<;>(intro ht;rw [ht];first|replace ht := oet_ ht|replace ht := oef_ ht|skip))|(refine ych ?_;first|(refine ybw rfl ?_ ?_<;>intro ht)|(refine ybx rfl ?_ ?_<;>intro ht)))
      refine nx_round (k + 1) (by show k + 1 ≤ a.length; omega) (by show a.length - (k + 1) < a.length - k; omega) ts_ (fun _ s => s)
    · have ek : k = a.length := by omega
      subst ek
      rw [← hd]
      repeat' (first|(refine ycf ?_;apply ybk;(·first|(exact tk_));(·rfl);(·rfl))|refine t1_ ?_|(refine ta_ ?_;intro _)|((fail_if_success (refine ybi rfl ?_));refine ybj rfl ?_ ?_<;>(intro ht;rw [ht];first|replace ht := oet_ ht|replace ht := oef_ ht|skip))|(refine ych ?_;first|(refine ybw rfl ?_ ?_<;>intro ht)|(refine ybx rfl ?_ ?_<;>intro ht)))
      trace_state
      exact nx_ret1 rfl (rv_tmp rfl) (fun w' s' => ⟨rfl, s'⟩)
  · have hd : decide (a = b) = false := by simp; intro e; exact hne (by rw [e])
    rw [hd]
    repeat' (first|(refine ycf ?_;apply ybk;(·first|(exact tk_));(·rfl);(·rfl))|refine t1_ ?_|(refine ta_ ?_;intro _)|((fail_if_success (refine ybi rfl ?_));refine ybj rfl ?_ ?_<;>(intro ht;rw [ht];first|replace ht := oet_ ht|replace ht := oef_ ht|skip))|(refine ych ?_;first|(refine ybw rfl ?_ ?_<;>intro ht)|(refine ybx rfl ?_ ?_<;>intro ht)))
    exact nx_ret1 rfl (rv_tmp rfl) (fun w' s' => ⟨rfl, s'⟩)
end Go.Proofs.YtgeepceieckooaaDoor
end

section
namespace Go.Ck
open Go
set_option linter.unusedVariables false
set_option linter.unusedSimpArgs false
section
variable {P : Program} {n : Nat} {K : Bs} {F : List (Nat × Value)} {h : View} {L : List Res} {Q : Exit → Act → World → Prop}
variable {dst : Option Nat} {ty : Nat} {pos : String} {af : Array Edge} {gd : Option (Nat × Bool)}
theorem own_cut {w : World} {e : TypeId} {sz m cap g j : Nat} {xs : List Value} (ho : w.ownsRow 0 e sz (.slice (some ⟨g, 0, none⟩) m cap) m xs) (hj : j ≤ m) : w.ownsRow 0 e sz (.slice (some ⟨g, 0, none⟩) j cap) j (xs.take (j * sz)) := by
  have hjm : j * sz ≤ m * sz := Nat.mul_le_mul_right _ hj
  refine ⟨by rw [List.length_take, ho.1]; omega, ?_⟩
  rcases ho.2 with ⟨q1, q2⟩ | ⟨g', cap', cur, q1, q2, q3, q4, q5, q6, q7⟩
  · cases q1
  · cases q1
    refine .inr ⟨g, cap, cur, rfl, q2, q3, by omega, q5, q6, ?_⟩
    rw [← q7, List.take_take]
    congr 1
    omega
theorem St.cut {w : World} {e : TypeId} {sz m cap g j k : Nat} {xs : List Value} (s : St K h L w) (hk : L[k]? = some (Res.row e sz (.slice (some ⟨g, 0, none⟩) m cap) m xs)) (hj : j ≤ m) : St K h (L.set k (Res.row e sz (.slice (some ⟨g, 0, none⟩) j cap) j (xs.take (j * sz)))) w := by
  have ho : w.ownsRow 0 e sz (.slice (some ⟨g, 0, none⟩) m cap) m xs := s.hd.own _ (List.mem_of_getElem? hk)
  refine s.swap hk rfl rfl rfl (Nat.le_refl _) (Nat.le_refl _) (fun _ _ _ => rfl) (own_cut ho hj) ?_ (fun b hb => .inl ?_)
  · simp [Res.row, Value.ownBlock]
  · have hb : b = g := by simpa [Res.row, Value.ownBlock] using hb
    subst hb
    simp [Res.row, Value.ownBlock]
theorem rx_cut {g' : Rg} {prs : List (Nat × Oper)} {e : TypeId} {sz m cap g : Nat} {xs : List Value} (k j : Nat) (hk : L[k]? = some (Res.row e sz (.slice (some ⟨g, 0, none⟩) m cap) m xs)) (hj : j ≤ m)
    (hx : RX P n K g' prs F h (L.set k (Res.row e sz (.slice (some ⟨g, 0, none⟩) j cap) j (xs.take (j * sz)))) Q) : RX P n K g' prs F h L Q := by
  unfold RX at *
  exact fun a w f s => hx a w f (s.cut hk hj)
theorem rx_row {g' : Rg} {prs : List (Nat × Oper)} (e : TypeId) (k : Nat) (hx : RX P n K g' prs F h (Res.row e k (.slice none 0 0) 0 [] :: L) Q) : RX P n K g' prs F h L Q := by
  unfold RX at *
  exact fun a w f s => hx a w f (s.rowNil e k)
theorem rx_grow_nil {g : Rg} {i : Nat} {r : List (Nat × Oper)} {T Ti e : Nat} {x y : Operand} {z : Value} {sz by' m : Nat} {kn : IntKind} (k : Nat) [tu : TyU P T (.slice e)] [ti : TyU P Ti (.int kn)] [tb : TyB P e z sz by'] (hx : ev F x = some (.slice none 0 0)) (hy : ev F y = some (.int .i64 m))
    (hk : L[k]? = some (Res.row e sz (.slice none 0 0) 0 [])) (hm : 0 < m) (hzs : z.cells.size = sz) (hsz : 0 < sz) (h63 : m ≤ maxLen) (hbytes : m * by' ≤ 140737488355328)
    (hw : wantedF g.ops F ⟨dst, .call ⟨.builtin .append, #[x, y], #[T, Ti]⟩, ty, pos, af, gd⟩ = some true) (hd : okd n dst = true) (hlo : g.lo i = true) (o1 : Owe g i h L)
    (o2 : ∀ b cap, Owe g i h (L.set k (Res.row e sz (.slice (some ⟨b, 0, none⟩) m cap) m (Builtin.zeroCells z.cells m).toList)))
    (hn : ∀ b cap, m ≤ cap → cap ≤ maxLen → RX P n K g r (putF dst (.slice (some ⟨b, 0, none⟩) m cap) F) h (L.set k (Res.row e sz (.slice (some ⟨b, 0, none⟩) m cap) m (Builtin.zeroCells z.cells m).toList)) Q) :
    RX P n K g ((i, ⟨dst, .call ⟨.builtin .append, #[x, y], #[T, Ti]⟩, ty, pos, af, gd⟩) :: r) F h L Q := by
  unfold RX at *
  intro a w f s
  obtain ⟨ii, hi, hz, hsize, hby⟩ := tb.ex
  subst hsize
  subst hby
  have h63i : (m : Int) ≤ 9223372036854775807 := by simp only [maxLen] at h63; omega
  have hr := Lib.run_append_nil_zeros (P := P) w T Ti ty e ii z .i64 kn tu.u ti.u hi hz m hm hsz h63i (by omega)
  have hge := grownCap_ge w m 0 e
  have hcm : grownCap w m 0 e ≤ maxLen := grownCap_le_maxLen w m 0 e h63
  generalize grownCap w m 0 e = cap at hr hge hcm
  have s' : St K h (L.set k (Res.row e ii.size (.slice (some ⟨w.heap.size, 0, none⟩) m cap) m (Builtin.zeroCells z.cells m).toList)) (w.drew.alloc (.cells (Builtin.zeroCells z.cells m ++ Builtin.zeroCells z.cells (cap - m)) e)) := by
    refine s.swap hk rfl rfl rfl (Nat.le_succ _) (by simp) (fun j hj _ => Go.RowKit.Below.heap_alloc w.drew _ j hj) ⟨?_, .inr ⟨w.heap.size, cap, _, rfl, Nat.zero_le _, heap_alloc_new w.drew _, hge, hcm, ?_, ?_⟩⟩ ?_ (fun b hb => .inr ?_)
    · simp [size_zeroCells, hzs]
    · simp only [Array.size_append, size_zeroCells, hzs, ← Nat.add_mul]
      congr 1
      omega
    · simp only [Array.toList_append]
      have : (Builtin.zeroCells z.cells m).toList.length = m * ii.size := by simp [size_zeroCells, hzs]
      rw [← this]
      exact List.take_left
    · simp [Res.row, Value.ownBlock]
    · have hb : b = w.heap.size := by simpa [Res.row, Value.ownBlock] using hb
      omega
  refine .inr (.inr ⟨wantedF_ok f hw, hlo, o1.out s, ?_⟩)
  unfold Oper.wp
  have : (execOp a.eval ⟨dst, .call ⟨.builtin .append, #[x, y], #[T, Ti]⟩, ty, pos, af, gd⟩).run P w = .ok (.value (.slice (some ⟨w.heap.size, 0, none⟩) m cap)) (w.drew.alloc (.cells (Builtin.zeroCells z.cells m ++ Builtin.zeroCells z.cells (cap - m)) e)) := by
    simp [execOp, resolve, invoke, builtin, f.ev hx, f.ev hy, hr]
  rw [this]
  exact ⟨(o2 _ cap).out s', hn _ cap hge hcm _ _ (f.put hd _) s'⟩
end
end Go.Ck
end

section
namespace Go.Ck
open Go
set_option linter.unusedVariables false
set_option linter.unusedSimpArgs false
theorem zc1_one {cs : Array Value} (h : cs.toList.all Value.oneCell' = true) (k : Nat) : ∀ u ∈ (Builtin.zeroCells cs k).toList, u.oneCell' = true := fun u hu => by
  unfold Builtin.zeroCells at hu
  simp only [Array.toList_map, List.mem_map, Array.mem_toList_iff, Array.mem_range] at hu
  obtain ⟨i, hi, rfl⟩ := hu
  have hpos : 0 < cs.size := by
    rcases Nat.eq_zero_or_pos cs.size with h0 | h0
    · rw [h0, Nat.mul_zero] at hi
      exact absurd hi (Nat.not_lt_zero _)
    · exact h0
  have hlt := Nat.mod_lt i hpos
  rw [getElem!_pos cs _ hlt]
  exact List.all_eq_true.1 h _ (Array.getElem_mem_toList hlt)
section
variable {P : Program} {n : Nat} {K : Bs} {F : List (Nat × Value)} {h : View} {L : List Res} {Q : Exit → Act → World → Prop}
variable {dst : Option Nat} {ty : Nat} {pos : String} {af : Array Edge} {gd : Option (Nat × Bool)}
theorem run_append_zeros_ck {w : World} (t tn ty' e : TypeId) {z : Value} {kn : IntKind} {size bytes : Nat} (ht : P.underlying t = some (.slice e)) (htn : P.underlying tn = some (.int kn)) (tb : TyB P e z size bytes) (hzs : z.cells.size = size) (hz1 : z.cells.toList.all Value.oneCell' = true) (hsz : 0 < size)
    (g m0 cap : Nat) (xs : List Value) (hown : w.ownsRow 0 e size (.slice (some ⟨g, 0, none⟩) m0 cap) m0 xs) (m : Nat) (h63 : m0 + m ≤ maxLen) (hbytes : (m0 + m) * bytes ≤ 140737488355328) :
    ∃ v' w', (Builtin.append_ #[t, tn] ty' #[.slice (some ⟨g, 0, none⟩) m0 cap, .int .i64 m]).run P w = .ok v' w' ∧ w'.ownsRow 0 e size v' (m0 + m) (xs ++ (Builtin.zeroCells z.cells m).toList) ∧ w.grownBy w' (some g) ∧
      w.drawn ≤ w'.drawn ∧ (v'.ownBlock = some g ∨ ∃ b, v'.ownBlock = some b ∧ w.heap.size ≤ b) := by
  obtain ⟨i, hi, hz, hsize, hby⟩ := tb.ex
  subst hsize
  subst hby
  have hsmall : m0 + m ≤ 9223372036854775807 := by simp only [maxLen] at h63; omega
  have hl : (Builtin.zeroCells z.cells m).toList.length = m * i.size := by simp [size_zeroCells, hzs]
  have h1 : ∀ u ∈ (Builtin.zeroCells z.cells m).toList, u.oneCell' = true := zc1_one hz1 m
  have hlen : (xs ++ (Builtin.zeroCells z.cells m).toList).length = (m0 + m) * i.size := by rw [List.length_append, hown.1, hl, Nat.add_mul]
  have hm48 : (m : Int) * (i.bytes : Int) ≤ 281474976710656 := by
    have h0 : m * i.bytes ≤ (m0 + m) * i.bytes := Nat.mul_le_mul_right _ (Nat.le_add_left _ _)
    rw [← Int.natCast_mul]
    omega
  rcases hown.2 with ⟨q1, q2⟩ | ⟨g', cap', cur, q1, hbg, hg, hnc, hcm, hcs, htake⟩
  · cases q1
  cases q1
  by_cases hroom : m0 + m ≤ cap
  · have hfit : m0 * i.size + (Builtin.zeroCells z.cells m).toList.length ≤ cur.size := by rw [hl, hcs, ← Nat.add_mul]; exact Nat.mul_le_mul_right _ hroom
    have hst := run_storeCells_at P g (m0 * i.size) e (Builtin.zeroCells z.cells m).toList 0 cur w hg (by simpa using hfit) h1
    simp only [Nat.add_zero] at hst
    have hw : IntKind.i64.wrap (m : Int) = m := by rw [IntKind.wrap_i64]; omega
    have hneg : ¬ ((m : Int) < 0) := by omega
    have hr : (Builtin.append_ #[t, tn] ty' #[.slice (some ⟨g, 0, none⟩) m0 cap, .int .i64 m]).run P w = .ok (.slice (some ⟨g, 0, none⟩) (m0 + m) cap) (w.setRow g (cur.toList.take (m0 * i.size) ++ (Builtin.zeroCells z.cells m).toList ++ cur.toList.drop (m0 * i.size + (Builtin.zeroCells z.cells m).toList.length)).toArray) := by
      have h48' : ¬ (281474976710656 < (m : Int) * (i.bytes : Int)) := by omega
      by_cases hm0 : m = 0
      · subst hm0
        have e0 : (Builtin.zeroCells z.cells 0).toList = [] := List.eq_nil_of_length_eq_zero (by rw [hl, Nat.zero_mul])
        rw [e0] at hst ⊢
        have hr0 : m0 ≤ cap := by omega
        simp at hst
        simp [Builtin.append_, run_underlying ht, run_underlying htn, sizeOf, typeInfo, zeroValue, hi, hz, asInt, asIntOf, hr0, Addr.add_lit, IntKind.wrap_i64]
        rw [hst]
        rfl
      · have hns : ¬ (m * i.size = 0) := Nat.mul_ne_zero hm0 (by omega)
        simp [Builtin.append_, run_underlying ht, run_underlying htn, sizeOf, typeInfo, zeroValue, hi, hz, asInt, asIntOf, hw, hneg, hns, h48', hroom, Addr.add_lit, hst]
    refine ⟨_, _, hr, ⟨hlen, .inr ⟨g, cap, _, rfl, hbg, setRow_heap w g cur _ e _ hg, hroom, hcm, ?_, ?_⟩⟩, ⟨rfl, rfl, rfl, by simp, fun k _ hk => setRow_other w g k _ (fun e => hk (by simp [e]))⟩, by simp, .inl rfl⟩
    · simp only [List.size_toArray, List.length_append, List.length_take, List.length_drop, Array.length_toList]
      rw [Array.length_toList] at hfit
      omega
    · rw [htake, ← hlen]
      exact List.take_left
  · have holds : ∀ j u, xs[j]? = some u → w.cell? ((⟨g, 0, none⟩ : Addr).add j) = some u := hown.cells (g := g) rfl
    have hold := run_firstCells_some (P := P) w.drew i.size m0 ⟨g, 0, none⟩ m0 cap xs hown.1 holds
    have hr := Lib.run_append_grow_zeros (P := P) w t tn ty' e i z .i64 kn ht htn hi hz (some ⟨g, 0, none⟩) m0 cap xs hold m (by omega) hsz (by omega) (by omega) (by rw [← Int.natCast_mul] at hm48; omega) (Nat.le_trans (growslice_fits (by omega) hbytes) (by omega))
    have hge := grownCap_ge w (m0 + m) cap e
    have hcm2 : grownCap w (m0 + m) cap e ≤ maxLen := grownCap_le_maxLen w (m0 + m) cap e h63
    refine ⟨_, _, hr, ⟨hlen, .inr ⟨w.heap.size, _, _, rfl, Nat.zero_le _, heap_alloc_new w.drew _, hge, hcm2, ?_, ?_⟩⟩, ⟨rfl, rfl, rfl, by simp, fun k hk _ => Go.RowKit.Below.heap_alloc w.drew _ k hk⟩, Nat.le_succ _, .inr ⟨_, rfl, Nat.le_refl _⟩⟩
    · simp only [Array.size_append, List.size_toArray, size_zeroCells, hzs, hown.1, ← Nat.add_mul]
      congr 1
      omega
    · simp only [Array.toList_append, List.append_assoc]
      rw [← List.append_assoc, ← hlen]
      exact List.take_left
theorem rx_append_zeros {g : Rg} {i : Nat} {r : List (Nat × Oper)} {T Ti e : Nat} {x y : Operand} {z : Value} {sz by' m0 m gb cap : Nat} {xs : List Value} {kn : IntKind} (k : Nat) [tu : TyU P T (.slice e)] [ti : TyU P Ti (.int kn)] [tb : TyB P e z sz by'] (hx : ev F x = some (.slice (some ⟨gb, 0, none⟩) m0 cap)) (hy : ev F y = some (.int .i64 m))
    (hk : L[k]? = some (Res.row e sz (.slice (some ⟨gb, 0, none⟩) m0 cap) m0 xs)) (hzs : z.cells.size = sz) (hz1 : z.cells.toList.all Value.oneCell' = true) (hsz : 0 < sz) (h63 : m0 + m ≤ maxLen) (hbytes : (m0 + m) * by' ≤ 140737488355328)
    (hw : wantedF g.ops F ⟨dst, .call ⟨.builtin .append, #[x, y], #[T, Ti]⟩, ty, pos, af, gd⟩ = some true) (hd : okd n dst = true) (hlo : g.lo i = true) (o1 : Owe g i h L)
    (o2 : ∀ v', Owe g i h (L.set k (Res.row e sz v' (m0 + m) (xs ++ (Builtin.zeroCells z.cells m).toList))))
    (hn : ∀ v', RX P n K g r (putF dst v' F) h (L.set k (Res.row e sz v' (m0 + m) (xs ++ (Builtin.zeroCells z.cells m).toList))) Q) :
    RX P n K g ((i, ⟨dst, .call ⟨.builtin .append, #[x, y], #[T, Ti]⟩, ty, pos, af, gd⟩) :: r) F h L Q := by
  unfold RX at *
  intro a w f s
  have hown : w.ownsRow 0 e sz (.slice (some ⟨gb, 0, none⟩) m0 cap) m0 xs := s.hd.own _ (List.mem_of_getElem? hk)
  obtain ⟨v', w', hrun, how', hgr, hdr, hblk⟩ := run_append_zeros_ck (P := P) T Ti ty e tu.u ti.u tb hzs hz1 hsz gb m0 cap xs hown m h63 hbytes
  have s' : St K h (L.set k (Res.row e sz v' (m0 + m) (xs ++ (Builtin.zeroCells z.cells m).toList))) w' := by
    refine s.swap hk hgr.os hgr.tape hgr.output hdr hgr.size (fun j hj hjd => hgr.block j hj (fun hh => hjd ?_)) how' ?_ (fun b hb => ?_)
    · show j ∈ (Value.ownBlock (.slice (some ⟨gb, 0, none⟩) m0 cap)).toList
      cases hh
      simp [Value.ownBlock]
    · show v'.ownBlock.toList.Nodup
      cases v'.ownBlock <;> simp
    · have hb : v'.ownBlock = some b := by simpa [Res.row] using hb
      rcases hblk with hh | ⟨b', hh, hge⟩
      · refine .inl ?_
        rw [hb] at hh
        cases hh
        simp [Res.row, Value.ownBlock]
      · rw [hb] at hh; cases hh; exact .inr hge
  refine .inr (.inr ⟨wantedF_ok f hw, hlo, o1.out s, ?_⟩)
  unfold Oper.wp
  have : (execOp a.eval ⟨dst, .call ⟨.builtin .append, #[x, y], #[T, Ti]⟩, ty, pos, af, gd⟩).run P w = .ok (.value v') w' := by
    simp [execOp, resolve, invoke, builtin, f.ev hx, f.ev hy, hrun]
  rw [this]
  exact ⟨(o2 v').out s', hn v' _ _ (f.put hd v') s'⟩
end
end Go.Ck
end

section
namespace Go.Proofs.YtgeepceieckooaaDoor
open Go Go.Ck
set_option maxRecDepth 100000
set_option maxHeartbeats 4000000
set_option linter.unusedVariables false
def padW (b : List Int) : List Int := num4 b.length ++ b ++ List.replicate ((sizeF b.length).toNat - (4 + b.length)) 0
theorem sizeF_bd {n : Int} (h0 : 0 ≤ n) (h1 : n ≤ 4000) : n + 4 ≤ sizeF n ∧ sizeF n ≤ 4096 := by
  unfold sizeF classK
  split
  · simp; omega
  · split
    · simp; omega
    · split
      · simp; omega
      · simp; omega
theorem padW_len {b : List Int} (hl : b.length ≤ 4000) : (padW b).length = (sizeF b.length).toNat := by
  have := sizeF_bd (n := b.length) (by omega) (by omega)
  simp only [padW, List.length_append, num4_len, List.length_replicate]
  omega
theorem padW_by {b : List Int} (hb : Bytes b) : Bytes (padW b) := cbytes_app (cbytes_app (putLow_bytes' 4 _) hb) (zeros_by _)
theorem Pad_sp (v : Value) (b : List Int) (hl : b.length ≤ 4000) (h : View) (hb : Bs8 h v b) (w : World) (s : St ⟨w, h, []⟩ h [] w) :
    Calls Tryd.prog 14 [v].toArray w fun e w' => ∃ v, e = .returned (.tuple #[v, .int .i64 0]) ∧ St ⟨w, h, []⟩ h [rowB v (padW b)] w' ∧ True := by
  obtain ⟨_, ad, cap, rfl, hcap, _⟩ := id hb
  have C1 := Class_sp (b.length : Nat) (by omega) (by omega) h
  have hsz := sizeF_bd (n := b.length) (by omega) (by omega)
  refine calls_enter Tryd.func14 rfl Tryd.ntmps14 rfl s ?_
  repeat' (first|refine tw_ ?_|(refine ta_ ?_;intro _)|((fail_if_success (refine ybi rfl ?_));refine ybj rfl ?_ ?_<;>(intro ht;rw [ht];first|replace ht := oet_ ht|replace ht := oef_ ht|skip))|(refine ych ?_;first|(refine ybw rfl ?_ ?_<;>intro ht)|(refine ybx rfl ?_ ?_<;>intro ht)))
  (refine ycn (ycp Tryd.func25 rfl (by kernel_rfl) rfl) (C1) rfl rfl rfl ?_ ?_; (· (exact to_)))
  repeat' (first|(refine ycf ?_;apply ybk;(·first|(exact tk_));(·rfl);(·rfl))|refine t1_ ?_|(refine ta_ ?_;intro _)|((fail_if_success (refine ybi rfl ?_));refine ybj rfl ?_ ?_<;>(intro ht;rw [ht];first|replace ht := oet_ ht|replace ht := oef_ ht|skip))|(refine ych ?_;first|(refine ybw rfl ?_ ?_<;>intro ht)|(refine ybx rfl ?_ ?_<;>intro ht)))
  rename_i bo
  refine rx_row 5 1 ?_
  refine rx_perm (List.Perm.swap _ _ _) ?_
  (refine rx_call_2 (ycp Tryd.func26 rfl (by kernel_rfl) rfl) (OutBytes_sp bo (.slice none 0 0) [] false _ b (by simp; omega) h hb) rfl rfl rfl ?_ ?_ ?_; (· (exact to_)); (· intro _ _ hle; (exact to_)); intro x px hle)
  repeat' (first|(refine ycf ?_;apply ybk;(·first|(exact tk_));(·rfl);(·rfl))|refine t1_ ?_|(refine ta_ ?_;intro _)|((fail_if_success (refine ybi rfl ?_));refine ybj rfl ?_ ?_<;>(intro ht;rw [ht];first|replace ht := oet_ ht|replace ht := oef_ ht|skip))|(refine ych ?_;first|(refine ybw rfl ?_ ?_<;>intro ht)|(refine ybx rfl ?_ ?_<;>intro ht)))
  have hlen : ([] ++ num4 (b.length : Nat) ++ b).length = 4 + b.length := by simp [num4_len]
  (refine rx_call_2 (ycp Tryd.func18 rfl (by kernel_rfl) rfl) (Done_sp bo x ([] ++ num4 (b.length : Nat) ++ b) (by rw [hlen]; omega) h) rfl rfl rfl ?_ ?_ ?_; (· (exact to_)); (· intro _ _ hle; (exact to_)); intro x px hle)
  rw [List.nil_append] at hlen ⊢
  refine rx_rowform 0 rfl (fun _ h1 _ => (by omega)) ?_
  rintro g1 cap1 rfl
  have ws : IntKind.i64.wrap (sizeF (b.length : Nat) - ((num4 (b.length : Nat) ++ b).length : Nat)) = (((sizeF (b.length : Nat)).toNat - (4 + b.length) : Nat) : Int) := by rw [hlen, IntKind.wrap_i64]<;>omega
  repeat' (first|(refine ycf ?_;apply ybk;(·first|(first|exact tk_|(refine qv_subr rfl rfl ws)));(·rfl);(·rfl))|refine t1_ ?_|(refine ta_ ?_;intro _)|((fail_if_success (refine ybi rfl ?_));refine ybj rfl ?_ ?_<;>(intro ht;rw [ht];first|replace ht := oet_ ht|replace ht := oef_ ht|skip))|(refine ych ?_;first|(refine ybw rfl ?_ ?_<;>intro ht)|(refine ybx rfl ?_ ?_<;>intro ht)))
  refine rx_append_zeros (z := .int .u8 0) (sz := 1) 0 rfl rfl rfl rfl rfl (by omega) (by unfold maxLen; rw [hlen]; omega) (by rw [hlen]; omega) rfl rfl rfl ybf (fun _ => ybf) ?_
  intro v9
  have hz : (Builtin.zeroCells (Value.int .u8 0).cells ((sizeF (b.length : Nat)).toNat - (4 + b.length))).toList = bcs (List.replicate ((sizeF (b.length : Nat)).toNat - (4 + b.length)) 0) := by
    rw [← zeros_bcs]
    apply List.ext_getElem
    · simp [size_zeroCells, Value.cells]
    · intro i h1 h2
      simp [Builtin.zeroCells, Value.cells, Nat.mod_one]
  rw [hz, ← bcs_app]
  repeat' (first|refine tw_ ?_|(refine ta_ ?_;intro _)|((fail_if_success (refine ybi rfl ?_));refine ybj rfl ?_ ?_<;>(intro ht;rw [ht];first|replace ht := oet_ ht|replace ht := oef_ ht|skip))|(refine ych ?_;first|(refine ybw rfl ?_ ?_<;>intro ht)|(refine ybx rfl ?_ ?_<;>intro ht)))
  refine nx_ret2 rfl (rv_tmp rfl) (rv_tmp rfl) (fun w' s' => ⟨v9, rfl, ?_, trivial⟩)
  have s3 := s'.keep1
  unfold rowB
  rw [padW_len hl]
  have e : (num4 (b.length : Nat) ++ b).length + ((sizeF (b.length : Nat)).toNat - (4 + b.length)) = (sizeF (b.length : Nat)).toNat := by rw [hlen]; omega
  rw [e] at s3
  exact s3
end Go.Proofs.YtgeepceieckooaaDoor
end

section
namespace Go.Ck
open Go
set_option linter.unusedVariables false
set_option linter.unusedSimpArgs false
section
variable {P : Program} {n : Nat} {K : Bs} {F : List (Nat × Value)} {h : View} {L : List Res} {Q : Exit → Act → World → Prop}
variable {dst : Option Nat} {ty : Nat} {pos : String} {af : Array Edge} {gd : Option (Nat × Bool)}
theorem rx_noZero {g : Rg} {i : Nat} {r : List (Nat × Oper)} {f : FuncId} {fn : Func} {x : Operand} {T e m : Nat} {ps ats : Array TypeId} [tu : TyU P T (.slice e)] (hf : P.funcs[f]? = some fn) (hname : (fn.name == "runtime.NumGoroutine") = false)
    (hb : fn.body.isNone = true) (hnx : Extern.findNext fn = none) (he : Extern.find fn = some (Extern.BytealgMakeNoZero.makeNoZero ps #[T])) (hx : ev F x = some (.int .i64 m)) (hm : m ≤ 1000000)
    (hw : wantedF g.ops F ⟨dst, .call ⟨.value (.func f), #[x], ats⟩, ty, pos, af, gd⟩ = some true) (hd : okd n dst = true) (hl : g.lo i = true) (o1 : Owe g i h L) (o2 : ∀ b cs, Owe g i h (Res.blk b (.cells cs e (0, 0)) :: L))
    (hn : ∀ b (cs : Array Value), m ≤ cs.size → cs.size ≤ maxLen → RX P n K g r (putF dst (.slice (some ⟨b, 0, none⟩) m cs.size) F) h (Res.blk b (.cells cs e (0, 0)) :: L) Q) : RX P n K g ((i, ⟨dst, .call ⟨.value (.func f), #[x], ats⟩, ty, pos, af, gd⟩) :: r) F h L Q := by
  unfold RX at *
  intro a w fr s
  obtain ⟨cs, hrun, h1, h2⟩ := Lib.run_makeNoZero (P := P) w ps T e tu.u m (by omega)
  have s1 := s.drew.drew.alloc (.cells cs e (0, 0))
  refine .inr (.inr ⟨wantedF_ok fr hw, hl, o1.out s, ?_⟩)
  unfold Oper.wp
  have hex : (execOp a.eval ⟨dst, .call ⟨.value (.func f), #[x], ats⟩, ty, pos, af, gd⟩).run P w = .ok (.value (.slice (some ⟨w.heap.size, 0, none⟩) m cs.size)) (w.drew.drew.alloc (.cells cs e)) := by
    have hc := run_callFunc_extern (P := P) hf hname hb hnx he #[.int .i64 m] w
    rw [hrun] at hc
    have hfv : a.eval (.func f) = .func (.func f) #[] #[] := rfl
    simp [execOp, resolve, hfv, Deferred.ofValue, invoke, fr.ev hx, hc]
  rw [hex]
  exact ⟨(o2 _ _).out s1, hn _ cs h1 (h2 (by unfold maxLen; omega)) _ _ (fr.put hd _) s1⟩
theorem qv_slice_max {T e k : Nat} {x y z : Operand} {ad : Option Addr} {len cap : Nat} {ky kz : IntKind} {i m : Nat} [tu : TyU P T (.slice e)] [ts : TyS P e k] (hx : ev F x = some (.slice ad len cap)) (hy : ev F y = some (.int ky i)) (hz : ev F z = some (.int kz m)) (h0 : i ≤ m) (h1 : m ≤ cap) :
    QV P n F h L ⟨dst, .slice T x none (some y) (some z), ty, pos, af, gd⟩ (.slice ad i m) := .mk fun a w f s => by
  have h2 : (i : Int) ≤ (m : Int) := by omega
  have h3 : (m : Int) ≤ (cap : Int) := by omega
  simp [execOp, f.ev hx, f.ev hy, f.ev hz, Instr.sliceAt, Instr.slice, Instr.sliceBounds, Instr.sliceBound, asIntOf, run_underlying tu.u, ts.s, h0, h1, h2, h3]
  intro hc
  cases ad with
  | none => rfl
  | some ad => simp [Addr.add]
theorem qv_binc {op : BinOp} {T T' : Nat} {x y : Operand} {kx ky : IntKind} {i j : Int} {v : Value} (hx : ev F x = some (.int kx i)) (hy : ev F y = some (.int ky j)) (hg : ∀ w, (eqGuard op T x y (.int kx i) (.int ky j)).run P w = .ok () w) (hr : ∀ w, (binOp op T (.int kx i) (.int ky j)).run P w = .ok v w) :
    QV P n F h L ⟨dst, .binOp op T x y T', ty, pos, af, gd⟩ v := .mk fun a w f s => by
  simp [execOp, f.ev hx, f.ev hy, hg, hr]
end
theorem qv_slice_fromz {P : Program} {n : Nat} {F : List (Nat × Value)} {h : View} {L : List Res} {dst : Option Nat} {ty : Nat} {pos : String} {af : Array Edge} {gd : Option (Nat × Bool)} {T e k : Nat} {x y : Operand} {b len cap i : Nat} {ki : IntKind} [tu : TyU P T (.slice e)] [ts : TyS P e k] (hx : ev F x = some (.slice (some ⟨b, 0, none⟩) len cap)) (hy : ev F y = some (.int ki i)) (h1 : i ≤ len) (h2 : i < cap) :
    QV P n F h L ⟨dst, .slice T x (some y) none none, ty, pos, af, gd⟩ (.slice (some ⟨b, i * k, none⟩) (len - i) (cap - i)) := by
  have := qv_slice_from (P := P) (n := n) (h := h) (L := L) (dst := dst) (ty := ty) (pos := pos) (af := af) (gd := gd) (T := T) (e := e) (k := k) hx hy h1
  have e1 : cutF (some ⟨b, 0, none⟩) cap i k = some ⟨b, i * k, none⟩ := by
    unfold cutF
    rw [if_neg (by omega)]
    show some ((⟨b, 0, none⟩ : Addr).add (i * k)) = _
    rw [Addr.add_off, Nat.zero_add]
  rwa [e1] at this
end Go.Ck
end

section
namespace Go.Proofs.YtgeepceieckooaaDoor
open Go Go.Ck
set_option maxRecDepth 100000
set_option maxHeartbeats 4000000
set_option linter.unusedVariables false
theorem bGrow_sp (m : Nat) (hm : m ≤ 1000000) (h : View) (w : World) (s : St ⟨w, h, []⟩ h [] w) :
    Calls Tryd.prog 72 [.slice none 0 0, .int .i64 m].toArray w fun e w' => ∃ v, e = .returned v ∧ St ⟨w, h, []⟩ h [rowB v []] w' ∧ True := by
  refine calls_enter Tryd.func72 rfl Tryd.ntmps72 rfl s ?_
  repeat' (first|(refine ycf ?_;apply ybk;(·first|(first|(apply qv_cap;rfl)|(apply qv_slice_to;(·rfl);(·rfl);(·omega);(·omega))));(·rfl);(·rfl))|refine t1_ ?_|(refine ta_ ?_;intro _)|((fail_if_success (refine ybi rfl ?_));refine ybj rfl ?_ ?_<;>(intro ht;rw [ht];first|replace ht := oet_ ht|replace ht := oef_ ht|skip))|(refine ych ?_;first|(refine ybw rfl ?_ ?_<;>intro ht)|(refine ybx rfl ?_ ?_<;>intro ht)))
  · refine rx_row 5 1 ?_
    have hm0 : 0 < m := by omega
    have e1 : (m : Int) - (((0 : Nat) : Int) - ((0 : Nat) : Int)) = m := by omega
    rw [e1]
    refine rx_grow_nil 0 rfl rfl rfl hm0 rfl (by omega) (by unfold maxLen; omega) (by omega) rfl rfl rfl ybf (fun _ _ => ybf) ?_
    intro b cap hc1 hc2
    refine rx_cut 0 0 rfl (Nat.zero_le _) ?_
    repeat' (first|(refine ycf ?_;apply ybk;(·first|(first|(apply qv_cap;rfl)|(apply qv_slice_to;(·rfl);(·rfl);(·omega);(·omega))));(·rfl);(·rfl))|refine t1_ ?_|(refine ta_ ?_;intro _)|((fail_if_success (refine ybi rfl ?_));refine ybj rfl ?_ ?_<;>(intro ht;rw [ht];first|replace ht := oet_ ht|replace ht := oef_ ht|skip))|(refine ych ?_;first|(refine ybw rfl ?_ ?_<;>intro ht)|(refine ybx rfl ?_ ?_<;>intro ht)))
    refine nx_ret1 rfl (rv_tmp rfl) (fun w' s' => ⟨_, rfl, ?_, trivial⟩)
    exact s'
  · refine nx_ret1 rfl (rv_tmp rfl) (fun w' s' => ⟨_, rfl, ?_, trivial⟩)
    exact s'.rowNil _ _
def flatB (parts : List (Value × List Int)) (k : Nat) : List Int := (parts.take k).flatMap (·.2)
theorem flatB_succ {parts : List (Value × List Int)} {k : Nat} (hk : k < parts.length) : flatB parts (k + 1) = flatB parts k ++ parts[k].2 := by
  unfold flatB
  rw [List.take_succ_eq_append_getElem hk, List.flatMap_append]
  simp
theorem flatB_le {parts : List (Value × List Int)} {k : Nat} (hk : k ≤ parts.length) : (flatB parts k).length ≤ (flatB parts parts.length).length := by
  unfold flatB
  rw [List.take_length]
  conv => rhs; rw [← List.take_append_drop k parts]
  rw [List.flatMap_append, List.length_append]
  omega
theorem bConcat_sp (sv : Value) (parts : List (Value × List Int)) (h : View) (hs : Sc h 1 sv parts.length (parts.map (·.1))) (hp : ∀ p ∈ parts, Bs8 h p.1 p.2) (hlen : (flatB parts parts.length).length ≤ 1000000) (hpl : parts.length ≤ 1000000) (w : World) (s : St ⟨w, h, []⟩ h [] w) :
    Calls Tryd.prog 59 [sv].toArray w fun e w' => ∃ v, e = .returned v ∧ St ⟨w, h, []⟩ h [rowB v (flatB parts parts.length)] w' ∧ True := by
  obtain ⟨_, ad, cap, rfl, hcap, _⟩ := id hs
  refine calls_enter Tryd.func59 rfl Tryd.ntmps59 rfl s ?_
  repeat' (first|(refine ycf ?_;apply ybk;(·first|(first|(apply qv_cap;rfl)|(apply qv_slice_to;(·rfl);(·rfl);(·omega);(·omega))));(·rfl);(·rfl))|refine t1_ ?_|(refine ta_ ?_;intro _)|((fail_if_success (refine ybi rfl ?_));refine ybj rfl ?_ ?_<;>(intro ht;rw [ht];first|replace ht := oet_ ht|replace ht := oef_ ht|skip))|(refine ych ?_;first|(refine ybw rfl ?_ ?_<;>intro ht)|(refine ybx rfl ?_ ?_<;>intro ht)))
  refine cx_loop (X := Nat) (fun k => [(0, .slice ad parts.length cap), (3, .int .i64 (flatB parts k).length), (9, .slice ad parts.length cap), (10, .int .i64 parts.length), (11, .int .i64 k)]) (fun _ => h) (fun _ => []) (fun k => k ≤ parts.length) (fun k => parts.length - k) 0 (Nat.zero_le _) ts_ (fun _ s => s) ?_
  intro k hk
  by_cases hkl : k < parts.length
  · obtain ⟨bs, o, rfl⟩ := hs.ad (by omega) (by omega)
    have hel : ∀ L, CellAt h L bs (o + k * 1) parts[k].1 := fun L => (hs.cells (L := L)).cell (by simp [hkl])
    have hd := hp _ (List.getElem_mem hkl)
    obtain ⟨_, ad1, cap1, hv1, _, _⟩ := id hd
    have e1 := flatB_succ hkl
    have h1 := flatB_le (parts := parts) (k := k + 1) hkl
    have h2 : (flatB parts (k + 1)).length = (flatB parts k).length + parts[k].2.length := by rw [e1, List.length_append]
    rw [hv1] at hel
    repeat' (first|(refine ycf ?_;apply ybk;(·first|(first|(apply qv_cap;rfl)|(apply qv_slice_to;(·rfl);(·rfl);(·omega);(·omega)))|(apply yae;(·rfl);(·exact hel _)));(·rfl);(·rfl))|refine t1_ ?_|(refine ta_ ?_;intro _)|((fail_if_success (refine ybi rfl ?_));refine ybj rfl ?_ ?_<;>(intro ht;rw [ht];first|replace ht := oet_ ht|replace ht := oef_ ht|skip))|(refine ych ?_;first|(refine ybw rfl ?_ ?_<;>intro ht)|(refine ybx rfl ?_ ?_<;>intro ht)))
    · refine nx_round (k + 1) (by show k + 1 ≤ _; omega) (by show parts.length - (k + 1) < parts.length - k; omega) ?_ (fun _ s => s)
      rw [h2]
      exact ts_
    · omega
  · have ek : k = parts.length := by omega
    subst ek
    repeat' (first|(refine ycf ?_;apply ybk;(·first|(first|(apply qv_cap;rfl)|(apply qv_slice_to;(·rfl);(·rfl);(·omega);(·omega)))|(apply yae;(·rfl);(·exact hel _)));(·rfl);(·rfl))|refine t1_ ?_|(refine ta_ ?_;intro _)|((fail_if_success (refine ybi rfl ?_));refine ybj rfl ?_ ?_<;>(intro ht;rw [ht];first|replace ht := oet_ ht|replace ht := oef_ ht|skip))|(refine ych ?_;first|(refine ybw rfl ?_ ?_<;>intro ht)|(refine ybx rfl ?_ ?_<;>intro ht)))
    · omega
    (refine yco (ycp Tryd.func72 rfl (by kernel_rfl) rfl) (bGrow_sp (flatB parts parts.length).length hlen h) rfl rfl rfl ?_ ?_ ?_; (· (exact to_)); (· intro _ _ hle; (exact to_)); intro x px hle)
    repeat' (first|(refine ycf ?_;apply ybk;(·first|(first|(apply qv_cap;rfl)|(apply qv_slice_to;(·rfl);(·rfl);(·omega);(·omega)))|(apply yae;(·rfl);(·exact hel _)));(·rfl);(·rfl))|refine t1_ ?_|(refine ta_ ?_;intro _)|((fail_if_success (refine ybi rfl ?_));refine ybj rfl ?_ ?_<;>(intro ht;rw [ht];first|replace ht := oet_ ht|replace ht := oef_ ht|skip))|(refine ych ?_;first|(refine ybw rfl ?_ ?_<;>intro ht)|(refine ybx rfl ?_ ?_<;>intro ht)))
    have e0 : flatB parts 0 = [] := rfl
    refine cx_loop (X := Nat × Value) (fun y => [(6, y.2), (25, .slice ad parts.length cap), (26, .int .i64 parts.length), (27, .int .i64 y.1)]) (fun _ => h) (fun y => [rowB y.2 (flatB parts y.1)]) (fun y => y.1 ≤ parts.length) (fun y => parts.length - y.1) (0, x) (Nat.zero_le _) ts_ (fun _ s => s) ?_
    rintro ⟨k, v⟩ hk
    replace hk : k ≤ parts.length := hk
    dsimp only
    by_cases hkl : k < parts.length
    · obtain ⟨bs, o, rfl⟩ := hs.ad (by omega) (by omega)
      have hel : ∀ L, CellAt h L bs (o + k * 1) parts[k].1 := fun L => (hs.cells (L := L)).cell (by simp [hkl])
      have hd := hp _ (List.getElem_mem hkl)
      obtain ⟨_, ad1, cap1, hv1, _, _⟩ := id hd
      have e1 := flatB_succ hkl
      have h1 := flatB_le (parts := parts) (k := k + 1) hkl
      have h2 : (flatB parts (k + 1)).length = (flatB parts k).length + parts[k].2.length := by rw [e1, List.length_append]
      rw [hv1] at hel hd
      repeat' (first|(refine ycf ?_;apply ybk;(·first|(first|(apply qv_cap;rfl)|(apply qv_slice_to;(·rfl);(·rfl);(·omega);(·omega)))|(apply yae;(·rfl);(·exact hel _)));(·rfl);(·rfl))|refine t1_ ?_|(refine ta_ ?_;intro _)|((fail_if_success (refine ybi rfl ?_));refine ybj rfl ?_ ?_<;>(intro ht;rw [ht];first|replace ht := oet_ ht|replace ht := oef_ ht|skip))|(refine ych ?_;first|(refine ybw rfl ?_ ?_<;>intro ht)|(refine ybx rfl ?_ ?_<;>intro ht)))
      · refine rx_append_sc (sz := 1) 0 rfl rfl rfl hd (bcs_one _) rfl (by omega) (by unfold maxLen; omega) (by omega) rfl rfl rfl ybf (fun _ => ybf) ?_
        intro v2 _
        repeat' (first|(refine ycf ?_;apply ybk;(·first|(first|(apply qv_cap;rfl)|(apply qv_slice_to;(·rfl);(·rfl);(·omega);(·omega)))|(apply yae;(·rfl);(·exact hel _)));(·rfl);(·rfl))|refine t1_ ?_|(refine ta_ ?_;intro _)|((fail_if_success (refine ybi rfl ?_));refine ybj rfl ?_ ?_<;>(intro ht;rw [ht];first|replace ht := oet_ ht|replace ht := oef_ ht|skip))|(refine ych ?_;first|(refine ybw rfl ?_ ?_<;>intro ht)|(refine ybx rfl ?_ ?_<;>intro ht)))
        refine nx_round (k + 1, v2) (by show k + 1 ≤ _; omega) (by show parts.length - (k + 1) < parts.length - k; omega) ts_ (fun _ s => ?_)
        dsimp only
        unfold rowB
        rw [h2, e1, bcs_app]
        exact s
      · omega
    · have ek : k = parts.length := by omega
      subst ek
      repeat' (first|(refine ycf ?_;apply ybk;(·first|(first|(apply qv_cap;rfl)|(apply qv_slice_to;(·rfl);(·rfl);(·omega);(·omega)))|(apply yae;(·rfl);(·exact hel _)));(·rfl);(·rfl))|refine t1_ ?_|(refine ta_ ?_;intro _)|((fail_if_success (refine ybi rfl ?_));refine ybj rfl ?_ ?_<;>(intro ht;rw [ht];first|replace ht := oet_ ht|replace ht := oef_ ht|skip))|(refine ych ?_;first|(refine ybw rfl ?_ ?_<;>intro ht)|(refine ybx rfl ?_ ?_<;>intro ht)))
      · omega
      refine nx_ret1 rfl (rv_tmp rfl) (fun w' s' => ⟨_, rfl, ?_, trivial⟩)
      exact s'
end Go.Proofs.YtgeepceieckooaaDoor
end
