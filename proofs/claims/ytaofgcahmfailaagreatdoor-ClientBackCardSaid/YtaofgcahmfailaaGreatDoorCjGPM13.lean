/-
  Part 13 of a proof: RkA HmA HmB HmC CkStr CkMark KyA PoE.
  Conditions: each theorem states its own.
-/
import Derived.Laws.IdiomStrings
import Derived.Test.YtaofgcahmfailaaGreatDoorCjGPM12
set_option maxRecDepth 100000
set_option linter.unusedVariables false
set_option linter.unusedSimpArgs false
section
namespace Go.Proofs.YtaofgcahmfailaaGreatDoor
open Go Go.Ck
set_option maxHeartbeats 4000000
theorem Mul64_sp (h : View) (w : World) (s : St ⟨w, h, []⟩ h [] w) :
    Calls Tryz.prog 125 [.int .u64 1, .int .u64 64].toArray w fun e w' => e = .returned (.tuple #[.int .u64 0, .int .u64 64]) ∧ St ⟨w, h, []⟩ h [] w' := by
  refine calls_enter Tryz.func125 rfl Tryz.ntmps125 rfl s ?_
  repeat' (first|(refine ycf ?_;apply ybk;(·first|(refine qv_binc rfl rfl (fun _ => rfl) (fun _ => rfl)));(·rfl);(·rfl))|refine t1_ ?_|(refine ta_ ?_;intro _)|((fail_if_success (refine ybi rfl ?_));refine ybj rfl ?_ ?_<;>(intro ht;rw [ht];first|replace ht := oet_ ht|replace ht := oef_ ht|skip))|(refine ych ?_;first|(refine ybw rfl ?_ ?_<;>intro ht)|(refine ybx rfl ?_ ?_<;>intro ht)))
  exact nx_ret2 rfl (rv_tmp rfl) (rv_tmp rfl) (fun w' s' => ⟨rfl, s'⟩)
theorem Mul_sp (h : View) (w : World) (s : St ⟨w, h, []⟩ h [] w) :
    Calls Tryz.prog 115 [.int .u64 1, .int .u64 64].toArray w fun e w' => e = .returned (.tuple #[.int .u64 0, .int .u64 64]) ∧ St ⟨w, h, []⟩ h [] w' := by
  refine calls_enter Tryz.func115 rfl Tryz.ntmps115 rfl s ?_
  repeat' (first|(refine ycf ?_;apply ybk;(·first|(refine qv_convert_int' rfl rfl));(·rfl);(·rfl))|refine t1_ ?_|(refine ta_ ?_;intro _)|((fail_if_success (refine ybi rfl ?_));refine ybj rfl ?_ ?_<;>(intro ht;rw [ht];first|replace ht := oet_ ht|replace ht := oef_ ht|skip))|(refine ych ?_;first|(refine ybw rfl ?_ ?_<;>intro ht)|(refine ybx rfl ?_ ?_<;>intro ht)))
  (refine ycn (ycp Tryz.func125 rfl (by kernel_rfl) rfl) (Mul64_sp h) rfl rfl rfl ?_ ?_; (· (exact to_)))
  repeat' (first|(refine ycf ?_;apply ybk;(·first|(refine qv_convert_int' rfl rfl));(·rfl);(·rfl))|refine t1_ ?_|(refine ta_ ?_;intro _)|((fail_if_success (refine ybi rfl ?_));refine ybj rfl ?_ ?_<;>(intro ht;rw [ht];first|replace ht := oet_ ht|replace ht := oef_ ht|skip))|(refine ych ?_;first|(refine ybw rfl ?_ ?_<;>intro ht)|(refine ybx rfl ?_ ?_<;>intro ht)))
  exact nx_ret2 rfl (rv_tmp rfl) (rv_tmp rfl) (fun w' s' => ⟨rfl, s'⟩)
theorem Repeat_sp (v : Value) (x : Int) (hx : 0 ≤ x ∧ x < 256) (h : View) (hb : Bs8 h v [x]) (w : World) (s : St ⟨w, h, []⟩ h [] w) :
    Calls Tryz.prog 101 [v, .int .i64 64].toArray w fun e w' => ∃ y : View × Value, e = .returned y.2 ∧ St ⟨w, h, []⟩ y.1 [] w' ∧ Bs8 y.1 y.2 (List.replicate 64 x) := by
  obtain ⟨_, ad, cap, rfl, hcap, _⟩ := id hb
  refine calls_enter Tryz.func101 rfl Tryz.ntmps101 rfl s ?_
  repeat' (first|(refine ycf ?_;apply ybk;(·first|(first|exact tk_|(refine qv_convert_int' rfl rfl)|(refine qv_binc rfl rfl (fun _ => rfl) (fun _ => rfl))));(·rfl);(·rfl))|refine t1_ ?_|(refine ta_ ?_;intro _)|((fail_if_success (refine ybi rfl ?_));refine ybj rfl ?_ ?_<;>(intro ht;rw [ht];first|replace ht := oet_ ht|replace ht := oef_ ht|skip))|(refine ych ?_;first|(refine ybw rfl ?_ ?_<;>intro ht)|(refine ybx rfl ?_ ?_<;>intro ht)))
  (refine ycn (ycp Tryz.func115 rfl (by kernel_rfl) rfl) (Mul_sp h) rfl rfl rfl ?_ ?_; (· (exact to_)))
  repeat' (first|(refine ycf ?_;apply ybk;(·first|(first|exact tk_|(refine qv_convert_int' rfl rfl)|(refine qv_binc rfl rfl (fun _ => rfl) (fun _ => rfl))));(·rfl);(·rfl))|refine t1_ ?_|(refine ta_ ?_;intro _)|((fail_if_success (refine ybi rfl ?_));refine ybj rfl ?_ ?_<;>(intro ht;rw [ht];first|replace ht := oet_ ht|replace ht := oef_ ht|skip))|(refine ych ?_;first|(refine ybw rfl ?_ ?_<;>intro ht)|(refine ybx rfl ?_ ?_<;>intro ht)))
  refine rx_noZero (T := 33) (ps := #[3]) (m := 64) Tryz.func116 (by kernel_rfl) (by kernel_rfl) (by kernel_rfl) (by kernel_rfl) rfl (by omega) rfl rfl rfl ybf (fun _ _ => ybf) ?_
  intro g cs hcs1 hcs2
  repeat' (first|(refine ycf ?_;apply ybk;(·first|(first|exact tk_|(refine qv_slice_max (i := 64) (m := 64) rfl rfl rfl (by omega) (by omega))));(·rfl);(·rfl))|refine t1_ ?_|(refine ta_ ?_;intro _)|((fail_if_success (refine ybi rfl ?_));refine ybj rfl ?_ ?_<;>(intro ht;rw [ht];first|replace ht := oet_ ht|replace ht := oef_ ht|skip))|(refine ych ?_;first|(refine ybw rfl ?_ ?_<;>intro ht)|(refine ybx rfl ?_ ?_<;>intro ht)))
  obtain ⟨bb, ob, rfl⟩ := hb.ad (by simp) (by omega)
  refine rx_copy (news := [.int .u8 x]) 0 rfl rfl rfl hb.cells rfl (by show 0 + 1 ≤ cs.size; omega) (fun u hu => by rw [List.mem_singleton.1 hu]; rfl) rfl rfl rfl rfl ybf ybf ?_
  have hc1 : (spl cs.toList 0 [.int .u8 x]).length = cs.size ∧ (spl cs.toList 0 [.int .u8 x]).take 1 = List.replicate 1 (.int .u8 x) := by
    constructor
    · rw [spl_len (by simp; omega)]; simp
    · simp [spl]
  repeat' (first|(refine ycf ?_;apply ybk;(·first|(exact tk_));(·rfl);(·rfl))|refine t1_ ?_|(refine ta_ ?_;intro _)|((fail_if_success (refine ybi rfl ?_));refine ybj rfl ?_ ?_<;>(intro ht;rw [ht];first|replace ht := oet_ ht|replace ht := oef_ ht|skip))|(refine ych ?_;first|(refine ybw rfl ?_ ?_<;>intro ht)|(refine ybx rfl ?_ ?_<;>intro ht)))
  refine cx_loop (X := Nat × List Value) (fun y => [(7, .int .i64 (64 : Nat)), (8, .int .i64 (64 : Nat)), (9, .slice (some ⟨g, 0, none⟩) 64 64), (10, .int .i64 (y.1 : Nat))]) (fun _ => h) (fun y => [Res.blk g (.cells y.2.toArray 5 (0, 0))])
    (fun y => 1 ≤ y.1 ∧ y.1 ≤ 64 ∧ y.2.length = cs.size ∧ y.2.take y.1 = List.replicate y.1 (.int .u8 x)) (fun y => 64 - y.1) (1, spl cs.toList 0 [.int .u8 x]) ⟨by omega, by omega, hc1⟩ ts_ (fun _ s => s) ?_
  rintro ⟨k, c⟩ ⟨hk1, hk64, hcl, hct⟩
  dsimp only at hk1 hk64 hcl hct ⊢
  by_cases hkl : k < 64
  · have hmn : (if ((64 : Nat) : Int) < (k : Int) then ((64 : Nat) : Int) else (k : Int)) = (k : Int) := by rw [if_neg (by omega)]
    generalize hm : min k (64 - k) = m
    have hcut : (Value.slice (some ⟨g, 0, none⟩) k 64) = .slice (some ⟨g, 0, none⟩) (k : Int).toNat 64 := by rw [Int.toNat_natCast]
    repeat' (first|(refine ycf ?_;apply ybk;(·first|(first|exact tk_|(refine qv_min' rfl rfl hmn)|(refine qv_slice_fromz (i := k) rfl rfl (by omega) (by omega))|(rw [hcut];apply qv_slice_to;(·rfl);(·rfl);(·omega);(·omega))|(apply qv_slice_to;(·rfl);(·rfl);(·omega);(·omega))));(·rfl);(·rfl))|refine t1_ ?_|(refine ta_ ?_;intro _)|((fail_if_success (refine ybi rfl ?_));refine ybj rfl ?_ ?_<;>(intro ht;rw [ht];first|replace ht := oet_ ht|replace ht := oef_ ht|skip))|(refine ych ?_;first|(refine ybw rfl ?_ ?_<;>intro ht)|(refine ybx rfl ?_ ?_<;>intro ht)))
    have hrl : (List.replicate m (Value.int .u8 x)).length = m := by simp
    have hsrc : Cells h [Res.blk g (.cells c.toArray 5 (0, 0))] ⟨g, 0, none⟩ (List.replicate m (Value.int .u8 x)) := by
      have h1 := (yaz (h := h) (L := [Res.blk g (.cells c.toArray 5 (0, 0))]) 0 rfl).take m
      have e : c.toArray.toList.take m = List.replicate m (Value.int .u8 x) := by
        have : c.take m = (c.take k).take m := by rw [List.take_take]; congr 1; omega
        show c.take m = _
        rw [this, hct, List.take_replicate]
        congr 1
        omega
      rw [e] at h1
      exact h1
    refine cx_region_draw [] rfl (by kernel_rfl) ?_
    repeat' (refine ycf ?_;(first|(first|(apply ybm;(·(first|(first|exact tk_|(refine qv_min' rfl rfl hmn)|(refine qv_slice_fromz (i := k) rfl rfl (by omega) (by omega))|(rw [hcut];apply qv_slice_to;(·rfl);(·rfl);(·omega);(·omega))|(apply qv_slice_to;(·rfl);(·rfl);(·omega);(·omega)))|exact tq_));(·rfl);(·rfl);(·(exact fun _ s => Hd.sub s (Le.refl _) (fun r hr => nomatch hr))))|refine ybl rfl rfl ?_|((fail_if_success (refine ybi rfl ?_));refine ybj rfl ?_ ?_<;>(intro ht;rw [ht];first|replace ht := oet_ ht|replace ht := oef_ ht|skip))|(refine tb_ ?_ ?_ ?_;(·(first|exact ybf|(refine .inl ?_;(exact fun _ s => Hd.sub s (Le.refl _) (fun r hr => nomatch hr)))|exact to_));(·intro _;(first|exact ybf|(refine .inl ?_;(exact fun _ s => Hd.sub s (Le.refl _) (fun r hr => nomatch hr)))|exact to_));intro _)|(first|(refine tqs_ ?_ ?_ ?_;(·(first|exact ybf|(refine .inl ?_;(exact fun _ s => Hd.sub s (Le.refl _) (fun r hr => nomatch hr)))|exact to_));(·(first|exact ybf|(refine .inl ?_;(exact fun _ s => Hd.sub s (Le.refl _) (fun r hr => nomatch hr)))|exact to_))))|(apply ybn;(·(first|(first|exact tk_|(refine qv_min' rfl rfl hmn)|(refine qv_slice_fromz (i := k) rfl rfl (by omega) (by omega))|(rw [hcut];apply qv_slice_to;(·rfl);(·rfl);(·omega);(·omega))|(apply qv_slice_to;(·rfl);(·rfl);(·omega);(·omega)))|exact tq_));(·rfl);(·rfl);(·rfl);(·(first|exact ybf|(refine .inl ?_;(exact fun _ s => Hd.sub s (Le.refl _) (fun r hr => nomatch hr)))|exact to_))))|refine ycg ?_))
    refine rx_copy (news := List.replicate m (.int .u8 x)) 0 rfl rfl rfl hsrc (by rw [hrl, Int.toNat_natCast]; omega) (by show k * 1 + _ ≤ c.toArray.size; rw [hrl, List.size_toArray]; omega) (fun u hu => by rw [(List.mem_replicate.1 hu).2]; rfl) rfl rfl rfl rfl ?_ ?_ ?_
    · (first|exact ybf | (refine .inl ?_;(exact fun _ s => Hd.sub s (Le.refl _) (fun r hr => nomatch hr))) | exact to_)
    · (first|exact ybf | (refine .inl ?_;(exact fun _ s => Hd.sub s (Le.refl _) (fun r hr => nomatch hr))) | exact to_)
    have hwa : IntKind.i64.wrap ((k : Int) + ((List.replicate m (Value.int .u8 x)).length : Nat)) = ((k + m : Nat) : Int) := by rw [hrl, IntKind.wrap_i64]<;>omega
    repeat' (refine ycf ?_;(first|(first|(apply ybm;(·(first|(first|(refine qv_addr rfl rfl hwa))|exact tq_));(·rfl);(·rfl);(·(exact fun _ s => Hd.sub s (Le.refl _) (fun r hr => nomatch hr))))|refine ybl rfl rfl ?_|((fail_if_success (refine ybi rfl ?_));refine ybj rfl ?_ ?_<;>(intro ht;rw [ht];first|replace ht := oet_ ht|replace ht := oef_ ht|skip))|(refine tb_ ?_ ?_ ?_;(·(first|exact ybf|(refine .inl ?_;(exact fun _ s => Hd.sub s (Le.refl _) (fun r hr => nomatch hr)))|exact to_));(·intro _;(first|exact ybf|(refine .inl ?_;(exact fun _ s => Hd.sub s (Le.refl _) (fun r hr => nomatch hr)))|exact to_));intro _)|(first|(refine tqs_ ?_ ?_ ?_;(·(first|exact ybf|(refine .inl ?_;(exact fun _ s => Hd.sub s (Le.refl _) (fun r hr => nomatch hr)))|exact to_));(·(first|exact ybf|(refine .inl ?_;(exact fun _ s => Hd.sub s (Le.refl _) (fun r hr => nomatch hr)))|exact to_))))|(apply ybn;(·(first|(first|(refine qv_addr rfl rfl hwa))|exact tq_));(·rfl);(·rfl);(·rfl);(·(first|exact ybf|(refine .inl ?_;(exact fun _ s => Hd.sub s (Le.refl _) (fun r hr => nomatch hr)))|exact to_))))|refine ycg ?_))
    repeat' (first|(refine ycf ?_;apply ybk;(·first|(exact tk_));(·rfl);(·rfl))|refine t1_ ?_|(refine ta_ ?_;intro _)|((fail_if_success (refine ybi rfl ?_));refine ybj rfl ?_ ?_<;>(intro ht;rw [ht];first|replace ht := oet_ ht|replace ht := oef_ ht|skip))|(refine ych ?_;first|(refine ybw rfl ?_ ?_<;>intro ht)|(refine ybx rfl ?_ ?_<;>intro ht)))
    refine nx_round (k + m, spl c (k * 1) (List.replicate m (.int .u8 x))) ⟨by show 1 ≤ k + m; omega, by show k + m ≤ 64; omega, ?_, ?_⟩ (by show 64 - (k + m) < 64 - k; omega) ts_ (fun _ s => s)
    · show (spl c (k * 1) (List.replicate m (.int .u8 x))).length = _
      rw [spl_len (by rw [hrl]; omega)]
      exact hcl
    · show (spl c (k * 1) (List.replicate m (.int .u8 x))).take (k + m) = _
      have hlk : (c.take k).length = k := by rw [List.length_take]; omega
      unfold spl
      rw [Nat.mul_one, hct, List.take_append_of_le_length (by simp), List.take_of_length_le (by simp), List.replicate_append_replicate]
  · have ek : k = 64 := by omega
    subst ek
    repeat' (first|(refine ycf ?_;apply ybk;(·first|(exact tk_));(·rfl);(·rfl))|refine t1_ ?_|(refine ta_ ?_;intro _)|((fail_if_success (refine ybi rfl ?_));refine ybj rfl ?_ ?_<;>(intro ht;rw [ht];first|replace ht := oet_ ht|replace ht := oef_ ht|skip))|(refine ych ?_;first|(refine ybw rfl ?_ ?_<;>intro ht)|(refine ybx rfl ?_ ?_<;>intro ht)))
    refine nx_ret1 rfl (rv_tmp rfl) (fun w' s' => ?_)
    have s1 := s'.persist rfl
    refine ⟨(addV h g (.cells c.toArray 5 (0, 0)), .slice (some ⟨g, 0, none⟩) 64 64), rfl, s1, ?_⟩
    refine ⟨by simp [bcs], _, _, by rw [List.length_replicate], by rw [List.length_replicate]; exact Nat.le_refl _, .inr ⟨g, 0, c.toArray, _, (0, 0), rfl, (by show addV h g _ g = _; unfold addV; rw [if_pos rfl]), fun j u hj => ?_⟩⟩
    have hb2 : bcs (List.replicate 64 x) = List.replicate 64 (.int .u8 x) := by simp [bcs]
    rw [hb2, ← hct, List.getElem?_take] at hj
    split at hj
    · rw [Nat.zero_add]; simpa using hj
    · cases hj
end Go.Proofs.YtaofgcahmfailaaGreatDoor
end

section
namespace Go.Proofs.YtaofgcahmfailaaGreatDoor
open Go Go.Ck
set_option maxHeartbeats 4000000
def hpadF (key : List Int) (c : Int) : List Int := mixB (key ++ List.replicate (64 - key.length) 0) (List.replicate 64 c)
theorem hpadF_len {key : List Int} {c : Int} (h : key.length ≤ 64) : (hpadF key c).length = 64 := by
  rw [hpadF, mixB_len]; simp; omega
theorem zc_bytes (m : Nat) : (Builtin.zeroCells (Value.int .u8 0).cells m).toList = bcs (List.replicate m 0) := by
  rw [← zeros_bcs]
  apply List.ext_getElem
  · simp [size_zeroCells, Value.cells]
  · intro i h1 h2
    simp [Builtin.zeroCells, Value.cells, Nat.mod_one]
theorem hpadded_sp (v : Value) (key : List Int) (c : Int) (hc : 0 ≤ c ∧ c < 256) (hk : Bytes key) (hl : 1 ≤ key.length ∧ key.length ≤ 64) (h : View) (hb : Bs8 h v key) (w : World) (s : St ⟨w, h, []⟩ h [] w) :
    Calls Tryz.prog 88 [v, .int .u8 c].toArray w fun e w' => ∃ v, e = .returned v ∧ St ⟨w, h, []⟩ h [rowB v (hpadF key c)] w' ∧ True := by
  obtain ⟨_, ad, cap, rfl, hcap, _⟩ := id hb
  refine calls_enter Tryz.func88 rfl Tryz.ntmps88 rfl s ?_
  repeat' (first|(refine ycf ?_;apply ybk;(·first|(exact tk_));(·rfl);(·rfl))|refine t1_ ?_|(refine ta_ ?_;intro _)|((fail_if_success (refine ybi rfl ?_));refine ybj rfl ?_ ?_<;>(intro ht;rw [ht];first|replace ht := oet_ ht|replace ht := oef_ ht|skip))|(refine ych ?_;first|(refine ybw rfl ?_ ?_<;>intro ht)|(refine ybx rfl ?_ ?_<;>intro ht)))
  (refine yco (ycp Tryz.func38 rfl (by kernel_rfl) rfl) (bclone_sp _ key h hb (by omega)) rfl rfl rfl ?_ ?_ ?_; (· (exact to_)); (· intro _ _ hle; (exact to_)); intro x px hle)
  refine rx_rowform 0 rfl (fun _ h1 _ => (by omega)) ?_
  rintro g1 cap1 rfl
  clear px hle
  have wl : IntKind.i64.wrap (64 - (key.length : Nat) : Int) = ((64 - key.length : Nat) : Int) := by rw [IntKind.wrap_i64]<;>omega
  repeat' (first|(refine ycf ?_;apply ybk;(·first|(first|exact tk_|(refine qv_subr rfl rfl wl)));(·rfl);(·rfl))|refine t1_ ?_|(refine ta_ ?_;intro _)|((fail_if_success (refine ybi rfl ?_));refine ybj rfl ?_ ?_<;>(intro ht;rw [ht];first|replace ht := oet_ ht|replace ht := oef_ ht|skip))|(refine ych ?_;first|(refine ybw rfl ?_ ?_<;>intro ht)|(refine ybx rfl ?_ ?_<;>intro ht)))
  refine rx_append_zeros (z := .int .u8 0) (sz := 1) 0 rfl rfl rfl rfl rfl (by omega) (by unfold maxLen; omega) (by omega) rfl rfl rfl ybf (fun _ => ybf) ?_
  intro v1
  rw [zc_bytes, ← bcs_app]
  have hwl : (key ++ List.replicate (64 - key.length) 0).length = 64 := by simp; omega
  have hwb : Bytes (key ++ List.replicate (64 - key.length) 0) := cbytes_app hk (zeros_by _)
  have e64 : key.length + (64 - key.length) = (key ++ List.replicate (64 - key.length) (0 : Int)).length := by simp
  rw [e64]
  refine rx_persist rfl fun h1 hle1 hv1 => ?_
  have hv1 : Bs8 h1 v1 (key ++ List.replicate (64 - key.length) 0) := hv1
  unfold hpadF
  generalize key ++ List.replicate (64 - key.length) 0 = wide at hwl hwb hv1 ⊢
  obtain ⟨_, adw, capw, rfl, hcapw, _⟩ := id hv1
  repeat' (first|(refine ycf ?_;apply ybk;(·first|(exact tk_));(·rfl);(·rfl))|refine t1_ ?_|(refine ta_ ?_;intro _)|((fail_if_success (refine ybi rfl ?_));refine ybj rfl ?_ ?_<;>(intro ht;rw [ht];first|replace ht := oet_ ht|replace ht := oef_ ht|skip))|(refine ych ?_;first|(refine ybw rfl ?_ ?_<;>intro ht)|(refine ybx rfl ?_ ?_<;>intro ht)))
  refine rx_rowOf 1 1 1 (Nat.le_refl _) (by unfold maxLen; omega) rfl ?_
  refine rx_persist rfl fun h2 hle2 hv2 => ?_
  have hv2 : Bs8 h2 (.slice (some ⟨_, 0, none⟩) 1 1) [c] := hv2
  repeat' (first|(refine ycf ?_;apply ybk;(·first|(exact tk_));(·rfl);(·rfl))|refine t1_ ?_|(refine ta_ ?_;intro _)|((fail_if_success (refine ybi rfl ?_));refine ybj rfl ?_ ?_<;>(intro ht;rw [ht];first|replace ht := oet_ ht|replace ht := oef_ ht|skip))|(refine ych ?_;first|(refine ybw rfl ?_ ?_<;>intro ht)|(refine ybx rfl ?_ ?_<;>intro ht)))
  (refine yco (ycp Tryz.func101 rfl (by kernel_rfl) rfl) (Repeat_sp _ c hc h2 hv2) rfl rfl rfl ?_ ?_ ?_; (· (exact to_)); (· intro _ _ hle; (exact to_)); intro x px hle)
  obtain ⟨h3, v3⟩ := x
  dsimp only at px hle ⊢
  have hle3 : Le h2 h3 := hle
  clear hle
  repeat' (first|(refine ycf ?_;apply ybk;(·first|(exact tk_));(·rfl);(·rfl))|refine t1_ ?_|(refine ta_ ?_;intro _)|((fail_if_success (refine ybi rfl ?_));refine ybj rfl ?_ ?_<;>(intro ht;rw [ht];first|replace ht := oet_ ht|replace ht := oef_ ht|skip))|(refine ych ?_;first|(refine ybw rfl ?_ ?_<;>intro ht)|(refine ybx rfl ?_ ?_<;>intro ht)))
  (refine yco (ycp Tryz.func92 rfl (by kernel_rfl) rfl) (Mix_sp _ v3 wide (List.replicate 64 c) h3 ((hv1.mono hle2).mono hle3) px hwb (fun x hx => by rw [(List.mem_replicate.1 hx).2]; exact hc) (by omega)) rfl rfl rfl ?_ ?_ ?_; (· (exact to_)); (· intro _ _ hle; (exact to_)); intro x px hle)
  repeat' (first|(refine ycf ?_;apply ybk;(·first|(exact tk_));(·rfl);(·rfl))|refine t1_ ?_|(refine ta_ ?_;intro _)|((fail_if_success (refine ybi rfl ?_));refine ybj rfl ?_ ?_<;>(intro ht;rw [ht];first|replace ht := oet_ ht|replace ht := oef_ ht|skip))|(refine ych ?_;first|(refine ybw rfl ?_ ?_<;>intro ht)|(refine ybx rfl ?_ ?_<;>intro ht)))
  exact nx_ret1 rfl (rv_tmp rfl) (fun w' s' => ⟨x, rfl, s'.baseL, trivial⟩)
end Go.Proofs.YtaofgcahmfailaaGreatDoor
end

section
namespace Go.Proofs.YtaofgcahmfailaaGreatDoor
open Go Go.Ck
set_option maxHeartbeats 4000000
theorem cx_arr_view {P : Program} {n : Nat} {K : Bs} {F : List (Nat × Value)} {h : View} {L : List Res} {Q : Exit → Act → World → Prop} {c : Code} {b m : Nat} {e : TypeId} {l : List Int} (hA : K.A = []) (hl : l.length = m) (hx : ∀ h', Le h h' → Bs8 h' (.slice (some ⟨b, 0, none⟩) m m) l → CX P n K c F h' L Q) :
    CX P n K c F h (Res.blk b (.cells (bcs l).toArray e (0, 0)) :: L) Q := by
  subst hl
  refine cx_bpersist hA fun hn => hx _ (fun z o hz => ?_) ?_
  · unfold addV
    by_cases hzb : z = b
    · subst hzb; rw [hn] at hz; cases hz
    · rw [if_neg hzb]; exact hz
  · refine ⟨by rw [bcs_len, Nat.mul_one], _, _, rfl, Nat.le_refl _, .inr ⟨b, 0, (bcs l).toArray, e, (0, 0), rfl, (by unfold addV; rw [if_pos rfl]), fun j u hj => ?_⟩⟩
    rw [Nat.zero_add, List.getElem?_toArray]
    exact hj
def hmacF (key m : List Int) : List Int := shaF (hpadF key 92 ++ shaF (hpadF key 54 ++ m))
theorem shaF_len (b : List Int) : (shaF b).length = 32 := by
  unfold shaF
  have h := blocksF_len (padF b) ((padF b).length / 64)
  generalize blocksF (padF b) ((padF b).length / 64) = l at h
  have : ∀ l : List W32, (l.flatMap fun x => num4 x.toNat).length = l.length * 4 := by
    intro l
    induction l with
    | nil => rfl
    | cons x l ih => rw [List.flatMap_cons, List.length_append, num4_len, ih, List.length_cons]; omega
  rw [this, h]
theorem shaF_by (b : List Int) : Bytes (shaF b) := fun x hx => by
  unfold shaF at hx
  obtain ⟨y, _, hx⟩ := List.mem_flatMap.1 hx
  exact putLow_bytes' 4 _ x hx
theorem hmacF_len (key m : List Int) : (hmacF key m).length = 32 := shaF_len _
theorem hmacF_by (key m : List Int) : Bytes (hmacF key m) := shaF_by _
theorem hpadF_by (key : List Int) (c : Int) : Bytes (hpadF key c) := mixB_by _ _
theorem hmac_sp (v pv : Value) (key : List Int) (parts : List (Value × List Int)) (hk : Bytes key) (hl : 1 ≤ key.length ∧ key.length ≤ 64) (h : View) (hb : Bs8 h v key) (hs : Sc h 1 pv parts.length (parts.map (·.1))) (hp : ∀ p ∈ parts, Bs8 h p.1 p.2) (hby : ∀ p ∈ parts, Bytes p.2)
    (hlen : (flatB parts parts.length).length ≤ 800000) (hpl : parts.length ≤ 1000) (hg : ShG h) (w : World) (s : St ⟨w, h, []⟩ h [] w) :
    Calls Tryz.prog 73 [v, pv].toArray w fun e w' => e = .returned (.agg (bcs (hmacF key (flatB parts parts.length))).toArray) ∧ St ⟨w, h, []⟩ h [] w' := by
  obtain ⟨_, ad, cap, rfl, hcap, _⟩ := id hb
  obtain ⟨_, adp, capp, rfl, hcapp, _⟩ := id hs
  refine calls_enter Tryz.func73 rfl Tryz.ntmps73 rfl s ?_
  repeat' (first|refine tw_ ?_|(refine ta_ ?_;intro _)|((fail_if_success (refine ybi rfl ?_));refine ybj rfl ?_ ?_<;>(intro ht;rw [ht];first|replace ht := oet_ ht|replace ht := oef_ ht|skip))|(refine ych ?_;first|(refine ybw rfl ?_ ?_<;>intro ht)|(refine ybx rfl ?_ ?_<;>intro ht)))
  (refine yco (ycp Tryz.func88 rfl (by kernel_rfl) rfl) (hpadded_sp _ key 54 (by omega) hk hl h hb) rfl rfl rfl ?_ ?_ ?_; (· (exact to_)); (· intro _ _ hle; (exact to_)); intro x px hle)
  have hl1 := hpadF_len (key := key) (c := 54) hl.2
  refine rx_persist rfl fun h1 hle1 hv1 => ?_
  have hv1 : Bs8 h1 x (hpadF key 54) := hv1
  obtain ⟨_, adx, capx, rfl, hcapx, _⟩ := id hv1
  clear px hle
  have hone : ∀ u ∈ parts.map (·.1), u.oneCell' = true := fun u hu => by
    obtain ⟨p, hp1, rfl⟩ := List.mem_map.1 hu
    obtain ⟨_, _, _, e, _, _⟩ := hp p hp1
    rw [e]; rfl
  repeat' (first|refine tw_ ?_|(refine ta_ ?_;intro _)|((fail_if_success (refine ybi rfl ?_));refine ybj rfl ?_ ?_<;>(intro ht;rw [ht];first|replace ht := oet_ ht|replace ht := oef_ ht|skip))|(refine ych ?_;first|(refine ybw rfl ?_ ?_<;>intro ht)|(refine ybx rfl ?_ ?_<;>intro ht)))
  refine rx_rowOf 1 1 1 (Nat.le_refl _) (by unfold maxLen; omega) rfl ?_
  refine rx_append_sc (sz := 1) 0 rfl rfl rfl (hs.mono hle1) hone rfl (by omega) (by unfold maxLen; omega) (by omega) rfl rfl rfl ybf (fun _ => ybf) ?_
  intro v2 _
  refine rx_persist rfl fun h2 hle2 hv2 => ?_
  have hle12 := hle1.trans hle2
  have hsum := shaSum_sp v2 ((.slice adx (hpadF key 54).length capx, hpadF key 54) :: parts) h2 (by rw [List.length_cons, Nat.add_comm]; exact hv2) (fun p hp1 => by
    rcases List.mem_cons.1 hp1 with rfl | hp1
    · exact hv1.mono hle2
    · exact (hp p hp1).mono hle12) (fun p hp1 => by
    rcases List.mem_cons.1 hp1 with rfl | hp1
    · exact hpadF_by _ _
    · exact hby p hp1) (by
    have e : (flatB ((.slice adx (hpadF key 54).length capx, hpadF key 54) :: parts) (parts.length + 1)) = hpadF key 54 ++ flatB parts parts.length := by simp [flatB]
    rw [List.length_cons, e, List.length_append, hl1]; omega) (by rw [List.length_cons]; omega) (hg.mono hle12)
  have efl : flatB ((.slice adx (hpadF key 54).length capx, hpadF key 54) :: parts) ((.slice adx (hpadF key 54).length capx, hpadF key 54) :: parts).length = hpadF key 54 ++ flatB parts parts.length := by simp [flatB]
  rw [efl] at hsum
  (refine ycn (ycp Tryz.func87 rfl (by kernel_rfl) rfl) (hsum) rfl rfl rfl ?_ ?_; (· (exact to_)))
  unfold hmacF
  have hil := shaF_len (hpadF key 54 ++ flatB parts parts.length)
  have hib := shaF_by (hpadF key 54 ++ flatB parts parts.length)
  generalize shaF (hpadF key 54 ++ flatB parts parts.length) = inn at hil hib ⊢
  have hol : (bcs inn).length = 32 := by rw [bcs_len, hil]
  repeat' (first|(refine ybg 0 rfl rfl rfl (by show (bcs inn).toArray.size = 32;simpa using hol) (by show 0 + (bcs inn).toArray.size ≤ _;rw [List.size_toArray, hol];exact Nat.le_of_ble_eq_true rfl) (List.all_eq_true.2 (bcs_one inn)) (ybh (by show (bcs inn).length = _;rw [hol];rfl)) rfl rfl ?_ ?_ ?_;(·(exact to_));(·(exact to_)))|refine t1_ ?_|(refine ta_ ?_;intro _)|((fail_if_success (refine ybi rfl ?_));refine ybj rfl ?_ ?_<;>(intro ht;rw [ht];first|replace ht := oet_ ht|replace ht := oef_ ht|skip))|(refine ych ?_;first|(refine ybw rfl ?_ ?_<;>intro ht)|(refine ybx rfl ?_ ?_<;>intro ht)))
  rename_i bd
  refine cx_arr_view rfl hil fun h3 hle3 hd3 => ?_
  have hle13 := hle12.trans hle3
  refine cx_region_draw [] rfl (by kernel_rfl) ?_
  repeat' (refine ycf ?_;(first|(first|(apply ybm;(·(first|(exact qv_slice_arr rfl)|exact tq_));(·rfl);(·rfl);(·(exact fun _ s => Hd.sub s (Le.refl _) (fun r hr => nomatch hr))))|refine ybl rfl rfl ?_|((fail_if_success (refine ybi rfl ?_));refine ybj rfl ?_ ?_<;>(intro ht;rw [ht];first|replace ht := oet_ ht|replace ht := oef_ ht|skip))|(refine tb_ ?_ ?_ ?_;(·(first|exact ybf|(refine .inl ?_;(exact fun _ s => Hd.sub s (Le.refl _) (fun r hr => nomatch hr)))|exact to_));(·intro _;(first|exact ybf|(refine .inl ?_;(exact fun _ s => Hd.sub s (Le.refl _) (fun r hr => nomatch hr)))|exact to_));intro _)|(first|(refine tqs_ ?_ ?_ ?_;(·(first|exact ybf|(refine .inl ?_;(exact fun _ s => Hd.sub s (Le.refl _) (fun r hr => nomatch hr)))|exact to_));(·(first|exact ybf|(refine .inl ?_;(exact fun _ s => Hd.sub s (Le.refl _) (fun r hr => nomatch hr)))|exact to_))))|(apply ybn;(·(first|(exact qv_slice_arr rfl)|exact tq_));(·rfl);(·rfl);(·rfl);(·(first|exact ybf|(refine .inl ?_;(exact fun _ s => Hd.sub s (Le.refl _) (fun r hr => nomatch hr)))|exact to_))))|refine ycg ?_))
  (refine yco (ycp Tryz.func88 rfl (by kernel_rfl) rfl) (hpadded_sp _ key 92 (by omega) hk hl h3 (hb.mono hle13)) rfl rfl rfl ?_ ?_ ?_;(·(first|exact ybf | (refine .inl ?_;(exact fun _ s => Hd.sub s (Le.refl _) (fun r hr => nomatch hr))) | exact to_));(·intro _ _ hle;(first|exact ybf | (refine .inl ?_;(exact fun _ s => Hd.sub s (Le.refl _) (fun r hr => nomatch hr))) | exact to_));intro x px hle)
  refine rx_persist rfl fun h4 hle4 hv4 => ?_
  have hv4 : Bs8 h4 x (hpadF key 92) := hv4
  obtain ⟨_, ady, capy, rfl, hcapy, _⟩ := id hv4
  clear px hle
  repeat' (refine ycf ?_;(first|(first|(apply ybm;(·(first|(exact qv_slice_arr rfl)|exact tq_));(·rfl);(·rfl);(·(exact fun _ s => Hd.sub s hle4 (fun r hr => nomatch hr))))|refine ybl rfl rfl ?_|((fail_if_success (refine ybi rfl ?_));refine ybj rfl ?_ ?_<;>(intro ht;rw [ht];first|replace ht := oet_ ht|replace ht := oef_ ht|skip))|(refine tb_ ?_ ?_ ?_;(·(first|exact ybf|(refine .inl ?_;(exact fun _ s => Hd.sub s hle4 (fun r hr => nomatch hr)))|exact to_));(·intro _;(first|exact ybf|(refine .inl ?_;(exact fun _ s => Hd.sub s hle4 (fun r hr => nomatch hr)))|exact to_));intro _)|(first|(refine tqs_ ?_ ?_ ?_;(·(first|exact ybf|(refine .inl ?_;(exact fun _ s => Hd.sub s hle4 (fun r hr => nomatch hr)))|exact to_));(·(first|exact ybf|(refine .inl ?_;(exact fun _ s => Hd.sub s hle4 (fun r hr => nomatch hr)))|exact to_))))|(apply ybn;(·(first|(exact qv_slice_arr rfl)|exact tq_));(·rfl);(·rfl);(·rfl);(·(first|exact ybf|(refine .inl ?_;(exact fun _ s => Hd.sub s hle4 (fun r hr => nomatch hr)))|exact to_))))|refine ycg ?_))
  refine rx_rowOf 1 2 2 (Nat.le_refl _) (by unfold maxLen; omega) rfl ?_
  refine rx_persist rfl fun h5 hle5 hv5 => ?_
  have hle15 := (hle13.trans hle4).trans hle5
  have hle35 := hle4.trans hle5
  have hl2 := hpadF_len (key := key) (c := 92) hl.2
  have hsum2 := shaSum_sp _ [(.slice ady (hpadF key 92).length capy, hpadF key 92), (.slice (some ⟨bd, 0, none⟩) 32 32, inn)] h5 hv5 (fun p hp1 => by
    simp only [List.mem_cons, List.not_mem_nil, or_false] at hp1
    rcases hp1 with rfl | rfl
    · exact hv4.mono hle5
    · exact hd3.mono hle35) (fun p hp1 => by
    simp only [List.mem_cons, List.not_mem_nil, or_false] at hp1
    rcases hp1 with rfl | rfl
    · exact hpadF_by _ _
    · exact hib) (by
    have e : flatB [(.slice ady (hpadF key 92).length capy, hpadF key 92), (.slice (some ⟨bd, 0, none⟩) 32 32, inn)] 2 = hpadF key 92 ++ inn := by simp [flatB]
    show (flatB _ 2).length ≤ _
    rw [e, List.length_append, hl2, hil]; omega) (by simp) (hg.mono hle15)
  have efl2 : flatB [(.slice ady (hpadF key 92).length capy, hpadF key 92), (.slice (some ⟨bd, 0, none⟩) 32 32, inn)] 2 = hpadF key 92 ++ inn := by simp [flatB]
  change ∀ w, _ → Calls _ _ _ w (fun e w' => e = .returned (.agg (bcs (shaF (flatB [(.slice ady (hpadF key 92).length capy, hpadF key 92), (.slice (some ⟨bd, 0, none⟩) 32 32, inn)] 2))).toArray) ∧ _) at hsum2
  rw [efl2] at hsum2
  (refine ycn (ycp Tryz.func87 rfl (by kernel_rfl) rfl) (hsum2) rfl rfl rfl ?_ ?_;(·(first|exact ybf | (refine .inl ?_;(exact fun _ s => Hd.sub s hle35 (fun r hr => nomatch hr))) | exact to_)))
  have hol2 := shaF_len (hpadF key 92 ++ inn)
  generalize shaF (hpadF key 92 ++ inn) = out at hol2 ⊢
  have hol2 : (bcs out).length = 32 := by rw [bcs_len, hol2]
  repeat' (refine ycf ?_;(first|(first|(apply ybm;(·exact tq_);(·rfl);(·rfl);(·(exact fun _ s => Hd.sub s hle35 (fun r hr => nomatch hr))))|refine ybl rfl rfl ?_|((fail_if_success (refine ybi rfl ?_));refine ybj rfl ?_ ?_<;>(intro ht;rw [ht];first|replace ht := oet_ ht|replace ht := oef_ ht|skip))|(refine tb_ ?_ ?_ ?_;(·(first|exact ybf|(refine .inl ?_;(exact fun _ s => Hd.sub s hle35 (fun r hr => nomatch hr)))|exact to_));(·intro _;(first|exact ybf|(refine .inl ?_;(exact fun _ s => Hd.sub s hle35 (fun r hr => nomatch hr)))|exact to_));intro _)|(first|(refine ybg 0 rfl rfl rfl (by show (bcs out).toArray.size = 32;simpa using hol2) (by show 0 + (bcs out).toArray.size ≤ _;rw [List.size_toArray, hol2];exact nble rfl) (List.all_eq_true.2 (bcs_one out)) (ybh (by show (bcs out).length = _;rw [hol2];rfl)) rfl rfl ?_ ?_ ?_;(·(first|exact ybf|(refine .inl ?_;(exact fun _ s => Hd.sub s hle35 (fun r hr => nomatch hr)))|exact to_));(·(first|exact ybf|(refine .inl ?_;(exact fun _ s => Hd.sub s hle35 (fun r hr => nomatch hr)))|exact to_)))|(refine tqs_ ?_ ?_ ?_;(·(first|exact ybf|(refine .inl ?_;(exact fun _ s => Hd.sub s hle35 (fun r hr => nomatch hr)))|exact to_));(·(first|exact ybf|(refine .inl ?_;(exact fun _ s => Hd.sub s hle35 (fun r hr => nomatch hr)))|exact to_))))|(apply ybn;(·exact tq_);(·rfl);(·rfl);(·rfl);(·(first|exact ybf|(refine .inl ?_;(exact fun _ s => Hd.sub s hle35 (fun r hr => nomatch hr)))|exact to_))))|refine ycg ?_))
  repeat' (first|(refine ybg 0 rfl rfl rfl (by show (bcs out).toArray.size = 32;simpa using hol2) (by show 0 + (bcs out).toArray.size ≤ _;rw [List.size_toArray, hol2];exact nble rfl) (List.all_eq_true.2 (bcs_one out)) (ybh (by show (bcs out).length = _;rw [hol2];rfl)) rfl rfl ?_ ?_ ?_;(·(first|exact ybf|(refine .inl ?_;(exact fun _ s => Hd.sub s hle35 (fun r hr => nomatch hr)))|exact to_));(·(first|exact ybf|(refine .inl ?_;(exact fun _ s => Hd.sub s hle35 (fun r hr => nomatch hr)))|exact to_)))|refine t1_ ?_|(refine ta_ ?_;intro _)|((fail_if_success (refine ybi rfl ?_));refine ybj rfl ?_ ?_<;>(intro ht;rw [ht];first|replace ht := oet_ ht|replace ht := oef_ ht|skip))|(refine ych ?_;first|(refine ybw rfl ?_ ?_<;>intro ht)|(refine ybx rfl ?_ ?_<;>intro ht)))
  exact nx_ret1 rfl (rv_cells rfl (yaz 0 rfl) (by show (bcs out).toArray.toList.length = 32; simpa using hol2)) (fun w' s' => ⟨rfl, s'.nil.base⟩)
end Go.Proofs.YtaofgcahmfailaaGreatDoor
end

section
namespace Go.Proofs.YtaofgcahmfailaaGreatDoor
open Go Go.Ck
set_option maxHeartbeats 4000000
def expandF (key use : List Int) : List Int := hmacF key (use ++ [1])
theorem expandF_len (key use : List Int) : (expandF key use).length = 32 := hmacF_len _ _
theorem expandF_by (key use : List Int) : Bytes (expandF key use) := hmacF_by _ _
theorem sc_capm {h : View} {m cap : Nat} {ad : Option Addr} {xs : List Value} (s : Sc h 1 (.slice ad m cap) m xs) : Sc h 1 (.slice ad m m) m xs := by
  obtain ⟨h1, ad', cap', h2, h3, h4⟩ := s
  cases h2
  exact ⟨h1, ad, m, rfl, Nat.le_refl _, h4⟩
theorem expand_sp (v uv : Value) (key use : List Int) (hk : Bytes key) (hl : 1 ≤ key.length ∧ key.length ≤ 64) (hu : Bytes use) (hul : use.length ≤ 1000) (h : View) (hb : Bs8 h v key) (hs : Bs8 h uv use) (hg : ShG h) (w : World) (s : St ⟨w, h, []⟩ h [] w) :
    Calls Tryz.prog 72 [v, uv, .int .i64 32].toArray w fun e w' => ∃ y : View × Value, e = .returned (.tuple #[y.2, .int .i64 0]) ∧ St ⟨w, h, []⟩ y.1 [] w' ∧ Bs8 y.1 y.2 (expandF key use) := by
  obtain ⟨_, ad, cap, rfl, hcap, _⟩ := id hb
  obtain ⟨_, adu, capu, rfl, hcapu, _⟩ := id hs
  refine calls_enter Tryz.func72 rfl Tryz.ntmps72 rfl s ?_
  repeat' (first|(refine ycf ?_;apply ybk;(·first|(exact tk_));(·rfl);(·rfl))|refine t1_ ?_|(refine ta_ ?_;intro _)|((fail_if_success (refine ybi rfl ?_));refine ybj rfl ?_ ?_<;>(intro ht;rw [ht];first|replace ht := oet_ ht|replace ht := oef_ ht|skip))|(refine ych ?_;first|(refine ybw rfl ?_ ?_<;>intro ht)|(refine ybx rfl ?_ ?_<;>intro ht)))
  refine cx_row 5 1 ?_
  refine cx_loop (X := Nat × View × Value × Value) (fun y => [(0, .slice ad key.length cap), (1, .slice adu use.length capu), (2, .int .i64 32), (8, y.2.2.1), (9, y.2.2.2), (10, .int .i64 ((y.1 : Nat) + 1))]) (fun y => y.2.1) (fun y => [rowB y.2.2.1 (if y.1 = 0 then [] else expandF key use)])
    (fun y => y.1 ≤ 1 ∧ Le h y.2.1 ∧ (y.1 = 0 → y.2.2.1 = .slice none 0 0 ∧ y.2.2.2 = .slice none 0 0)) (fun y => 1 - y.1) (0, h, .slice none 0 0, .slice none 0 0) ⟨by omega, Le.refl h, fun _ => ⟨rfl, rfl⟩⟩ ts_ (fun _ s => s) ?_
  rintro ⟨k, h1, vo, vl⟩ ⟨hk1, hle1, hk0⟩
  dsimp only at hk1 hle1 hk0 ⊢
  by_cases hkz : k = 0
  · subst hkz
    obtain ⟨rfl, rfl⟩ := hk0 rfl
    have hb1 := hb.mono hle1
    have hs1 := hs.mono hle1
    repeat' (first|(refine ycf ?_;apply ybk;(·first|(first|exact tk_|(refine qv_convert_int' rfl rfl)));(·rfl);(·rfl))|refine t1_ ?_|(refine ta_ ?_;intro _)|((fail_if_success (refine ybi rfl ?_));refine ybj rfl ?_ ?_<;>(intro ht;rw [ht];first|replace ht := oet_ ht|replace ht := oef_ ht|skip))|(refine ych ?_;first|(refine ybw rfl ?_ ?_<;>intro ht)|(refine ybx rfl ?_ ?_<;>intro ht)))
    rename_i b1 b3
    refine rx_rowOf 1 3 3 (Nat.le_refl _) (by unfold maxLen; omega) rfl ?_
    refine rx_persist rfl fun h2 hle2 hv3 => ?_
    refine rx_rowOf 1 1 1 (Nat.le_refl _) (by unfold maxLen; omega) rfl ?_
    refine rx_persist rfl fun h3 hle3 hv1 => ?_
    have hv1 : Bs8 h3 (.slice (some ⟨b1, 0, none⟩) 1 1) [1] := hv1
    have hle13 := hle2.trans hle3
    have efl : flatB [(.slice none 0 0, []), (.slice adu use.length capu, use), (.slice (some ⟨b1, 0, none⟩) 1 1, [1])] 3 = use ++ [1] := by simp [flatB]
    have hsum : ∀ w, St ⟨w, h3, []⟩ h3 [] w → Calls Tryz.prog 73 [.slice ad key.length cap, .slice (some ⟨b3, 0, none⟩) 3 3].toArray w fun e w' => e = .returned (.agg (bcs (hmacF key (flatB [(.slice none 0 0, []), (.slice adu use.length capu, use), (.slice (some ⟨b1, 0, none⟩) 1 1, [1])] 3))).toArray) ∧ St ⟨w, h3, []⟩ h3 [] w' :=
      hmac_sp _ _ key [(.slice none 0 0, []), (.slice adu use.length capu, use), (.slice (some ⟨b1, 0, none⟩) 1 1, [1])] hk hl h3 (hb1.mono hle13) (hv3.mono hle3) (fun p hp1 => by
        simp only [List.mem_cons, List.not_mem_nil, or_false] at hp1
        rcases hp1 with rfl | rfl | rfl
        · exact Sc.nil _ _ _ _
        · exact hs1.mono hle13
        · exact hv1) (fun p hp1 => by
        simp only [List.mem_cons, List.not_mem_nil, or_false] at hp1
        rcases hp1 with rfl | rfl | rfl
        · intro x hx; cases hx
        · exact hu
        · intro x hx; rw [List.mem_singleton.1 hx]; omega) (by show (flatB _ 3).length ≤ _; rw [efl, List.length_append]; show use.length + 1 ≤ _; omega) (by simp) ((hg.mono hle1).mono hle13)
    rw [efl] at hsum
    (refine ycn (ycp Tryz.func73 rfl (by kernel_rfl) rfl) (hsum) rfl rfl rfl ?_ ?_; (· (exact to_)))
    have hol : (bcs (expandF key use)).length = 32 := by rw [bcs_len, expandF_len]
    have hoe : hmacF key (use ++ [1]) = expandF key use := rfl
    rw [hoe]
    generalize hou : expandF key use = out at hol ⊢
    repeat' (first|(refine ycf ?_;apply ybk;(·first|(first|exact tk_|exact qv_slice_arr rfl));(·rfl);(·rfl))|(refine ybg 0 rfl rfl rfl (by show (bcs out).toArray.size = 32;simpa using hol) (by show 0 + (bcs out).toArray.size ≤ _;rw [List.size_toArray, hol];exact nble rfl) (List.all_eq_true.2 (bcs_one out)) (ybh (by show (bcs out).length = _;rw [hol];rfl)) rfl rfl ?_ ?_ ?_;(·(exact to_));(·(exact to_)))|refine t1_ ?_|(refine ta_ ?_;intro _)|((fail_if_success (refine ybi rfl ?_));refine ybj rfl ?_ ?_<;>(intro ht;rw [ht];first|replace ht := oet_ ht|replace ht := oef_ ht|skip))|(refine ych ?_;first|(refine ybw rfl ?_ ?_<;>intro ht)|(refine ybx rfl ?_ ?_<;>intro ht)))
    rw [if_pos rfl]
    have hol2 : out.length = 32 := by rw [← bcs_len]; exact hol
    refine rx_append (sz := 1) 1 rfl rfl rfl (yaz 0 rfl) (by show (bcs out).length = 32 * 1; exact hol) (bcs_one out) rfl (by omega) (by unfold maxLen; simp) (by simp) rfl rfl rfl ybf (fun _ => ybf) ?_
    intro v' _
    repeat' (first|(refine ycf ?_;apply ybk;(·first|(exact tk_));(·rfl);(·rfl))|refine t1_ ?_|(refine ta_ ?_;intro _)|((fail_if_success (refine ybi rfl ?_));refine ybj rfl ?_ ?_<;>(intro ht;rw [ht];first|replace ht := oet_ ht|replace ht := oef_ ht|skip))|(refine ych ?_;first|(refine ybw rfl ?_ ?_<;>intro ht)|(refine ybx rfl ?_ ?_<;>intro ht)))
    refine nx_round (1, h3, v', _) ⟨Nat.le_refl 1, hle1.trans hle13, fun q => absurd q (Nat.succ_ne_zero 0)⟩ (by show 1 - 1 < 1 - 0; omega) ts_ (fun _ s => ?_)
    dsimp only
    rw [if_neg (by decide)]
    unfold rowB
    rw [hol2]
    exact s.picks [1]
  · have ek : k = 1 := by omega
    subst ek
    have hol2 := expandF_len key use
    rw [if_neg hkz]
    generalize expandF key use = out at hol2 ⊢
    refine cx_rowform 0 rfl (fun _ h1 _ => by omega) ?_
    rintro g cap2 rfl
    have hge : (out.length : Int) = 32 := by omega
    repeat' (first|(refine ycf ?_;apply ybk;(·first|(first|exact tk_));(·rfl);(·rfl))|refine t1_ ?_|(refine ta_ ?_;intro _)|((fail_if_success (refine ybi rfl ?_));refine ybj rfl ?_ ?_<;>(intro ht;rw [ht];first|replace ht := oet_ ht|replace ht := oef_ ht|skip))|(refine ych ?_;first|(refine ybw rfl ?_ ?_<;>intro ht)|(refine ybx rfl ?_ ?_<;>intro ht)))
    refine rx_persist rfl fun h2 hle2 hv => ?_
    obtain ⟨_, _, _, e, hc2, _⟩ := id hv
    cases e
    have hv2 := sc_capm hv
    repeat' (first|(refine ycf ?_;apply ybk;(·first|(refine qv_slice_max (i := 32) (m := 32) rfl rfl rfl (by omega) (by omega)));(·rfl);(·rfl))|refine t1_ ?_|(refine ta_ ?_;intro _)|((fail_if_success (refine ybi rfl ?_));refine ybj rfl ?_ ?_<;>(intro ht;rw [ht];first|replace ht := oet_ ht|replace ht := oef_ ht|skip))|(refine ych ?_;first|(refine ybw rfl ?_ ?_<;>intro ht)|(refine ybx rfl ?_ ?_<;>intro ht)))
    refine nx_ret2 rfl (rv_tmp rfl) (rv_tmp rfl) (fun w' s' => ⟨(h2, .slice (some ⟨g, 0, none⟩) 32 32), rfl, s', ?_⟩)
    unfold Bs8
    rw [hol2] at hv2 ⊢
    exact hv2
end Go.Proofs.YtaofgcahmfailaaGreatDoor
end

section
namespace Go.Ck
open Go
set_option maxHeartbeats 4000000
def OwnsB (w : World) (e : TypeId) (v : Value) (n : Nat) (xs : List Value) : Prop :=
  xs.length = n ∧ ((v = .slice none 0 0 ∧ n = 0) ∨
    ∃ g cap cur fz, v = .slice (some ⟨g, 0, none⟩) n cap ∧ w.heap[g]? = some (.cells cur e fz) ∧ n ≤ cap ∧ cap ≤ maxLen ∧ cur.size = cap ∧ cur.toList.take n = xs ∧ (fz.2 ≤ fz.1 ∨ cur.size ≤ fz.1))
def Res.srow (e : TypeId) (v : Value) (n : Nat) (xs : List Value) : Res where
  dom := v.ownBlock.toList
  sat := fun w => OwnsB w e v n xs
  loc := fun w w' hh hs => by
    refine ⟨hs.1, ?_⟩
    rcases hs.2 with hn | ⟨g, cap, cur, fz, rfl, hgg, rest⟩
    · exact .inl hn
    · exact .inr ⟨g, cap, cur, fz, rfl, by rw [hh g (by simp [Value.ownBlock])]; exact hgg, rest⟩
  lt := fun w hs b hb => by
    have hb : v.ownBlock = some b := by simpa using hb
    rcases hs.2 with ⟨rfl, _⟩ | ⟨g, cap, cur, fz, rfl, hgg, rest⟩
    · cases hb
    · simp only [Value.ownBlock, Option.some.injEq] at hb
      subst hb
      exact (Array.getElem?_eq_some_iff.1 hgg).1
structure Src (P : Program) (h : View) (L : List Res) (x : Value) (m : Nat) (news : List Value) : Prop where
  len : ∀ w, (Builtin.lenOf x).run P w = .ok m w
  cells : ∀ w, Hd h L w → (Builtin.firstCells 1 m x).run P w = .ok news.toArray w
  nl : news.length = m
section
variable {P : Program} {n : Nat} {K : Bs} {F : List (Nat × Value)} {h : View} {L : List Res} {Q : Exit → Act → World → Prop}
variable {dst : Option Nat} {ty : Nat} {pos : String} {af : Array Edge} {gd : Option (Nat × Bool)}
theorem Hd.heap {w w' : World} (hd : Hd h L w) (e : w'.heap = w.heap) : Hd h L w' := ⟨fun b o hb => by rw [e]; exact hd.view b o hb, fun r hr => r.loc w w' (fun b _ => by rw [e]) (hd.own r hr)⟩
theorem St.srowPersist {e : TypeId} {v : Value} {m : Nat} {xs : List Value} {w : World} (s : St K h (Res.srow e v m xs :: L) w) (hA : K.A = []) : ∃ h', Le h h' ∧ Sc h' 1 v m xs ∧ St K h' L w := by
  have ho : OwnsB w e v m xs := s.hd.own _ (List.mem_cons_self ..)
  obtain ⟨q0, q1 | ⟨g, cap, cur, fz, rfl, q3, q4, q5, q6, q7, q8⟩⟩ := ho
  · obtain ⟨rfl, rfl⟩ := q1
    have hx : xs = [] := List.eq_nil_of_length_eq_zero (by omega)
    subst hx
    exact ⟨h, Le.refl h, Sc.nil h 1 none 0, s.tl⟩
  · have s1 : St K h (Res.blk g (.cells cur e fz) :: L) w := by
      refine ⟨s.os, s.tape, s.output, s.drawn, s.size, s.keep, ⟨s.hd.view, fun r hr => ?_⟩, ?_, ?_, s.grow, s.new, ?_⟩
      · rcases List.mem_cons.1 hr with rfl | hr
        · exact q3
        · exact s.hd.own r (List.mem_cons_of_mem _ hr)
      · have := s.nd
        simpa [doms_cons, Res.srow, Res.blk, Value.ownBlock] using this
      · intro b hb
        refine s.src b ?_
        simpa [doms_cons, Res.srow, Res.blk, Value.ownBlock] using hb
      · intro b hb
        refine s.dis b ?_
        simpa [doms_cons, Res.srow, Res.blk, Value.ownBlock] using hb
    have hnone : h g = none := s1.dis g (by rw [doms_cons]; exact List.mem_append_left _ (List.mem_singleton.2 rfl))
    refine ⟨_, Le.addV hnone, ⟨by omega, some ⟨g, 0, none⟩, cap, rfl, q4, .inr ⟨g, 0, cur, e, fz, rfl, addV_same, fun j u hj => ?_⟩⟩, s1.persist hA⟩
    rw [Nat.zero_add]
    rw [← q7, List.getElem?_take] at hj
    split at hj
    · simpa using hj
    · cases hj
theorem rx_persist_s {g : Rg} {prs : List (Nat × Oper)} {e : TypeId} {m : Nat} {v : Value} {xs : List Value} (hA : K.A = []) (hx : ∀ h', Le h h' → Sc h' 1 v m xs → RX P n K g prs F h' L Q) : RX P n K g prs F h (Res.srow e v m xs :: L) Q := by
  unfold RX at *
  intro a w f s
  obtain ⟨h', h1, h2, h3⟩ := s.srowPersist hA
  exact hx h' h1 h2 a w f h3
end
end Go.Ck
end

section
namespace Go.Ck
open Go
section
variable {P : Program} {n : Nat} {K : Bs} {F : List (Nat × Value)} {h : View} {L : List Res} {Q : Exit → Act → World → Prop}
variable {dst : Option Nat} {ty : Nat} {pos : String} {af : Array Edge} {gd : Option (Nat × Bool)}
theorem rx_mark {g : Rg} {i : Nat} {r : List (Nat × Oper)} {S e b m : Nat} {x : Operand} {cs : Array Value} (k : Nat) [tS : TyU P S (.slice e)] [te : TyU P e (.int .u8)] (hx : ev F x = some (.slice (some ⟨b, 0, none⟩) m m)) (hk : L[k]? = some (Res.blk b (.cells cs e (0, 0)))) (hm : cs.size = m) (h63 : m ≤ maxLen)
    (hw : wantedF g.ops F ⟨dst, .convert S S x, ty, pos, af, gd⟩ = some true) (hd : okd n dst = true) (hl : g.lo i = true) (o1 : Owe g i h L) (o2 : Owe g i h (L.set k (Res.srow e (.slice (some ⟨b, 0, none⟩) m m) m cs.toList)))
    (hn : RX P n K g r (putF dst (.slice (some ⟨b, 0, none⟩) m m) F) h (L.set k (Res.srow e (.slice (some ⟨b, 0, none⟩) m m) m cs.toList)) Q) : RX P n K g ((i, ⟨dst, .convert S S x, ty, pos, af, gd⟩) :: r) F h L Q := by
  unfold RX at *
  intro a w f s
  have hb : w.heap[b]? = some (.cells cs e (0, 0)) := s.hd.own _ (List.mem_of_getElem? hk)
  have he : (execOp a.eval ⟨dst, .convert S S x, ty, pos, af, gd⟩).run P w = .ok (.value (.slice (some ⟨b, 0, none⟩) m m)) (w.freeze ⟨b, cs.size, none⟩ 1) := by
    simp [execOp, f.ev hx, convert, run_underlying tS.u, run_underlying te.u, markStringish, World.shape?, hb]
  have s2 : St K h (L.set k (Res.srow e (.slice (some ⟨b, 0, none⟩) m m) m cs.toList)) (w.freeze ⟨b, cs.size, none⟩ 1) := by
    have hfz : (w.freeze ⟨b, cs.size, none⟩ 1).heap = w.heap.modify b fun o => match o with
      | .cells c elem (lo, hi) => .cells c elem (if lo == hi then (cs.size, cs.size + 1) else (min lo cs.size, max hi (cs.size + 1)))
      | o => o := by
      simp only [World.freeze, Nat.one_ne_zero, if_false]
      rfl
    have hlt := (Array.getElem?_eq_some_iff.1 hb).1
    refine s.swap hk rfl rfl rfl (Nat.le_refl _) (by rw [hfz, Array.size_modify]; exact Nat.le_refl _) (fun j hj hjd => ?_) ⟨by simpa using hm, .inr ⟨b, m, cs, (cs.size, cs.size + 1), rfl, ?_, Nat.le_refl _, h63, hm, by rw [← hm]; exact List.take_of_length_le (by simp), .inr (Nat.le_refl _)⟩⟩ (by simp [Res.srow, Value.ownBlock]) (fun c hc => .inl ?_)
    · rw [hfz, Array.getElem?_modify, if_neg]
      intro e
      exact hjd (by rw [← e]; exact List.mem_singleton.2 rfl)
    · rw [hfz, Array.getElem?_modify, if_pos rfl, hb]
      rfl
    · have : c = b := by simpa [Res.srow, Value.ownBlock] using hc
      rw [this]; exact List.mem_singleton.2 rfl
  refine .inr (.inr ⟨wantedF_ok f hw, hl, o1.out s, ?_⟩)
  unfold Oper.wp
  rw [he]
  exact ⟨o2.out s2, hn _ _ (f.put hd _) s2⟩
end
end Go.Ck
end

section
namespace Go.Proofs.YtaofgcahmfailaaGreatDoor
open Go Go.Ck
set_option maxHeartbeats 4000000
theorem rx_arr_view {P : Program} {n : Nat} {K : Bs} {F : List (Nat × Value)} {h : View} {L : List Res} {Q : Exit → Act → World → Prop} {g : Rg} {prs : List (Nat × Oper)} {b m : Nat} {e : TypeId} {l : List Int} (hA : K.A = []) (hl : l.length = m) (hx : ∀ h', Le h h' → Bs8 h' (.slice (some ⟨b, 0, none⟩) m m) l → RX P n K g prs F h' L Q) :
    RX P n K g prs F h (Res.blk b (.cells (bcs l).toArray e (0, 0)) :: L) Q := by
  subst hl
  refine rx_bpersist hA fun hn => hx _ (fun z o hz => ?_) ?_
  · unfold addV
    by_cases hzb : z = b
    · subst hzb; rw [hn] at hz; cases hz
    · rw [if_neg hzb]; exact hz
  · refine ⟨by rw [bcs_len, Nat.mul_one], _, _, rfl, Nat.le_refl _, .inr ⟨b, 0, (bcs l).toArray, e, (0, 0), rfl, (by unfold addV; rw [if_pos rfl]), fun j u hj => ?_⟩⟩
    rw [Nat.zero_add, List.getElem?_toArray]
    exact hj
def useB : List Int := [98, 108, 105, 110, 100]
def blindR (key nm : List Int) : List Int := hmacF (expandF key useB) nm
theorem kBlind_sp (v : Value) (key nm : List Int) (hk : Bytes key) (hk32 : key.length = 32) (hn : Bytes nm) (hnl : 1 ≤ nm.length ∧ nm.length ≤ 64) (h : View) (hs : Bs8 h v nm) (hg : ShG h) (w : World) (s : St ⟨w, h, []⟩ h [] w) :
    Calls Tryz.prog 54 [.agg (bcs key).toArray, v].toArray w fun e w' => e = .returned (.tuple #[.agg (bcs (blindR key nm)).toArray, .int .i64 0]) ∧ St ⟨w, h, []⟩ h [] w' := by
  obtain ⟨_, ad, cap, rfl, hcap, _⟩ := id hs
  have hol : (bcs key).length = 32 := by rw [bcs_len, hk32]
  have hub : Bytes useB := by
    intro x hx
    simp only [useB, List.mem_cons, List.not_mem_nil, or_false] at hx
    omega
  refine calls_enter Tryz.func54 rfl Tryz.ntmps54 rfl s ?_
  repeat' (first|(refine ycf ?_;apply ybk;(·first|(exact tk_));(·rfl);(·rfl))|(refine ybg 0 rfl rfl rfl (by show (bcs key).toArray.size = 32;simpa using hol) (by show 0 + (bcs key).toArray.size ≤ _;rw [List.size_toArray, hol];exact nble rfl) (List.all_eq_true.2 (bcs_one key)) (ybh (by show (bcs key).length = _;rw [hol];rfl)) rfl rfl ?_ ?_ ?_;(·(exact to_));(·(exact to_)))|refine t1_ ?_|(refine ta_ ?_;intro _)|((fail_if_success (refine ybi rfl ?_));refine ybj rfl ?_ ?_<;>(intro ht;rw [ht];first|replace ht := oet_ ht|replace ht := oef_ ht|skip))|(refine ych ?_;first|(refine ybw rfl ?_ ?_<;>intro ht)|(refine ybx rfl ?_ ?_<;>intro ht)))
  refine rx_perm (perm_at (k := 1) rfl) ?_
  refine rx_arr_view rfl hk32 fun h1 hle1 hm1 => ?_
  repeat' (first|(refine ycf ?_;apply ybk;(·first|(exact qv_slice_arr rfl));(·rfl);(·rfl))|refine t1_ ?_|(refine ta_ ?_;intro _)|((fail_if_success (refine ybi rfl ?_));refine ybj rfl ?_ ?_<;>(intro ht;rw [ht];first|replace ht := oet_ ht|replace ht := oef_ ht|skip))|(refine ych ?_;first|(refine ybw rfl ?_ ?_<;>intro ht)|(refine ybx rfl ?_ ?_<;>intro ht)))
  refine rx_mark 0 rfl rfl rfl (by unfold maxLen; omega) rfl rfl rfl ybf ybf ?_
  refine rx_persist_s rfl fun h2 hle2 hu2 => ?_
  have hu2 : Bs8 h2 (.slice (some ⟨_, 0, none⟩) useB.length 5) useB := hu2
  repeat' (first|(refine ycf ?_;apply ybk;(·first|(exact qv_slice_arr rfl));(·rfl);(·rfl))|refine t1_ ?_|(refine ta_ ?_;intro _)|((fail_if_success (refine ybi rfl ?_));refine ybj rfl ?_ ?_<;>(intro ht;rw [ht];first|replace ht := oet_ ht|replace ht := oef_ ht|skip))|(refine ych ?_;first|(refine ybw rfl ?_ ?_<;>intro ht)|(refine ybx rfl ?_ ?_<;>intro ht)))
  (refine yco (ycp Tryz.func72 rfl (by kernel_rfl) rfl) (expand_sp _ _ key useB hk ⟨by omega, by omega⟩ hub (by decide) h2 (by rw [hk32] at *; exact hm1.mono hle2) hu2 ((hg.mono hle1).mono hle2)) rfl rfl rfl ?_ ?_ ?_; (· (exact to_)); (· intro _ _ hle; (exact to_)); intro x px hle)
  obtain ⟨h3, vk⟩ := x
  have hle3 : Le h2 h3 := hle
  clear hle
  dsimp only at px ⊢
  have hkl := expandF_len key useB
  have hkb := expandF_by key useB
  unfold blindR
  generalize expandF key useB = kk at hkl hkb px ⊢
  obtain ⟨_, adk, capk, rfl, hcapk, _⟩ := id px
  have hle13 := (hle1.trans hle2).trans hle3
  repeat' (first|(refine ycf ?_;apply ybk;(·first|(exact tk_));(·rfl);(·rfl))|refine t1_ ?_|(refine ta_ ?_;intro _)|((fail_if_success (refine ybi rfl ?_));refine ybj rfl ?_ ?_<;>(intro ht;rw [ht];first|replace ht := oet_ ht|replace ht := oef_ ht|skip))|(refine ych ?_;first|(refine ybw rfl ?_ ?_<;>intro ht)|(refine ybx rfl ?_ ?_<;>intro ht)))
  refine rx_rowOf 1 1 1 (Nat.le_refl _) (by unfold maxLen; omega) rfl ?_
  refine rx_persist rfl fun h4 hle4 hv4 => ?_
  have efl : flatB [(.slice ad nm.length cap, nm)] 1 = nm := by simp [flatB]
  have hsum := hmac_sp _ _ kk [(.slice ad nm.length cap, nm)] hkb ⟨by omega, by omega⟩ h4 (px.mono hle4) hv4 (fun p hp1 => by
    rw [List.mem_singleton.1 hp1]; exact (hs.mono hle13).mono hle4) (fun p hp1 => by rw [List.mem_singleton.1 hp1]; exact hn) (by show (flatB _ 1).length ≤ _; rw [efl]; omega) (by simp) ((hg.mono hle13).mono hle4)
  change ∀ w, _ → Calls _ _ _ w (fun e w' => e = .returned (.agg (bcs (hmacF kk (flatB [(.slice ad nm.length cap, nm)] 1))).toArray) ∧ _) at hsum
  rw [efl] at hsum
  (refine ycn (ycp Tryz.func73 rfl (by kernel_rfl) rfl) (hsum) rfl rfl rfl ?_ ?_; (· (exact to_)))
  have hol2 := hmacF_len kk nm
  generalize hmacF kk nm = out at hol2 ⊢
  have hol2 : (bcs out).length = 32 := by rw [bcs_len, hol2]
  repeat' (first|(refine ycf ?_;apply ybk;(·first|(exact tk_));(·rfl);(·rfl))|(refine ybg 0 rfl rfl rfl (by show (bcs out).toArray.size = 32;simpa using hol2) (by show 0 + (bcs out).toArray.size ≤ _;rw [List.size_toArray, hol2];exact nble rfl) (List.all_eq_true.2 (bcs_one out)) (ybh (by show (bcs out).length = _;rw [hol2];rfl)) rfl rfl ?_ ?_ ?_;(·(exact to_));(·(exact to_)))|refine t1_ ?_|(refine ta_ ?_;intro _)|((fail_if_success (refine ybi rfl ?_));refine ybj rfl ?_ ?_<;>(intro ht;rw [ht];first|replace ht := oet_ ht|replace ht := oef_ ht|skip))|(refine ych ?_;first|(refine ybw rfl ?_ ?_<;>intro ht)|(refine ybx rfl ?_ ?_<;>intro ht)))
  exact nx_ret2 rfl (rv_cells rfl (yaz 0 rfl) (by show (bcs out).toArray.toList.length = 32; simpa using hol2)) (rv_tmp rfl) (fun w' s' => ⟨rfl, s'.nil.base⟩)
end Go.Proofs.YtaofgcahmfailaaGreatDoor
end

section
namespace Go.Proofs.YtaofgcahmfailaaGreatDoor
open Go Go.Ck
set_option maxHeartbeats 4000000
theorem rx_bview {P : Program} {n : Nat} {K : Bs} {F : List (Nat × Value)} {h : View} {L : List Res} {Q : Exit → Act → World → Prop} {g : Rg} {prs : List (Nat × Oper)} {b : Nat} {e : TypeId} {cs : Array Value} (k : Nat) (hA : K.A = []) (hk : L[k]? = some (Res.blk b (.cells cs e (0, 0)))) (hx : ∀ h', Le h h' → h' b = some (.cells cs e (0, 0)) → RX P n K g prs F h' (L.eraseIdx k) Q) :
    RX P n K g prs F h L Q := by
  refine rx_perm (perm_at hk) ?_
  refine rx_bpersist hA fun hn => hx _ (fun z o hz => ?_) ?_
  · unfold addV
    by_cases hzb : z = b
    · subst hzb; rw [hn] at hz; cases hz
    · rw [if_neg hzb]; exact hz
  · unfold addV; rw [if_pos rfl]
def lo64 (l : List Int) : W64 := BitVec.ofInt 64 (valL l)
theorem lo64_nat {l : List Int} (hb : Bytes l) (h8 : l.length = 8) : ((lo64 l).toNat : Int) = valL l := by
  have := valL_bd hb 8 (by omega)
  rw [List.take_of_length_le (by omega)] at this
  have e8 : (256 : Int) ^ 8 = 18446744073709551616 := by decide
  unfold lo64
  rw [BitVec.toNat_ofInt]
  omega
theorem Low64_sp (v : Value) (l : List Int) (hb : Bytes l) (h8 : l.length = 8) (h : View) (hv : Bs8 h v l) (w : World) (s : St ⟨w, h, []⟩ h [] w) :
    Calls Tryz.prog 104 [v].toArray w fun e w' => e = .returned (.tuple #[v64 (lo64 l), .bool true]) ∧ St ⟨w, h, []⟩ h [] w' := by
  have H := low_sp v l hb (by omega) h hv
  rw [← lo64_nat hb h8] at H
  obtain ⟨_, ad, cap, rfl, hcap, _⟩ := id hv
  refine calls_enter Tryz.func104 rfl Tryz.ntmps104 rfl s ?_
  repeat' (first|(refine ycf ?_;apply ybk;(·first|(exact tk_));(·rfl);(·rfl))|refine t1_ ?_|(refine ta_ ?_;intro _)|((fail_if_success (refine ybi rfl ?_));refine ybj rfl ?_ ?_<;>(intro ht;rw [ht];first|replace ht := oet_ ht|replace ht := oef_ ht|skip))|(refine ych ?_;first|(refine ybw rfl ?_ ?_<;>intro ht)|(refine ybx rfl ?_ ?_<;>intro ht)))
  (refine ycn (ycp Tryz.func119 rfl (by kernel_rfl) rfl) (H) rfl rfl rfl ?_ ?_; (· (exact to_)))
  repeat' (first|(refine ycf ?_;apply ybk;(·first|(exact tk_));(·rfl);(·rfl))|refine t1_ ?_|(refine ta_ ?_;intro _)|((fail_if_success (refine ybi rfl ?_));refine ybj rfl ?_ ?_<;>(intro ht;rw [ht];first|replace ht := oet_ ht|replace ht := oef_ ht|skip))|(refine ych ?_;first|(refine ybw rfl ?_ ?_<;>intro ht)|(refine ybx rfl ?_ ?_<;>intro ht)))
  exact nx_ret2 rfl (rv_tmp rfl) (rv_tmp rfl) (fun w' s' => ⟨rfl, s'⟩)
def wideP (b : List Int) : List Int := b ++ 1 :: List.replicate (16 - b.length) 0
theorem wideP_len {b : List Int} (h : b.length ≤ 16) : (wideP b).length = 17 := by simp [wideP]; omega
theorem wideP_by {b : List Int} (hb : Bytes b) : Bytes (wideP b) := cbytes_app hb (fun x hx => by
  rcases List.mem_cons.1 hx with rfl | hx
  · omega
  · exact zeros_by _ x hx)
def partF (b : List Int) : List W64 := loadF (lo64 ((wideP b).take 8)) (lo64 (((wideP b).drop 8).take 8)) (BitVec.ofInt 64 ((wideP b).getD 16 0))
theorem part_sp (v : Value) (b : List Int) (hb : Bytes b) (hl : 1 ≤ b.length ∧ b.length ≤ 16) (h : View) (hv : Bs8 h v b) (w : World) (s : St ⟨w, h, []⟩ h [] w) :
    Calls Tryz.prog 107 [v].toArray w fun e w' => e = .returned (.agg (up64 (partF b)).toArray) ∧ St ⟨w, h, []⟩ h [] w' := by
  have hwl := wideP_len hl.2
  have hwb := wideP_by hb
  obtain ⟨_, ad, cap, rfl, hcap, _⟩ := id hv
  obtain ⟨bb, ob, rfl⟩ := hv.ad (by omega) (by omega)
  have hsp : spl (bcs (List.replicate 17 0)) 0 (bcs b) = bcs (b ++ List.replicate (17 - b.length) 0) := by
    unfold spl
    rw [List.take_zero, List.nil_append, bcs_app, bcs_len, Nat.zero_add]
    congr 1
    unfold bcs
    rw [List.map_replicate, List.map_replicate, List.drop_replicate]
  have hs2 : spl (bcs (b ++ List.replicate (17 - b.length) 0)) b.length [.int .u8 1] = bcs (wideP b) := by
    have e1 : List.replicate (17 - b.length) (0 : Int) = 0 :: List.replicate (16 - b.length) 0 := by rw [show 17 - b.length = (16 - b.length) + 1 by omega]; rfl
    unfold spl wideP
    rw [e1, bcs_app, bcs_app]
    have eL := bcs_len b
    rw [List.take_append_of_le_length (by omega), List.take_of_length_le (by omega), List.drop_append, List.drop_of_length_le (by simp; omega)]
    show bcs b ++ [Value.int .u8 1] ++ ([] ++ (bcs (0 :: List.replicate (16 - b.length) 0)).drop (b.length + 1 - (bcs b).length)) = _
    rw [eL, show b.length + 1 - b.length = 1 by omega]
    simp [bcs]
  have hs3 : spl (bcs (b ++ List.replicate (17 - b.length) 0)) (0 + (b.length : Int).toNat * 1) [.int .u8 1] = bcs (wideP b) := by
    rw [show 0 + (b.length : Int).toNat * 1 = b.length by omega]; exact hs2
  have hsl : (b ++ List.replicate (17 - b.length) (0 : Int)).length = 17 := by simp; omega
  refine calls_enter Tryz.func107 rfl Tryz.ntmps107 rfl s ?_
  repeat' (first|(refine ycf ?_;apply ybk;(·first|(first|exact tk_|exact qv_slice_arr rfl));(·rfl);(·rfl))|refine t1_ ?_|(refine ta_ ?_;intro _)|((fail_if_success (refine ybi rfl ?_));refine ybj rfl ?_ ?_<;>(intro ht;rw [ht];first|replace ht := oet_ ht|replace ht := oef_ ht|skip))|(refine ych ?_;first|(refine ybw rfl ?_ ?_<;>intro ht)|(refine ybx rfl ?_ ?_<;>intro ht)))
  refine rx_copy (news := bcs b) (cs' := bcs (b ++ List.replicate (17 - b.length) 0)) 0 rfl rfl rfl hv.cells (by rw [bcs_len]; omega) (by show 0 + (bcs b).length ≤ 17; rw [bcs_len]; omega) (bcs_one _) hsp rfl rfl rfl ybf ybf ?_
  repeat' (first|(refine ycf ?_;apply ybk;(·first|(first|exact tk_|exact qv_slice_arr rfl));(·rfl);(·rfl))|(refine ybg 0 rfl rfl rfl rfl (by show 0 + (b.length : Int).toNat * 1 + 1 ≤ (bcs _).toArray.size;rw [List.size_toArray, bcs_len];omega) rfl hs3 rfl rfl ?_ ?_ ?_;(·(exact to_));(·(exact to_)))|refine t1_ ?_|(refine ta_ ?_;intro _)|((fail_if_success (refine ybi rfl ?_));refine ybj rfl ?_ ?_<;>(intro ht;rw [ht];first|replace ht := oet_ ht|replace ht := oef_ ht|skip))|(refine ych ?_;first|(refine ybw rfl ?_ ?_<;>intro ht)|(refine ybx rfl ?_ ?_<;>intro ht)))
  unfold partF
  have t8 : (((wideP b).drop 8).take 8).length = 8 := by simp; omega
  have t0 : ((wideP b).take 8).length = 8 := by simp; omega
  generalize wideP b = wd at hwl hwb t8 t0 hs2 hs3 ⊢
  rename_i bo bw
  refine rx_bview 0 rfl rfl fun h2 hle2 hK => ?_
  have hK : h2 bw = some (.cells (bcs wd).toArray 215 (0, 0)) := hK
  have c16 : ∀ L, CellAt h2 L bw 16 (.int .u8 (wd.getD 16 0)) := fun L => by
    have c : Cells h2 L ⟨bw, 0, none⟩ (bcs wd) := cells_view hK
    have := c.cell (j := 16) (u := .int .u8 (wd.getD 16 0)) (by
      unfold bcs
      rw [List.getElem?_map, List.getD_eq_getElem?_getD, List.getElem?_eq_getElem (by omega)]
      rfl)
    exact this
  have d8 := hwb (wd.getD 16 0) (by rw [List.getD_eq_getElem?_getD, List.getElem?_eq_getElem (by omega)]; exact List.getElem_mem _)
  have H1 := Low64_sp _ _ (bytes_take hwb 8) t0 h2 (bs_blk (o := 0) (m := 8) (c := 17) hK (i := 0) (j := 8) (by omega) (by omega) rfl rfl (by omega))
  have H2 := Low64_sp _ _ (bytes_take (bytes_drop hwb 8) 8) t8 h2 (bs_blk (o := 8) (m := 8) (c := 9) hK (i := 8) (j := 16) (by omega) (by omega) rfl rfl (by omega))
  repeat' (first|(refine ycf ?_;apply ybk;(·first|(first|exact tk_|exact (qv_slice_arr_to (j := 8) rfl rfl (by omega))|(refine qv_slice_arr_ij 8 16 rfl rfl rfl rfl rfl (by omega) (by omega) (by omega))|(refine qv_convert_int' rfl (wrapw rfl rfl _)))|(apply yae;(·rfl);(·exact c16 _)));(·rfl);(·rfl))|refine t1_ ?_|(refine ta_ ?_;intro _)|((fail_if_success (refine ybi rfl ?_));refine ybj rfl ?_ ?_<;>(intro ht;rw [ht];first|replace ht := oet_ ht|replace ht := oef_ ht|skip))|(refine ych ?_;first|(refine ybw rfl ?_ ?_<;>intro ht)|(refine ybx rfl ?_ ?_<;>intro ht)))
  (refine ycn (ycp Tryz.func104 rfl (by kernel_rfl) rfl) (H1) rfl rfl rfl ?_ ?_; (· (exact to_)))
  repeat' (first|(refine ycf ?_;apply ybk;(·first|(first|exact tk_|exact (qv_slice_arr_to (j := 8) rfl rfl (by omega))|(refine qv_slice_arr_ij 8 16 rfl rfl rfl rfl rfl (by omega) (by omega) (by omega))|(refine qv_convert_int' rfl (wrapw rfl rfl _)))|(apply yae;(·rfl);(·exact c16 _)));(·rfl);(·rfl))|refine t1_ ?_|(refine ta_ ?_;intro _)|((fail_if_success (refine ybi rfl ?_));refine ybj rfl ?_ ?_<;>(intro ht;rw [ht];first|replace ht := oet_ ht|replace ht := oef_ ht|skip))|(refine ych ?_;first|(refine ybw rfl ?_ ?_<;>intro ht)|(refine ybx rfl ?_ ?_<;>intro ht)))
  (refine ycn (ycp Tryz.func104 rfl (by kernel_rfl) rfl) (H2) rfl rfl rfl ?_ ?_; (· (exact to_)))
  repeat' (first|(refine ycf ?_;apply ybk;(·first|(first|exact tk_|exact (qv_slice_arr_to (j := 8) rfl rfl (by omega))|(refine qv_slice_arr_ij 8 16 rfl rfl rfl rfl rfl (by omega) (by omega) (by omega))|(refine qv_convert_int' rfl (wrapw rfl rfl _)))|(apply yae;(·rfl);(·exact c16 _)));(·rfl);(·rfl))|refine t1_ ?_|(refine ta_ ?_;intro _)|((fail_if_success (refine ybi rfl ?_));refine ybj rfl ?_ ?_<;>(intro ht;rw [ht];first|replace ht := oet_ ht|replace ht := oef_ ht|skip))|(refine ych ?_;first|(refine ybw rfl ?_ ?_<;>intro ht)|(refine ybx rfl ?_ ?_<;>intro ht)))
  (refine ycn (ycp Tryz.func105 rfl (by kernel_rfl) rfl) (load_sp (lo64 (wd.take 8)) (lo64 ((wd.drop 8).take 8)) (BitVec.ofInt 64 (wd.getD 16 0)) h2) rfl rfl rfl ?_ ?_; (· (exact to_)))
  have ll : (loadF (lo64 (wd.take 8)) (lo64 ((wd.drop 8).take 8)) (BitVec.ofInt 64 (wd.getD 16 0))).length = 5 := rfl
  generalize loadF (lo64 (wd.take 8)) (lo64 ((wd.drop 8).take 8)) (BitVec.ofInt 64 (wd.getD 16 0)) = mm at ll ⊢
  repeat' (first|(refine ycf ?_;apply ybk;(·first|exact tk_|(apply yae;(·rfl);(·exact c16 _)));(·rfl);(·rfl))|(refine ybg 0 rfl rfl rfl (w_sz8 ll) (w_fit8 ll (by rfl)) (w_one8 mm) (ybh (w_all8 ll (by rfl))) rfl rfl ?_ ?_ ?_;(·(exact to_));(·(exact to_)))|refine t1_ ?_|(refine ta_ ?_;intro _)|((fail_if_success (refine ybi rfl ?_));refine ybj rfl ?_ ?_<;>(intro ht;rw [ht];first|replace ht := oet_ ht|replace ht := oef_ ht|skip))|(refine ych ?_;first|(refine ybw rfl ?_ ?_<;>intro ht)|(refine ybx rfl ?_ ?_<;>intro ht)))
  exact nx_ret1 rfl (rv_cells rfl (yaz 0 rfl) (by rw [← ll]; exact up64_len mm)) (fun w' s' => ⟨rfl, s'.nil.base⟩)
end Go.Proofs.YtaofgcahmfailaaGreatDoor
end
