/-
  Part 6 of a proof: BitE BitF BitG BitH.
  Conditions: each theorem states its own.
-/
import Derived.Laws.BytesString
import Derived.Test.YtkkjppeaaicgaaaGreatDoorSrGPM5
section
namespace Go.Proofs.YtkkjppeaaicgaaaGreatDoor
open Go Go.Ck
set_option maxRecDepth 100000
set_option maxHeartbeats 2000000
set_option linter.unusedVariables false
def bstr (l : List Int) : ByteArray := ⟨(l.map fun n => UInt8.ofNat n.toNat).toArray⟩
theorem bstr_app (l m : List Int) : bstr l ++ bstr m = bstr (l ++ m) := by
  apply ByteArray.ext
  simp [bstr]
theorem foldl_push : ∀ (l : List Int) (r : ByteArray), l.foldl (fun r n => r.push (UInt8.ofNat n.toNat)) r = ⟨r.data ++ (l.map fun n => UInt8.ofNat n.toNat).toArray⟩
  | [], r => by simp
  | b :: l, r => by
    simp only [List.foldl_cons]
    rw [foldl_push l]
    simp [ByteArray.push]
section
variable {P : Program} {n : Nat} {F : List (Nat × Value)} {h : View} {L : List Res} {dst : Option Nat} {ty : Nat} {pos : String} {af : Array Edge} {gd : Option (Nat × Bool)}
theorem qv_str_of {S D e : Nat} {x : Operand} {ad : Addr} {cap : Nat} {l : List Int} [tS : TyU P S (.slice e)] [te : TyU P e (.int .u8)] [tD : TyU P D .string] (hx : ev F x = some (.slice (some ad) l.length cap)) (hc : Cells h L ad (bcs l)) :
    QV P n F h L ⟨dst, .convert S D x, ty, pos, af, gd⟩ (.string (bstr l)) := by
  refine .mk fun a w f s => ?_
  have hl := run_loadCells_cells (P := P) (w := w) (ad := ad) (vs := bcs l) (hc w s)
  rw [bcs_len] at hl
  have h1 := run_convert_bytes_string (P := P) w S D e (some ad) l.length cap tS.u te.u tD.u
  rw [run_bytesToString w ad l.length cap l hl, foldl_push] at h1
  have h2 : (⟨ByteArray.empty.data ++ (l.map fun n => UInt8.ofNat n.toNat).toArray⟩ : ByteArray) = bstr l := by
    have he0 : ByteArray.empty.data = #[] := rfl
    rw [he0, Array.empty_append]
    rfl
  rw [h2] at h1
  simp only [execOp, f.ev hx, Sem.run_bind, h1]
  rfl
theorem qv_str_add {T T' : Nat} {x y : Operand} {a b c : ByteArray} (hx : ev F x = some (.string a)) (hy : ev F y = some (.string b)) (hs : a ++ b = c) (hb : a.size + b.size < 1000000) :
    QV P n F h L ⟨dst, .binOp .add T x y T', ty, pos, af, gd⟩ (.string c) := by
  subst hs
  refine .mk fun ac w f s => ?_
  have hg : (eqGuard .add T x y (.string a) (.string b)).run P w = .ok () w := by simp [eqGuard]
  simp only [execOp, f.ev hx, f.ev hy, Sem.run_bind, hg, Result.andThen_ok, binOp, Op.stringOp]
  have hmax : IntKind.i64.max = 9223372036854775807 := by decide
  rw [if_neg (by rw [hmax]; omega)]
  rfl
theorem qv_quo {T T' : Nat} {x y : Operand} {k : IntKind} {i j r : Int} (hx : ev F x = some (.int k i)) (hy : ev F y = some (.int k j)) (hj : j ≠ 0) (hr : k.wrap (i.tdiv j) = r) :
    QV P n F h L ⟨dst, .binOp .quo T x y T', ty, pos, af, gd⟩ (.int k r) := by
  subst hr
  exact .mk fun a w f s => by simp [execOp, f.ev hx, f.ev hy, run_guard_int, binOp, Op.intDiv, hj]
theorem qv_rem' {T T' : Nat} {x y : Operand} {k : IntKind} {i j r : Int} (hx : ev F x = some (.int k i)) (hy : ev F y = some (.int k j)) (hj : j ≠ 0) (hr : i.tmod j = r) :
    QV P n F h L ⟨dst, .binOp .rem T x y T', ty, pos, af, gd⟩ (.int k r) := by subst hr; exact qv_rem hx hy hj
theorem qv_eql_str {T T' : Nat} {x y : Operand} {a b : ByteArray} {t : Bool} (hx : ev F x = some (.string a)) (hy : ev F y = some (.string b)) (ht : (a.toList == b.toList) = t) :
    QV P n F h L ⟨dst, .binOp .eql T x y T', ty, pos, af, gd⟩ (.bool t) := by
  subst ht
  refine .mk fun ac w f s => ?_
  have hg : (eqGuard .eql T x y (.string a) (.string b)).run P w = .ok () w := by simp [eqGuard]
  simp only [execOp, f.ev hx, f.ev hy, Sem.run_bind, hg, Result.andThen_ok, binOp, Op.stringOp]
  rfl
end
section
variable {P : Program} {n : Nat} {F : List (Nat × Value)} {h : View} {L : List Res} {dst : Option Nat} {ty : Nat} {pos : String} {af : Array Edge} {gd : Option (Nat × Bool)}
theorem qv_str_none {S D e : Nat} {x : Operand} {len cap : Nat} [tS : TyU P S (.slice e)] [te : TyU P e (.int .u8)] [tD : TyU P D .string] (hx : ev F x = some (.slice none len cap)) :
    QV P n F h L ⟨dst, .convert S D x, ty, pos, af, gd⟩ (.string (bstr [])) := by
  refine .mk fun a w f s => ?_
  have h1 := run_convert_bytes_string (P := P) w S D e none len cap tS.u te.u tD.u
  have h2 : (Conv.bytesToString (.slice none len cap)).run P w = .ok (.string (bstr [])) w := by
    unfold Conv.bytesToString
    rfl
  rw [h2] at h1
  simp only [execOp, f.ev hx, Sem.run_bind, h1]
  rfl
theorem qv_str_bs {S D e : Nat} {x : Operand} {v : Value} {l : List Int} [tS : TyU P S (.slice e)] [te : TyU P e (.int .u8)] [tD : TyU P D .string] (hx : ev F x = some v) (hs : Bs8 h v l) :
    QV P n F h L ⟨dst, .convert S D x, ty, pos, af, gd⟩ (.string (bstr l)) := by
  obtain ⟨_, ad, cap, rfl, _, _⟩ := id hs
  rcases hs.src (L := L) with ⟨hn, _⟩ | ⟨b, o, rfl, hc⟩
  · have hl : l = [] := by simpa [bcs] using hn
    subst hl
    cases ad with
    | none => exact qv_str_none hx
    | some ad => exact qv_str_of (l := []) hx (fun w _ j u hj => by simp [bcs] at hj)
  · exact qv_str_of hx hc
end
theorem bstr_size (l : List Int) : (bstr l).size = l.length := by simp [bstr, ByteArray.size]
theorem One_sp (n : Int) (h0 : 0 ≤ n) (h1 : n ≤ 255) (h : View) (w : World) (s : St ⟨w, h, []⟩ h [] w) :
    Calls Tryz.prog 75 [.int .i64 n].toArray w fun e w' => e = .returned (.string (bstr (num1 n))) ∧ St ⟨w, h, []⟩ h [] w' := by
  have hw : IntKind.u8.wrap n = n % 256 := wrap_u8 n
  have hn : num1 n = [n % 256] := rfl
  rw [hn]
  refine calls_enter Tryz.func75 rfl Tryz.ntmps75 rfl s ?_
  repeat' (first|(refine ycf ?_;apply ybk;(·first|(first|(refine qv_convert_int' rfl hw)|(refine qv_str_of (l := [n % 256]) rfl (yaz 0 rfl))));(·rfl);(·rfl))|refine t1_ ?_|(refine ta_ ?_;intro _)|((fail_if_success (refine ybi rfl ?_));refine ybj rfl ?_ ?_<;>(intro ht;rw [ht];first|replace ht := oet_ ht|replace ht := oef_ ht|skip))|(refine ych ?_;first|(refine ybw rfl ?_ ?_<;>intro ht)|(refine ybx rfl ?_ ?_<;>intro ht)))
  exact nx_ret1 rfl (rv_tmp rfl) (fun w' s' => ⟨rfl, s'.nil⟩)
theorem Put_sp (x : Int) (m : Nat) (hx : 0 ≤ x ∧ x < 18446744073709551616) (hm : m ≤ 64) (h : View) (w : World) (s : St ⟨w, h, []⟩ h [] w) :
    Calls Tryz.prog 76 [.int .u64 x, .int .i64 m, .bool true].toArray w fun e w' => e = .returned (.string (bstr (putLow m x).reverse)) ∧ St ⟨w, h, []⟩ h [] w' := by
  refine calls_enter Tryz.func76 rfl Tryz.ntmps76 rfl s ?_
  repeat' (first|(refine ycf ?_;apply ybk;(·first|(first|(refine qv_convert_int' rfl hw)|(refine qv_str_of (l := [n % 256]) rfl (yaz 0 rfl))));(·rfl);(·rfl))|refine t1_ ?_|(refine ta_ ?_;intro _)|((fail_if_success (refine ybi rfl ?_));refine ybj rfl ?_ ?_<;>(intro ht;rw [ht];first|replace ht := oet_ ht|replace ht := oef_ ht|skip))|(refine ych ?_;first|(refine ybw rfl ?_ ?_<;>intro ht)|(refine ybx rfl ?_ ?_<;>intro ht)))
  refine cx_loop (X := Nat) (fun k => [(0, .int .u64 (x / 256 ^ k)), (1, .int .i64 m), (2, .bool true), (7, .string (bstr (putLow k x).reverse)), (8, .int .i64 k)]) (fun _ => h) (fun _ => []) (fun k => k ≤ m) (fun k => m - k) 0 (Nat.zero_le _) ?_ (fun _ s => s) ?_
  · refine Sub.cons rfl ?_ ts_
    simp
  intro k hk
  by_cases hkm : k < m
  · have hb := divp_bd (k := k) hx
    have hr : (x / 256 ^ k).tmod 256 = x / 256 ^ k % 256 := Int.tmod_eq_emod_of_nonneg hb.1
    have hw : IntKind.u8.wrap (x / 256 ^ k % 256) = x / 256 ^ k % 256 := by rw [wrap_u8]; omega
    have hq : IntKind.u64.wrap ((x / 256 ^ k).tdiv 256) = x / 256 ^ (k + 1) := by
      rw [Int.tdiv_eq_ediv_of_nonneg hb.1, Int.ediv_ediv_of_nonneg (Int.le_of_lt (Int.pow_pos (by decide))), ← Int.pow_succ]
      have := divp_bd (k := k + 1) hx
      exact wrap_u64 this.1 this.2
    have hcat : bstr [x / 256 ^ k % 256] ++ bstr (putLow k x).reverse = bstr (putLow (k + 1) x).reverse := by
      rw [bstr_app, putLow_succ, List.reverse_append]
      rfl
    have hsz : (bstr [x / 256 ^ k % 256]).size + (bstr (putLow k x).reverse).size < 1000000 := by
      rw [bstr_size, bstr_size, List.length_reverse, putLow_len]
      simp; omega
    repeat' (first|(refine ycf ?_;apply ybk;(·first|(first|(refine qv_rem' rfl rfl (by decide) hr)|(refine qv_quo rfl rfl (by decide) hq)|(refine qv_convert_int' rfl hw)|(refine qv_str_of (l := [x / 256 ^ k % 256]) rfl (yaz 0 rfl))|(refine qv_str_add rfl rfl hcat hsz)));(·rfl);(·rfl))|refine t1_ ?_|(refine ta_ ?_;intro _)|((fail_if_success (refine ybi rfl ?_));refine ybj rfl ?_ ?_<;>(intro ht;rw [ht];first|replace ht := oet_ ht|replace ht := oef_ ht|skip))|(refine ych ?_;first|(refine ybw rfl ?_ ?_<;>intro ht)|(refine ybx rfl ?_ ?_<;>intro ht)))
    · refine nx_round (k + 1) (by show k + 1 ≤ m; omega) (by show m - (k + 1) < m - k; omega) ts_ (fun _ s => s.tl)
    all_goals omega
  · have ek : k = m := by omega
    subst ek
    repeat' (first|(refine ycf ?_;apply ybk;(·first|(first|(refine qv_rem' rfl rfl (by decide) hr)|(refine qv_quo rfl rfl (by decide) hq)|(refine qv_convert_int' rfl hw)|(refine qv_str_of (l := [x / 256 ^ k % 256]) rfl (yaz 0 rfl))|(refine qv_str_add rfl rfl hcat hsz)));(·rfl);(·rfl))|refine t1_ ?_|(refine ta_ ?_;intro _)|((fail_if_success (refine ybi rfl ?_));refine ybj rfl ?_ ?_<;>(intro ht;rw [ht];first|replace ht := oet_ ht|replace ht := oef_ ht|skip))|(refine ych ?_;first|(refine ybw rfl ?_ ?_<;>intro ht)|(refine ybx rfl ?_ ?_<;>intro ht)))
    all_goals try omega
    exact nx_ret1 rfl (rv_tmp rfl) (fun w' s' => ⟨rfl, s'.nil⟩)
theorem refNum_sp (n : Int) (h0 : 0 ≤ n) (h1 : n < 9223372036854775808) (h : View) (w : World) (s : St ⟨w, h, []⟩ h [] w) :
    Calls Tryz.prog 47 [.int .i64 n].toArray w fun e w' => e = .returned (.string (bstr (num8 n))) ∧ St ⟨w, h, []⟩ h [] w' := by
  have hw := wrap_u64 h0 (by omega)
  refine calls_enter Tryz.func47 rfl Tryz.ntmps47 rfl s ?_
  repeat' (first|(refine ycf ?_;apply ybk;(·first|(refine qv_convert_int' rfl hw));(·rfl);(·rfl))|refine t1_ ?_|(refine ta_ ?_;intro _)|((fail_if_success (refine ybi rfl ?_));refine ybj rfl ?_ ?_<;>(intro ht;rw [ht];first|replace ht := oet_ ht|replace ht := oef_ ht|skip))|(refine ych ?_;first|(refine ybw rfl ?_ ?_<;>intro ht)|(refine ybx rfl ?_ ?_<;>intro ht)))
  · omega
  (refine ycn (ycp Tryz.func76 rfl (by kernel_rfl) rfl) (Put_sp n 8 ⟨h0, by omega⟩ (by omega) h) rfl rfl rfl ?_ ?_; (· (exact to_)))
  repeat' (first|(refine ycf ?_;apply ybk;(·first|(refine qv_convert_int' rfl hw));(·rfl);(·rfl))|refine t1_ ?_|(refine ta_ ?_;intro _)|((fail_if_success (refine ybi rfl ?_));refine ybj rfl ?_ ?_<;>(intro ht;rw [ht];first|replace ht := oet_ ht|replace ht := oef_ ht|skip))|(refine ych ?_;first|(refine ybw rfl ?_ ?_<;>intro ht)|(refine ybx rfl ?_ ?_<;>intro ht)))
  exact nx_ret1 rfl (rv_tmp rfl) (fun w' s' => ⟨rfl, s'.nil⟩)
theorem refSmall_sp (n : Int) (h0 : 0 ≤ n) (h1 : n ≤ 255) (h : View) (w : World) (s : St ⟨w, h, []⟩ h [] w) :
    Calls Tryz.prog 46 [.int .i64 n].toArray w fun e w' => e = .returned (.string (bstr (num1 n))) ∧ St ⟨w, h, []⟩ h [] w' := by
  refine calls_enter Tryz.func46 rfl Tryz.ntmps46 rfl s ?_
  repeat' (first|(refine ycf ?_;apply ybk;(·first|(refine qv_convert_int' rfl hw));(·rfl);(·rfl))|refine t1_ ?_|(refine ta_ ?_;intro _)|((fail_if_success (refine ybi rfl ?_));refine ybj rfl ?_ ?_<;>(intro ht;rw [ht];first|replace ht := oet_ ht|replace ht := oef_ ht|skip))|(refine ych ?_;first|(refine ybw rfl ?_ ?_<;>intro ht)|(refine ybx rfl ?_ ?_<;>intro ht)))
  · omega
  · omega
  (refine ycn (ycp Tryz.func75 rfl (by kernel_rfl) rfl) (One_sp n h0 h1 h) rfl rfl rfl ?_ ?_; (· (exact to_)))
  repeat' (first|(refine ycf ?_;apply ybk;(·first|(refine qv_convert_int' rfl hw));(·rfl);(·rfl))|refine t1_ ?_|(refine ta_ ?_;intro _)|((fail_if_success (refine ybi rfl ?_));refine ybj rfl ?_ ?_<;>(intro ht;rw [ht];first|replace ht := oet_ ht|replace ht := oef_ ht|skip))|(refine ych ?_;first|(refine ybw rfl ?_ ?_<;>intro ht)|(refine ybx rfl ?_ ?_<;>intro ht)))
  exact nx_ret1 rfl (rv_tmp rfl) (fun w' s' => ⟨rfl, s'.nil⟩)
end Go.Proofs.YtkkjppeaaicgaaaGreatDoor
end

section
namespace Go.Proofs.YtkkjppeaaicgaaaGreatDoor
open Go Go.Ck
set_option maxRecDepth 100000
set_option maxHeartbeats 2000000
set_option linter.unusedVariables false
theorem refWrite_sp (cv : Value) (u : List Int) (l : List Dt) (h : View) (hc : Cx h cv u l) (hk0 : checkC u l = 0) (w : World) (s : St ⟨w, h, []⟩ h [] w) :
    Calls Tryz.prog 49 [cv].toArray w fun e w' => e = .returned (.string (bstr (encW u l))) ∧ St ⟨w, h, []⟩ h [] w' := by
  obtain ⟨hub, hl32, hlr⟩ := check_right hk0
  obtain ⟨hu, mv, rfl, hs⟩ := hc
  obtain ⟨_, ad, cap, rfl, _, _⟩ := id hs
  refine calls_enter Tryz.func49 rfl Tryz.ntmps49 rfl s ?_
  repeat' (first|refine tw_ ?_|(refine ta_ ?_;intro _)|((fail_if_success (refine ybi rfl ?_));refine ybj rfl ?_ ?_<;>(intro ht;rw [ht];first|replace ht := oet_ ht|replace ht := oef_ ht|skip))|(refine ych ?_;first|(refine ybw rfl ?_ ?_<;>intro ht)|(refine ybx rfl ?_ ?_<;>intro ht)))
  rename_i b1
  refine cx_loop (X := Nat) (fun k => [(1, .pointer (some ⟨b1, 0, none⟩)), (3, .string (bstr ((u.take k).flatMap num8))), (4, .int .i64 k)]) (fun _ => h) (fun _ => _) (fun k => k ≤ 16) (fun k => 16 - k) 0 (Nat.zero_le _) ts_ (fun _ s => s) ?_
  intro k hk
  by_cases hk16 : k < 16
  · have hku : k < u.length := by omega
    have egk : u.getD k 0 = u[k] := by simp [hku]
    have hb := hub _ (List.getElem_mem hku)
    rw [← egk] at hb
    have hfl := encU_len (u.take k)
    rw [List.length_take] at hfl
    have hcat : bstr ((u.take k).flatMap num8) ++ bstr (num8 (u.getD k 0)) = bstr ((u.take (k + 1)).flatMap num8) := by rw [bstr_app, flat_succ hku, egk]
    have hsz : (bstr ((u.take k).flatMap num8)).size + (bstr (num8 (u.getD k 0))).size < 1000000 := by rw [bstr_size, bstr_size, num8_len, hfl]; omega
    repeat' (first|(refine ycf ?_;apply ybk;(·first|(refine qv_str_add rfl rfl hcat hsz)|(apply yae;(·rfl);(·exact ycl (yaz 0 rfl) k (by omega) hku)));(·rfl);(·rfl))|refine t1_ ?_|(refine ta_ ?_;intro _)|((fail_if_success (refine ybi rfl ?_));refine ybj rfl ?_ ?_<;>(intro ht;rw [ht];first|replace ht := oet_ ht|replace ht := oef_ ht|skip))|(refine ych ?_;first|(refine ybw rfl ?_ ?_<;>intro ht)|(refine ybx rfl ?_ ?_<;>intro ht)))
    (refine ycn (ycp Tryz.func47 rfl (by kernel_rfl) rfl) (refNum_sp (u.getD k 0) hb.1 (by omega) h) rfl rfl rfl ?_ ?_; (· (exact to_)))
    repeat' (first|(refine ycf ?_;apply ybk;(·first|(refine qv_str_add rfl rfl hcat hsz)|(apply yae;(·rfl);(·exact ycl (yaz 0 rfl) k (by omega) hku)));(·rfl);(·rfl))|refine t1_ ?_|(refine ta_ ?_;intro _)|((fail_if_success (refine ybi rfl ?_));refine ybj rfl ?_ ?_<;>(intro ht;rw [ht];first|replace ht := oet_ ht|replace ht := oef_ ht|skip))|(refine ych ?_;first|(refine ybw rfl ?_ ?_<;>intro ht)|(refine ybx rfl ?_ ?_<;>intro ht)))
    exact nx_round (k + 1) (by show k + 1 ≤ 16; omega) (by show 16 - (k + 1) < 16 - k; omega) ts_ (fun _ s => s)
    omega
  · have ek : k = 16 := by omega
    subst ek
    have htk : u.take 16 = u := List.take_of_length_le (by omega)
    have hfl := encU_len u
    rw [htk]
    have hcat : bstr (u.flatMap num8) ++ bstr (num1 l.length) = bstr (u.flatMap num8 ++ num1 l.length) := bstr_app _ _
    have hsz : (bstr (u.flatMap num8)).size + (bstr (num1 l.length)).size < 1000000 := by rw [bstr_size, bstr_size, num1_len, hfl]; omega
    repeat' (first|(refine ycf ?_;apply ybk;(·first|(refine qv_str_add rfl rfl hcat hsz)|(apply yae;(·rfl);(·exact yck (yaz 0 rfl) hu rfl)));(·rfl);(·rfl))|refine t1_ ?_|(refine ta_ ?_;intro _)|((fail_if_success (refine ybi rfl ?_));refine ybj rfl ?_ ?_<;>(intro ht;rw [ht];first|replace ht := oet_ ht|replace ht := oef_ ht|skip))|(refine ych ?_;first|(refine ybw rfl ?_ ?_<;>intro ht)|(refine ybx rfl ?_ ?_<;>intro ht)))
    (refine ycn (ycp Tryz.func46 rfl (by kernel_rfl) rfl) (refSmall_sp l.length (by omega) (by omega) h) rfl rfl rfl ?_ ?_; (· (exact to_)))
    repeat' (first|(refine ycf ?_;apply ybk;(·first|(refine qv_str_add rfl rfl hcat hsz)|(apply yae;(·rfl);(·exact yck (yaz 0 rfl) hu rfl)));(·rfl);(·rfl))|refine t1_ ?_|(refine ta_ ?_;intro _)|((fail_if_success (refine ybi rfl ?_));refine ybj rfl ?_ ?_<;>(intro ht;rw [ht];first|replace ht := oet_ ht|replace ht := oef_ ht|skip))|(refine ych ?_;first|(refine ybw rfl ?_ ?_<;>intro ht)|(refine ybx rfl ?_ ?_<;>intro ht)))
    have hpre : (u.flatMap num8 ++ num1 l.length).length = 129 := by rw [List.length_append, hfl, num1_len]; omega
    refine cx_loop (X := Nat) (fun k => [(1, .pointer (some ⟨b1, 0, none⟩)), (3, .string (bstr (u.flatMap num8 ++ num1 l.length ++ (l.take k).flatMap encD))), (5, .int .i64 k)]) (fun _ => h) (fun _ => _) (fun k => k ≤ l.length) (fun k => l.length - k) 0 (Nat.zero_le _) ?_ (fun _ s => s) ?_
    · refine Sub.cons rfl rfl (Sub.cons rfl ?_ ts_)
      rw [List.take_zero, List.flatMap_nil, List.append_nil]
    intro j hj
    have hfj := encL_len (l.take j)
    rw [List.length_take] at hfj
    by_cases hjl : j < l.length
    · obtain ⟨bs, o, rfl⟩ := hs.ad (by omega) (by omega)
      have hel : ∀ L, Cells h L ⟨bs, o + j * 2, none⟩ (dcs l[j]) := fun L => hs.elem dcs_len j hjl
      have hc0 : ∀ L, CellAt h L bs (o + (j : Int).toNat * 2 + 0) (.int .i64 l[j].1) := fun L => (hel L).cell (j := 0) rfl
      have hc1 : ∀ L, CellAt h L bs (o + (j : Int).toNat * 2 + 1) (.int .i64 l[j].2) := fun L => (hel L).cell (j := 1) rfl
      have hd4 := right_of (hlr _ (List.getElem_mem hjl))
      have hcat1 : bstr (u.flatMap num8 ++ num1 l.length ++ (l.take j).flatMap encD) ++ bstr (num8 l[j].1) = bstr (u.flatMap num8 ++ num1 l.length ++ (l.take j).flatMap encD ++ num8 l[j].1) := bstr_app _ _
      have hcat2 : bstr (u.flatMap num8 ++ num1 l.length ++ (l.take j).flatMap encD ++ num8 l[j].1) ++ bstr (num8 l[j].2) = bstr (u.flatMap num8 ++ num1 l.length ++ (l.take (j + 1)).flatMap encD) := by
        rw [bstr_app, flat_succ hjl]
        simp only [encD, List.append_assoc]
      have hsz1 : (bstr (u.flatMap num8 ++ num1 l.length ++ (l.take j).flatMap encD)).size + (bstr (num8 l[j].1)).size < 1000000 := by rw [bstr_size, bstr_size, num8_len, List.length_append, hpre, hfj]; omega
      have hsz2 : (bstr (u.flatMap num8 ++ num1 l.length ++ (l.take j).flatMap encD ++ num8 l[j].1)).size + (bstr (num8 l[j].2)).size < 1000000 := by rw [bstr_size, bstr_size, num8_len, List.length_append, num8_len, List.length_append, hpre, hfj]; omega
      repeat' (first|(refine ycf ?_;apply ybk;(·first|(refine qv_str_add rfl rfl hcat hsz)|(apply yae;(·rfl);(·exact yck (yaz 0 rfl) hu rfl)));(·rfl);(·rfl))|refine t1_ ?_|(refine ta_ ?_;intro _)|((fail_if_success (refine ybi rfl ?_));refine ybj rfl ?_ ?_<;>(intro ht;rw [ht];first|replace ht := oet_ ht|replace ht := oef_ ht|skip))|(refine ych ?_;first|(refine ybw rfl ?_ ?_<;>intro ht)|(refine ybx rfl ?_ ?_<;>intro ht)))
      · refine cx_region_draw' rfl (by kernel_rfl) ?_
        repeat' (refine ycf ?_;(first|(first|(apply ybm;(·(first|(first|(refine qv_str_add rfl rfl hcat1 hsz1)|(refine qv_str_add rfl rfl hcat2 hsz2))|(apply yae;(·rfl);(·(first|exact yck (yaz 0 rfl) hu rfl|exact hc0 _|exact hc1 _)))|exact tq_));(·rfl);(·rfl);(·(exact th_)))|refine ybl rfl rfl ?_|((fail_if_success (refine ybi rfl ?_));refine ybj rfl ?_ ?_<;>(intro ht;rw [ht];first|replace ht := oet_ ht|replace ht := oef_ ht|skip))|(refine tb_ ?_ ?_ ?_;(·(exact to_));(·intro _;(exact to_));intro _)|(first|(refine tqs_ ?_ ?_ ?_;(·(exact to_));(·(exact to_))))|(apply ybn;(·(first|(first|(refine qv_str_add rfl rfl hcat1 hsz1)|(refine qv_str_add rfl rfl hcat2 hsz2))|(apply yae;(·rfl);(·(first|exact yck (yaz 0 rfl) hu rfl|exact hc0 _|exact hc1 _)))|exact tq_));(·rfl);(·rfl);(·rfl);(·(exact to_))))|refine ycg ?_))
        (refine ycn (ycp Tryz.func47 rfl (by kernel_rfl) rfl) (refNum_sp l[j].1 (by omega) (by omega) h) rfl rfl rfl ?_ ?_; (· (exact to_)))
        repeat' (refine ycf ?_;(first|(first|(apply ybm;(·(first|(first|(refine qv_str_add rfl rfl hcat1 hsz1)|(refine qv_str_add rfl rfl hcat2 hsz2))|(apply yae;(·rfl);(·(first|exact yck (yaz 0 rfl) hu rfl|exact hc0 _|exact hc1 _)))|exact tq_));(·rfl);(·rfl);(·(exact th_)))|refine ybl rfl rfl ?_|((fail_if_success (refine ybi rfl ?_));refine ybj rfl ?_ ?_<;>(intro ht;rw [ht];first|replace ht := oet_ ht|replace ht := oef_ ht|skip))|(refine tb_ ?_ ?_ ?_;(·(exact to_));(·intro _;(exact to_));intro _)|(first|(refine tqs_ ?_ ?_ ?_;(·(exact to_));(·(exact to_))))|(apply ybn;(·(first|(first|(refine qv_str_add rfl rfl hcat1 hsz1)|(refine qv_str_add rfl rfl hcat2 hsz2))|(apply yae;(·rfl);(·(first|exact yck (yaz 0 rfl) hu rfl|exact hc0 _|exact hc1 _)))|exact tq_));(·rfl);(·rfl);(·rfl);(·(exact to_))))|refine ycg ?_))
        (refine ycn (ycp Tryz.func47 rfl (by kernel_rfl) rfl) (refNum_sp l[j].2 (by omega) (by omega) h) rfl rfl rfl ?_ ?_; (· (exact to_)))
        repeat' (refine ycf ?_;(first|(first|(apply ybm;(·(first|(first|(refine qv_str_add rfl rfl hcat1 hsz1)|(refine qv_str_add rfl rfl hcat2 hsz2))|(apply yae;(·rfl);(·(first|exact yck (yaz 0 rfl) hu rfl|exact hc0 _|exact hc1 _)))|exact tq_));(·rfl);(·rfl);(·(exact th_)))|refine ybl rfl rfl ?_|((fail_if_success (refine ybi rfl ?_));refine ybj rfl ?_ ?_<;>(intro ht;rw [ht];first|replace ht := oet_ ht|replace ht := oef_ ht|skip))|(refine tb_ ?_ ?_ ?_;(·(exact to_));(·intro _;(exact to_));intro _)|(first|(refine tqs_ ?_ ?_ ?_;(·(exact to_));(·(exact to_))))|(apply ybn;(·(first|(first|(refine qv_str_add rfl rfl hcat1 hsz1)|(refine qv_str_add rfl rfl hcat2 hsz2))|(apply yae;(·rfl);(·(first|exact yck (yaz 0 rfl) hu rfl|exact hc0 _|exact hc1 _)))|exact tq_));(·rfl);(·rfl);(·rfl);(·(exact to_))))|refine ycg ?_))
        repeat' (first|(refine ycf ?_;apply ybk;(·first|(first|(refine qv_str_add rfl rfl hcat1 hsz1)|(refine qv_str_add rfl rfl hcat2 hsz2))|(apply yae;(·rfl);(·(first|exact yck (yaz 0 rfl) hu rfl|exact hc0 _|exact hc1 _))));(·rfl);(·rfl))|refine t1_ ?_|(refine ta_ ?_;intro _)|((fail_if_success (refine ybi rfl ?_));refine ybj rfl ?_ ?_<;>(intro ht;rw [ht];first|replace ht := oet_ ht|replace ht := oef_ ht|skip))|(refine ych ?_;first|(refine ybw rfl ?_ ?_<;>intro ht)|(refine ybx rfl ?_ ?_<;>intro ht)))
        exact nx_round (j + 1) (by show j + 1 ≤ _; omega) (by show l.length - (j + 1) < l.length - j; omega) ts_ (fun _ s => s)
      · omega
    · have ej : j = l.length := by omega
      subst ej
      rw [List.take_length]
      repeat' (first|(refine ycf ?_;apply ybk;(·first|(first|(refine qv_str_add rfl rfl hcat1 hsz1)|(refine qv_str_add rfl rfl hcat2 hsz2))|(apply yae;(·rfl);(·(first|exact yck (yaz 0 rfl) hu rfl|exact hc0 _|exact hc1 _))));(·rfl);(·rfl))|refine t1_ ?_|(refine ta_ ?_;intro _)|((fail_if_success (refine ybi rfl ?_));refine ybj rfl ?_ ?_<;>(intro ht;rw [ht];first|replace ht := oet_ ht|replace ht := oef_ ht|skip))|(refine ych ?_;first|(refine ybw rfl ?_ ?_<;>intro ht)|(refine ybx rfl ?_ ?_<;>intro ht)))
      · omega
      exact nx_ret1 rfl (rv_tmp rfl) (fun w' s' => ⟨rfl, s'.nil⟩)
end Go.Proofs.YtkkjppeaaicgaaaGreatDoor
end

section
namespace Go.Ck
open Go
set_option linter.unusedVariables false
section
variable {P : Program} {n : Nat} {F : List (Nat × Value)} {h : View} {L : List Res} {dst : Option Nat} {ty : Nat} {pos : String} {af : Array Edge} {gd : Option (Nat × Bool)}
def cutF (ad : Option Addr) (cap i k : Nat) : Option Addr := if cap = i then ad else ad.map (·.add (i * k))
theorem qv_slice_from {T e k : Nat} {x y : Operand} {ad : Option Addr} {len cap i : Nat} {ki : IntKind} [tu : TyU P T (.slice e)] [ts : TyS P e k] (hx : ev F x = some (.slice ad len cap)) (hy : ev F y = some (.int ki i)) (h1 : i ≤ len) :
    QV P n F h L ⟨dst, .slice T x (some y) none none, ty, pos, af, gd⟩ (.slice (cutF ad cap i k) (len - i) (cap - i)) := .mk fun a w f s => by
  have h2 : (0 : Int) ≤ (i : Int) ∧ (i : Int) ≤ (len : Int) := by omega
  simp [execOp, f.ev hx, f.ev hy, Instr.sliceAt, Instr.slice, Instr.sliceBounds, Instr.sliceBound, asIntOf, run_underlying tu.u, h2, ts.s, cutF]
  try omega
theorem sc_drop {k m cap j : Nat} {ad : Option Addr} {xs : List Value} (s : Sc h k (.slice ad m cap) m xs) (hk : 0 < k) (hj : j ≤ m) : Sc h k (.slice (cutF ad cap j k) (m - j) (cap - j)) (m - j) (xs.drop (j * k)) := by
  obtain ⟨q1, ad', cap', q2, q3, q4⟩ := s
  cases q2
  refine ⟨by rw [List.length_drop, q1, Nat.sub_mul], _, _, rfl, by omega, ?_⟩
  by_cases hm : j = m
  · exact .inl (List.drop_eq_nil_of_le (by rw [q1, hm]; omega))
  · rcases q4 with q4 | ⟨b, o, cs, e, fz, rfl, q6, q7⟩
    · exact .inl (by rw [q4]; simp)
    · refine .inr ⟨b, o + j * k, cs, e, fz, ?_, q6, fun t u ht => ?_⟩
      · unfold cutF
        rw [if_neg (by omega)]
        show some ((⟨b, o, none⟩ : Addr).add (j * k)) = _
        rw [Addr.add_off]
      · rw [List.getElem?_drop] at ht
        have := q7 _ _ ht
        rwa [← Nat.add_assoc] at this
theorem qv_shl {T T' : Nat} {x y : Operand} {k k' : IntKind} {i r : Int} {j : Nat} (hx : ev F x = some (.int k i)) (hy : ev F y = some (.int k' j)) (hj : j < k.bits) (hr : k.wrap (i * 2 ^ j) = r) :
    QV P n F h L ⟨dst, .binOp .shl T x y T', ty, pos, af, gd⟩ (.int k r) := by
  subst hr
  refine .mk fun a w f s => ?_
  have h0 : ¬ ((j : Int) < 0) := by omega
  have h1 : min j k.bits = j := by omega
  have hg : (eqGuard .shl T x y (.int k i) (.int k' j)).run P w = .ok () w := by simp [eqGuard]
  simp [execOp, f.ev hx, f.ev hy, hg, binOp, Op.shift, h0, h1]
theorem or_add {x c : Int} (hx : 0 ≤ x) (hxb : x * 256 < 18446744073709551616) (hc : 0 ≤ c ∧ c < 256) : IntKind.u64.wrap (((BitVec.ofInt 64 (x * 256)) ||| (BitVec.ofInt 64 c)).toNat : Int) = x * 256 + c := by
  obtain ⟨a, rfl⟩ := Int.eq_ofNat_of_zero_le hx
  obtain ⟨b, rfl⟩ := Int.eq_ofNat_of_zero_le hc.1
  have e1 : BitVec.ofInt 64 ((a : Int) * 256) = BitVec.ofNat 64 (a * 256) := by
    rw [show (a : Int) * 256 = ((a * 256 : Nat) : Int) by omega]; exact BitVec.ofInt_natCast 64 _
  have e2 : BitVec.ofInt 64 (b : Int) = BitVec.ofNat 64 b := BitVec.ofInt_natCast 64 _
  have hor : a * 256 ||| b = a * 256 + b := by
    have := Nat.two_pow_add_eq_or_of_lt (i := 8) (b := b) (by omega) a
    have e8 : (2 : Nat) ^ 8 = 256 := by decide
    rw [e8] at this
    rw [Nat.mul_comm a 256, ← this]
  rw [e1, e2, BitVec.toNat_or, BitVec.toNat_ofNat, BitVec.toNat_ofNat, Nat.mod_eq_of_lt (by omega), Nat.mod_eq_of_lt (by omega), hor]
  simp [IntKind.wrap, IntKind.bits, IntKind.signed]
  omega
theorem qv_or {T T' : Nat} {x y : Operand} {i j c r : Int} (hx : ev F x = some (.int .u64 i)) (hy : ev F y = some (.int .u64 c)) (hi : i = j * 256) (h0 : 0 ≤ j) (h1 : j * 256 < 18446744073709551616) (hc : 0 ≤ c ∧ c < 256) (hr : j * 256 + c = r) :
    QV P n F h L ⟨dst, .binOp .or T x y T', ty, pos, af, gd⟩ (.int .u64 r) := by
  subst hr
  subst hi
  have := or_add h0 h1 hc
  refine .mk fun a w f s => ?_
  simp only [execOp, f.ev hx, f.ev hy, Sem.run_bind, run_guard_int, Result.andThen_ok, binOp, Op.intBits]
  simp only [IntKind.bits] at this ⊢
  simp
  exact this
end
end Go.Ck
namespace Go.Proofs.YtkkjppeaaicgaaaGreatDoor
open Go Go.Ck
set_option maxRecDepth 100000
set_option maxHeartbeats 2000000
set_option linter.unusedVariables false
abbrev inR (bi : Nat) (v : Value) (e : Int) : Res := Res.blk bi (.cells #[v, .int .i64 e] 114 (0, 0))
def valB (l : List Int) : Int := l.foldl (fun x c => x * 256 + c) 0
def lookC (l : List Int) (size : Nat) (most : Int) : Int × Int := if l.length < size then (0, 3) else if most < valB (l.take size) then (0, 5) else (valB (l.take size), 0)
def numC (s : List Int × Int) (size : Nat) (most : Int) : Int × (List Int × Int) :=
  if s.2 ≠ 0 then (0, s) else if (lookC s.1 size most).2 = 0 then ((lookC s.1 size most).1, (s.1.drop size, 0)) else (0, (s.1, (lookC s.1 size most).2))
def Bytes (l : List Int) : Prop := ∀ b ∈ l, 0 ≤ b ∧ b < 256
theorem valB_succ {l : List Int} {k : Nat} (hk : k < l.length) : valB (l.take (k + 1)) = valB (l.take k) * 256 + l[k] := by
  unfold valB
  rw [List.take_succ_eq_append_getElem hk, List.foldl_append]
  rfl
theorem valB_bd {l : List Int} (hb : Bytes l) : ∀ k, k ≤ l.length → 0 ≤ valB (l.take k) ∧ valB (l.take k) < 256 ^ k := by
  intro k
  induction k with
  | zero => intro _; simp [valB]
  | succ k ih =>
    intro hk
    obtain ⟨h1, h2⟩ := ih (by omega)
    have h3 := hb l[k] (List.getElem_mem _)
    rw [valB_succ (by omega), Int.pow_succ]
    omega
theorem dead_sp (bi : Nat) (v : Value) (e : Int) (h : View) (w : World) (s : St ⟨w, h, doms [inR bi v e]⟩ h [inR bi v e] w) :
    Calls Tryz.prog 72 [.pointer (some ⟨bi, 0, none⟩)].toArray w fun en w' => ∃ x : Unit, en = .returned (.bool (decide (e ≠ 0))) ∧ St ⟨w, h, doms [inR bi v e]⟩ h [inR bi v e] w' ∧ True := by
  refine calls_enter Tryz.func72 rfl Tryz.ntmps72 rfl s ?_
  repeat' (first|(refine ycf ?_;apply ybk;(·first|(first|(apply qv_eql_pnil<;>rfl)|(apply qv_nilCheck;rfl)));(·rfl);(·rfl))|refine t1_ ?_|(refine ta_ ?_;intro _)|((fail_if_success (refine ybi rfl ?_));refine ybj rfl ?_ ?_<;>(intro ht;rw [ht];first|replace ht := oet_ ht|replace ht := oef_ ht|skip))|(refine ych ?_;first|(refine ybw rfl ?_ ?_<;>intro ht)|(refine ybx rfl ?_ ?_<;>intro ht)))
  exact nx_ret1 rfl (rv_tmp rfl) (fun w' s' => ⟨(), rfl, s', trivial⟩)
theorem p256 {k m : Nat} (h : k ≤ m) : (256 : Int) ^ k ≤ 256 ^ m := by exact_mod_cast Nat.pow_le_pow_right (by decide) h
theorem look_sp (bi : Nat) (v : Value) (l : List Int) (size : Nat) (most : Int) (hb : Bytes l) (h0 : 0 < size) (h8 : size ≤ 8) (hm : 0 ≤ most ∧ most < 9223372036854775808) (hl : l.length ≤ 1000000) (h : View) (hv : Bs8 h v l) (w : World) (s : St ⟨w, h, doms [inR bi v 0]⟩ h [inR bi v 0] w) :
    Calls Tryz.prog 73 [.pointer (some ⟨bi, 0, none⟩), .int .i64 size, .int .i64 most].toArray w fun en w' => ∃ x : Unit, en = .returned (.int .i64 (lookC l size most).1) ∧ St ⟨w, h, doms [inR bi v 0]⟩ h [inR bi v (lookC l size most).2] w' ∧ True := by
  obtain ⟨_, ad, cap, rfl, hcap, _⟩ := id hv
  refine calls_enter Tryz.func73 rfl Tryz.ntmps73 rfl s ?_
  unfold lookC
  by_cases hsz : l.length < size
  · rw [if_pos hsz]
    repeat' (first|(refine ycf ?_;apply ybk;(·first|(first|(apply qv_nilCheck;rfl)|(apply qv_slice_to;(·rfl);(·rfl);(·omega);(·omega))));(·rfl);(·rfl))|refine t1_ ?_|(refine ta_ ?_;intro _)|((fail_if_success (refine ybi rfl ?_));refine ybj rfl ?_ ?_<;>(intro ht;rw [ht];first|replace ht := oet_ ht|replace ht := oef_ ht|skip))|(refine ych ?_;first|(refine ybw rfl ?_ ?_<;>intro ht)|(refine ybx rfl ?_ ?_<;>intro ht)))
    · exact nx_ret1 rfl (rv_tmp rfl) (fun w' s' => ⟨(), rfl, s', trivial⟩)
    · omega
  · rw [if_neg hsz]
    obtain ⟨bs, o, rfl⟩ := hv.ad (by omega) (by omega)
    repeat' (first|(refine ycf ?_;apply ybk;(·first|(first|(apply qv_nilCheck;rfl)|(apply qv_slice_to;(·rfl);(·rfl);(·omega);(·omega))));(·rfl);(·rfl))|refine t1_ ?_|(refine ta_ ?_;intro _)|((fail_if_success (refine ybi rfl ?_));refine ybj rfl ?_ ?_<;>(intro ht;rw [ht];first|replace ht := oet_ ht|replace ht := oef_ ht|skip))|(refine ych ?_;first|(refine ybw rfl ?_ ?_<;>intro ht)|(refine ybx rfl ?_ ?_<;>intro ht)))
    · omega
    refine cx_loop (X := Nat) (fun k => [(0, .pointer (some ⟨bi, 0, none⟩)), (1, .int .i64 size), (2, .int .i64 most), (7, .int .u64 (valB (l.take k))), (27, .slice (some ⟨bs, o, none⟩) size cap), (28, .int .i64 size), (29, .int .i64 k)]) (fun _ => h) (fun _ => _) (fun k => k ≤ size) (fun k => size - k) 0 (Nat.zero_le _) ts_ (fun _ s => s) ?_
    intro k hk
    by_cases hks : k < size
    · have hkl : k < l.length := by omega
      have hbd := valB_bd hb k (by omega)
      have hp : (256 : Int) ^ k ≤ 256 ^ 7 := p256 (by omega)
      have e7 : (256 : Int) ^ 7 = 72057594037927936 := by decide
      rw [e7] at hp
      have hc := hb l[k] (List.getElem_mem _)
      have hel : ∀ L, CellAt h L bs (o + k * 1) (.int .u8 l[k]) := fun L => (hv.cells (L := L)).cell (by simp [bcs, hkl])
      have hsh : IntKind.u64.wrap (valB (l.take k) * 2 ^ 8) = valB (l.take k) * 256 := by
        have e : (2 : Int) ^ 8 = 256 := by decide
        rw [e]
        exact wrap_u64 (by omega) (by omega)
      have hcw : IntKind.u64.wrap l[k] = l[k] := wrap_u64 hc.1 (by omega)
      have hnext := (valB_succ hkl).symm
      repeat' (first|(refine ycf ?_;apply ybk;(·first|(first|(refine qv_shl (j := 8) rfl rfl (by decide) hsh)|(refine qv_convert_int' rfl hcw)|(refine qv_or (j := valB (l.take k)) rfl rfl rfl hbd.1 (by omega) hc hnext))|(apply yae;(·rfl);(·exact hel _)));(·rfl);(·rfl))|refine t1_ ?_|(refine ta_ ?_;intro _)|((fail_if_success (refine ybi rfl ?_));refine ybj rfl ?_ ?_<;>(intro ht;rw [ht];first|replace ht := oet_ ht|replace ht := oef_ ht|skip))|(refine ych ?_;first|(refine ybw rfl ?_ ?_<;>intro ht)|(refine ybx rfl ?_ ?_<;>intro ht)))
      · exact nx_round (k + 1) (by show k + 1 ≤ size; omega) (by show size - (k + 1) < size - k; omega) ts_ (fun _ s => s)
      all_goals omega
    · have ek : k = size := by omega
      subst ek
      have hbd := valB_bd hb k (by omega)
      have hp : (256 : Int) ^ k ≤ 256 ^ 8 := p256 h8
      have e8 : (256 : Int) ^ 8 = 18446744073709551616 := by decide
      rw [e8] at hp
      generalize valB (l.take k) = X at hbd ⊢
      have hI := Int_sp X ⟨hbd.1, by omega⟩ h
      by_cases hX : X < 9223372036854775808
      · rw [decide_eq_true hX, if_pos hX] at hI
        repeat' (first|(refine ycf ?_;apply ybk;(·first|(first|(refine qv_shl (j := 8) rfl rfl (by decide) hsh)|(refine qv_convert_int' rfl hcw)|(refine qv_or (j := valB (l.take k)) rfl rfl rfl hbd.1 (by omega) hc hnext))|(apply yae;(·rfl);(·exact hel _)));(·rfl);(·rfl))|refine t1_ ?_|(refine ta_ ?_;intro _)|((fail_if_success (refine ybi rfl ?_));refine ybj rfl ?_ ?_<;>(intro ht;rw [ht];first|replace ht := oet_ ht|replace ht := oef_ ht|skip))|(refine ych ?_;first|(refine ybw rfl ?_ ?_<;>intro ht)|(refine ybx rfl ?_ ?_<;>intro ht)))
        · omega
        (refine ycn (ycp Tryz.func106 rfl (by kernel_rfl) rfl) (hI) rfl rfl rfl ?_ ?_; (· (exact to_)))
        repeat' (first|(refine ycf ?_;apply ybk;(·first|(first|(apply qv_nilCheck;rfl))|(apply yae;(·rfl);(·exact hel _)));(·rfl);(·rfl))|refine t1_ ?_|(refine ta_ ?_;intro _)|((fail_if_success (refine ybi rfl ?_));refine ybj rfl ?_ ?_<;>(intro ht;rw [ht];first|replace ht := oet_ ht|replace ht := oef_ ht|skip))|(refine ych ?_;first|(refine ybw rfl ?_ ?_<;>intro ht)|(refine ybx rfl ?_ ?_<;>intro ht)))
        · have hq := ht
          refine nx_ret1 rfl (rv_tmp rfl) (fun w' s' => ⟨(), ?_, ?_, trivial⟩)
          · rw [if_pos (by omega)]
          · rw [if_pos (by omega)]; exact s'
        · have hq := ht
          refine nx_ret1 rfl (rv_tmp rfl) (fun w' s' => ⟨(), ?_, ?_, trivial⟩)
          · rw [if_neg (by omega)]; rfl
          · rw [if_neg (by omega)]; exact s'
      · rw [decide_eq_false hX, if_neg hX] at hI
        repeat' (first|(refine ycf ?_;apply ybk;(·first|(first|(apply qv_nilCheck;rfl))|(apply yae;(·rfl);(·exact hel _)));(·rfl);(·rfl))|refine t1_ ?_|(refine ta_ ?_;intro _)|((fail_if_success (refine ybi rfl ?_));refine ybj rfl ?_ ?_<;>(intro ht;rw [ht];first|replace ht := oet_ ht|replace ht := oef_ ht|skip))|(refine ych ?_;first|(refine ybw rfl ?_ ?_<;>intro ht)|(refine ybx rfl ?_ ?_<;>intro ht)))
        · omega
        (refine ycn (ycp Tryz.func106 rfl (by kernel_rfl) rfl) (hI) rfl rfl rfl ?_ ?_; (· (exact to_)))
        repeat' (first|(refine ycf ?_;apply ybk;(·first|(first|(apply qv_nilCheck;rfl))|(apply yae;(·rfl);(·exact hel _)));(·rfl);(·rfl))|refine t1_ ?_|(refine ta_ ?_;intro _)|((fail_if_success (refine ybi rfl ?_));refine ybj rfl ?_ ?_<;>(intro ht;rw [ht];first|replace ht := oet_ ht|replace ht := oef_ ht|skip))|(refine ych ?_;first|(refine ybw rfl ?_ ?_<;>intro ht)|(refine ybx rfl ?_ ?_<;>intro ht)))
        refine nx_ret1 rfl (rv_tmp rfl) (fun w' s' => ⟨(), ?_, ?_, trivial⟩)
        · rw [if_pos (by omega)]
        · rw [if_pos (by omega)]; exact s'
theorem skip_sp (bi : Nat) (v : Value) (l : List Int) (e : Int) (size : Nat) (hsz : size ≤ l.length) (hl : l.length ≤ 1000000) (h : View) (hv : Bs8 h v l) (w : World) (s : St ⟨w, h, doms [inR bi v e]⟩ h [inR bi v e] w) :
    Calls Tryz.prog 74 [.pointer (some ⟨bi, 0, none⟩), .int .i64 size].toArray w fun en w' => ∃ x : Value × Value, en = .returned x.1 ∧ St ⟨w, h, doms [inR bi v e]⟩ h [inR bi x.2 e] w' ∧ Bs8 h x.2 (l.drop size) := by
  obtain ⟨_, ad, cap, rfl, hcap, _⟩ := id hv
  have ht1 : Bs8 h (.slice ad size cap) (l.take size) := by
    have := sc_take hv hsz
    unfold Bs8
    rw [List.length_take, Nat.min_eq_left hsz]
    have e : bcs (l.take size) = (bcs l).take (size * 1) := by simp [bcs]
    rw [e]; exact this
  have hd1 : Bs8 h (.slice (cutF ad cap size 1) (l.length - size) (cap - size)) (l.drop size) := by
    have := sc_drop hv (by decide) hsz
    unfold Bs8
    rw [List.length_drop]
    have e : bcs (l.drop size) = (bcs l).drop (size * 1) := by simp [bcs]
    rw [e]; exact this
  refine calls_enter Tryz.func74 rfl Tryz.ntmps74 rfl s ?_
  repeat' (first|(refine ycf ?_;apply ybk;(·first|(first|(apply qv_nilCheck;rfl)|(apply qv_slice_to;(·rfl);(·rfl);(·omega);(·omega))|(apply qv_slice_from;(·rfl);(·rfl);(·omega)))|(apply yae;(·rfl);(·exact hel _)));(·rfl);(·rfl))|refine t1_ ?_|(refine ta_ ?_;intro _)|((fail_if_success (refine ybi rfl ?_));refine ybj rfl ?_ ?_<;>(intro ht;rw [ht];first|replace ht := oet_ ht|replace ht := oef_ ht|skip))|(refine ych ?_;first|(refine ybw rfl ?_ ?_<;>intro ht)|(refine ybx rfl ?_ ?_<;>intro ht)))
  (refine yco (ycp Tryz.func57 rfl (by kernel_rfl) rfl) (BClone_sp (.slice ad size cap) (l.take size) h ht1 (by simp; omega)) rfl rfl rfl ?_ ?_ ?_; (· (exact to_)); (· intro _ _ hle; (exact to_)); intro x px hle)
  repeat' (first|(refine ycf ?_;apply ybk;(·first|(first|(apply qv_nilCheck;rfl)|(apply qv_slice_to;(·rfl);(·rfl);(·omega);(·omega))|(apply qv_slice_from;(·rfl);(·rfl);(·omega)))|(apply yae;(·rfl);(·exact hel _)));(·rfl);(·rfl))|refine t1_ ?_|(refine ta_ ?_;intro _)|((fail_if_success (refine ybi rfl ?_));refine ybj rfl ?_ ?_<;>(intro ht;rw [ht];first|replace ht := oet_ ht|replace ht := oef_ ht|skip))|(refine ych ?_;first|(refine ybw rfl ?_ ?_<;>intro ht)|(refine ybx rfl ?_ ?_<;>intro ht)))
  exact nx_ret1 rfl (rv_tmp rfl) (fun w' s' => ⟨(x, .slice (cutF ad cap size 1) (l.length - size) (cap - size)), rfl, s'.tl, hd1⟩)
theorem number_sp (bi : Nat) (v : Value) (l : List Int) (e : Int) (size : Nat) (most : Int) (hb : Bytes l) (h0 : 0 < size) (h8 : size ≤ 8) (hm : 0 ≤ most ∧ most < 9223372036854775808) (hl : l.length ≤ 1000000) (h : View) (hv : Bs8 h v l) (w : World) (s : St ⟨w, h, doms [inR bi v e]⟩ h [inR bi v e] w) :
    Calls Tryz.prog 71 [.pointer (some ⟨bi, 0, none⟩), .int .i64 size, .int .i64 most].toArray w fun en w' => ∃ x : Value, en = .returned (.int .i64 (numC (l, e) size most).1) ∧ St ⟨w, h, doms [inR bi v e]⟩ h [inR bi x (numC (l, e) size most).2.2] w' ∧ Bs8 h x (numC (l, e) size most).2.1 := by
  refine calls_enter Tryz.func71 rfl Tryz.ntmps71 rfl s ?_
  unfold numC
  by_cases he : e = 0
  · subst he
    rw [if_neg (by simp)]
    have hdead := dead_sp bi v 0 h
    rw [show decide ((0 : Int) ≠ 0) = false by decide] at hdead
    repeat' (first|(refine ycf ?_;apply ybk;(·first|(first|(apply qv_nilCheck;rfl)|(apply qv_slice_to;(·rfl);(·rfl);(·omega);(·omega))|(apply qv_slice_from;(·rfl);(·rfl);(·omega)))|(apply yae;(·rfl);(·exact hel _)));(·rfl);(·rfl))|refine t1_ ?_|(refine ta_ ?_;intro _)|((fail_if_success (refine ybi rfl ?_));refine ybj rfl ?_ ?_<;>(intro ht;rw [ht];first|replace ht := oet_ ht|replace ht := oef_ ht|skip))|(refine ych ?_;first|(refine ybw rfl ?_ ?_<;>intro ht)|(refine ybx rfl ?_ ?_<;>intro ht)))
    (refine rx_call_m (ycp Tryz.func72 rfl (by kernel_rfl) rfl) (perm_at (k := 0) rfl) (hdead) rfl rfl rfl ?_ ?_ ?_; (· (exact to_)); (· intro _ _ hle; (exact to_)); intro x px hle)
    repeat' (first|(refine ycf ?_;apply ybk;(·first|(first|(apply qv_nilCheck;rfl)|(apply qv_slice_to;(·rfl);(·rfl);(·omega);(·omega))|(apply qv_slice_from;(·rfl);(·rfl);(·omega)))|(apply yae;(·rfl);(·exact hel _)));(·rfl);(·rfl))|refine t1_ ?_|(refine ta_ ?_;intro _)|((fail_if_success (refine ybi rfl ?_));refine ybj rfl ?_ ?_<;>(intro ht;rw [ht];first|replace ht := oet_ ht|replace ht := oef_ ht|skip))|(refine ych ?_;first|(refine ybw rfl ?_ ?_<;>intro ht)|(refine ybx rfl ?_ ?_<;>intro ht)))
    (refine rx_call_m (ycp Tryz.func73 rfl (by kernel_rfl) rfl) (perm_at (k := 0) rfl) (look_sp bi v l size most hb h0 h8 hm hl h hv) rfl rfl rfl ?_ ?_ ?_; (· (exact to_)); (· intro _ _ hle; (exact to_)); intro x px hle)
    by_cases hz : (lookC l size most).2 = 0
    · have hsl : size ≤ l.length := by
        unfold lookC at hz
        split at hz
        · cases hz
        · omega
      rw [if_pos hz, hz]
      repeat' (first|(refine ycf ?_;apply ybk;(·first|(first|(apply qv_nilCheck;rfl)|(apply qv_slice_to;(·rfl);(·rfl);(·omega);(·omega))|(apply qv_slice_from;(·rfl);(·rfl);(·omega)))|(apply yae;(·rfl);(·exact hel _)));(·rfl);(·rfl))|refine t1_ ?_|(refine ta_ ?_;intro _)|((fail_if_success (refine ybi rfl ?_));refine ybj rfl ?_ ?_<;>(intro ht;rw [ht];first|replace ht := oet_ ht|replace ht := oef_ ht|skip))|(refine ych ?_;first|(refine ybw rfl ?_ ?_<;>intro ht)|(refine ybx rfl ?_ ?_<;>intro ht)))
      (refine rx_call_m (ycp Tryz.func74 rfl (by kernel_rfl) rfl) (perm_at (k := 0) rfl) (skip_sp bi v l 0 size hsl hl h hv) rfl rfl rfl ?_ ?_ ?_; (· (exact to_)); (· intro _ _ hle; (exact to_)); intro x px hle)
      repeat' (first|(refine ycf ?_;apply ybk;(·first|(first|(apply qv_nilCheck;rfl)|(apply qv_slice_to;(·rfl);(·rfl);(·omega);(·omega))|(apply qv_slice_from;(·rfl);(·rfl);(·omega)))|(apply yae;(·rfl);(·exact hel _)));(·rfl);(·rfl))|refine t1_ ?_|(refine ta_ ?_;intro _)|((fail_if_success (refine ybi rfl ?_));refine ybj rfl ?_ ?_<;>(intro ht;rw [ht];first|replace ht := oet_ ht|replace ht := oef_ ht|skip))|(refine ych ?_;first|(refine ybw rfl ?_ ?_<;>intro ht)|(refine ybx rfl ?_ ?_<;>intro ht)))
      exact nx_ret1 rfl (rv_tmp rfl) (fun w' s' => ⟨x.2, rfl, s', px⟩)
    · have hf : (lookC l size most).1 = 0 := by
        unfold lookC at hz ⊢
        split
        · rfl
        · rename_i h1
          rw [if_neg h1] at hz
          split
          · rfl
          · rename_i h2
            rw [if_neg h2] at hz
            exact absurd rfl hz
      rw [if_neg hz, hf]
      generalize (lookC l size most).2 = E at hz ⊢
      repeat' (first|(refine ycf ?_;apply ybk;(·first|(first|(apply qv_nilCheck;rfl)|(apply qv_slice_to;(·rfl);(·rfl);(·omega);(·omega))|(apply qv_slice_from;(·rfl);(·rfl);(·omega)))|(apply yae;(·rfl);(·exact hel _)));(·rfl);(·rfl))|refine t1_ ?_|(refine ta_ ?_;intro _)|((fail_if_success (refine ybi rfl ?_));refine ybj rfl ?_ ?_<;>(intro ht;rw [ht];first|replace ht := oet_ ht|replace ht := oef_ ht|skip))|(refine ych ?_;first|(refine ybw rfl ?_ ?_<;>intro ht)|(refine ybx rfl ?_ ?_<;>intro ht)))
      · omega
      exact nx_ret1 rfl (rv_tmp rfl) (fun w' s' => ⟨v, rfl, s', hv⟩)
  · rw [if_pos he]
    have hdead := dead_sp bi v e h
    rw [decide_eq_true he] at hdead
    repeat' (first|(refine ycf ?_;apply ybk;(·first|(first|(apply qv_nilCheck;rfl)|(apply qv_slice_to;(·rfl);(·rfl);(·omega);(·omega))|(apply qv_slice_from;(·rfl);(·rfl);(·omega)))|(apply yae;(·rfl);(·exact hel _)));(·rfl);(·rfl))|refine t1_ ?_|(refine ta_ ?_;intro _)|((fail_if_success (refine ybi rfl ?_));refine ybj rfl ?_ ?_<;>(intro ht;rw [ht];first|replace ht := oet_ ht|replace ht := oef_ ht|skip))|(refine ych ?_;first|(refine ybw rfl ?_ ?_<;>intro ht)|(refine ybx rfl ?_ ?_<;>intro ht)))
    (refine rx_call_m (ycp Tryz.func72 rfl (by kernel_rfl) rfl) (perm_at (k := 0) rfl) (hdead) rfl rfl rfl ?_ ?_ ?_; (· (exact to_)); (· intro _ _ hle; (exact to_)); intro x px hle)
    repeat' (first|(refine ycf ?_;apply ybk;(·first|(first|(apply qv_nilCheck;rfl)|(apply qv_slice_to;(·rfl);(·rfl);(·omega);(·omega))|(apply qv_slice_from;(·rfl);(·rfl);(·omega)))|(apply yae;(·rfl);(·exact hel _)));(·rfl);(·rfl))|refine t1_ ?_|(refine ta_ ?_;intro _)|((fail_if_success (refine ybi rfl ?_));refine ybj rfl ?_ ?_<;>(intro ht;rw [ht];first|replace ht := oet_ ht|replace ht := oef_ ht|skip))|(refine ych ?_;first|(refine ybw rfl ?_ ?_<;>intro ht)|(refine ybx rfl ?_ ?_<;>intro ht)))
    exact nx_ret1 rfl (rv_tmp rfl) (fun w' s' => ⟨v, rfl, s', hv⟩)
theorem InNum_sp (bi : Nat) (v : Value) (l : List Int) (e : Int) (most : Int) (hb : Bytes l) (hm : 0 ≤ most ∧ most < 9223372036854775808) (hl : l.length ≤ 1000000) (h : View) (hv : Bs8 h v l) (w : World) (s : St ⟨w, h, doms [inR bi v e]⟩ h [inR bi v e] w) :
    Calls Tryz.prog 42 [.pointer (some ⟨bi, 0, none⟩), .int .i64 most].toArray w fun en w' => ∃ x : Value, en = .returned (.int .i64 (numC (l, e) 8 most).1) ∧ St ⟨w, h, doms [inR bi v e]⟩ h [inR bi x (numC (l, e) 8 most).2.2] w' ∧ Bs8 h x (numC (l, e) 8 most).2.1 := by
  refine calls_enter Tryz.func42 rfl Tryz.ntmps42 rfl s ?_
  repeat' (first|(refine ycf ?_;apply ybk;(·first|(first|(apply qv_nilCheck;rfl)|(apply qv_slice_to;(·rfl);(·rfl);(·omega);(·omega))|(apply qv_slice_from;(·rfl);(·rfl);(·omega)))|(apply yae;(·rfl);(·exact hel _)));(·rfl);(·rfl))|refine t1_ ?_|(refine ta_ ?_;intro _)|((fail_if_success (refine ybi rfl ?_));refine ybj rfl ?_ ?_<;>(intro ht;rw [ht];first|replace ht := oet_ ht|replace ht := oef_ ht|skip))|(refine ych ?_;first|(refine ybw rfl ?_ ?_<;>intro ht)|(refine ybx rfl ?_ ?_<;>intro ht)))
  (refine rx_call_m (ycp Tryz.func71 rfl (by kernel_rfl) rfl) (perm_at (k := 0) rfl) (number_sp bi v l e 8 most hb (by omega) (by omega) hm hl h hv) rfl rfl rfl ?_ ?_ ?_; (· (exact to_)); (· intro _ _ hle; (exact to_)); intro x px hle)
  repeat' (first|(refine ycf ?_;apply ybk;(·first|(first|(apply qv_nilCheck;rfl)|(apply qv_slice_to;(·rfl);(·rfl);(·omega);(·omega))|(apply qv_slice_from;(·rfl);(·rfl);(·omega)))|(apply yae;(·rfl);(·exact hel _)));(·rfl);(·rfl))|refine t1_ ?_|(refine ta_ ?_;intro _)|((fail_if_success (refine ybi rfl ?_));refine ybj rfl ?_ ?_<;>(intro ht;rw [ht];first|replace ht := oet_ ht|replace ht := oef_ ht|skip))|(refine ych ?_;first|(refine ybw rfl ?_ ?_<;>intro ht)|(refine ybx rfl ?_ ?_<;>intro ht)))
  exact nx_ret1 rfl (rv_tmp rfl) (fun w' s' => ⟨x, rfl, s', px⟩)
theorem InSmall_sp (bi : Nat) (v : Value) (l : List Int) (e : Int) (most : Int) (hb : Bytes l) (hm : 0 ≤ most ∧ most < 9223372036854775808) (hl : l.length ≤ 1000000) (h : View) (hv : Bs8 h v l) (w : World) (s : St ⟨w, h, doms [inR bi v e]⟩ h [inR bi v e] w) :
    Calls Tryz.prog 41 [.pointer (some ⟨bi, 0, none⟩), .int .i64 most].toArray w fun en w' => ∃ x : Value, en = .returned (.int .i64 (numC (l, e) 1 most).1) ∧ St ⟨w, h, doms [inR bi v e]⟩ h [inR bi x (numC (l, e) 1 most).2.2] w' ∧ Bs8 h x (numC (l, e) 1 most).2.1 := by
  refine calls_enter Tryz.func41 rfl Tryz.ntmps41 rfl s ?_
  repeat' (first|(refine ycf ?_;apply ybk;(·first|(first|(apply qv_nilCheck;rfl)|(apply qv_slice_to;(·rfl);(·rfl);(·omega);(·omega))|(apply qv_slice_from;(·rfl);(·rfl);(·omega)))|(apply yae;(·rfl);(·exact hel _)));(·rfl);(·rfl))|refine t1_ ?_|(refine ta_ ?_;intro _)|((fail_if_success (refine ybi rfl ?_));refine ybj rfl ?_ ?_<;>(intro ht;rw [ht];first|replace ht := oet_ ht|replace ht := oef_ ht|skip))|(refine ych ?_;first|(refine ybw rfl ?_ ?_<;>intro ht)|(refine ybx rfl ?_ ?_<;>intro ht)))
  (refine rx_call_m (ycp Tryz.func71 rfl (by kernel_rfl) rfl) (perm_at (k := 0) rfl) (number_sp bi v l e 1 most hb (by omega) (by omega) hm hl h hv) rfl rfl rfl ?_ ?_ ?_; (· (exact to_)); (· intro _ _ hle; (exact to_)); intro x px hle)
  repeat' (first|(refine ycf ?_;apply ybk;(·first|(first|(apply qv_nilCheck;rfl)|(apply qv_slice_to;(·rfl);(·rfl);(·omega);(·omega))|(apply qv_slice_from;(·rfl);(·rfl);(·omega)))|(apply yae;(·rfl);(·exact hel _)));(·rfl);(·rfl))|refine t1_ ?_|(refine ta_ ?_;intro _)|((fail_if_success (refine ybi rfl ?_));refine ybj rfl ?_ ?_<;>(intro ht;rw [ht];first|replace ht := oet_ ht|replace ht := oef_ ht|skip))|(refine ych ?_;first|(refine ybw rfl ?_ ?_<;>intro ht)|(refine ybx rfl ?_ ?_<;>intro ht)))
  exact nx_ret1 rfl (rv_tmp rfl) (fun w' s' => ⟨x, rfl, s', px⟩)
def endC (s : List Int × Int) : Int := if s.2 = 0 ∧ 0 < s.1.length then 4 else s.2
theorem End_sp (bi : Nat) (v : Value) (l : List Int) (e : Int) (h : View) (hv : Bs8 h v l) (w : World) (s : St ⟨w, h, doms [inR bi v e]⟩ h [inR bi v e] w) :
    Calls Tryz.prog 45 [.pointer (some ⟨bi, 0, none⟩)].toArray w fun en w' => ∃ x : Unit, en = .returned (.int .i64 (endC (l, e))) ∧ St ⟨w, h, doms [inR bi v e]⟩ h [inR bi v e] w' ∧ True := by
  obtain ⟨_, ad, cap, rfl, hcap, _⟩ := id hv
  refine calls_enter Tryz.func45 rfl Tryz.ntmps45 rfl s ?_
  repeat' (first|(refine ycf ?_;apply ybk;(·first|(first|(apply qv_eql_pnil<;>rfl)|(apply qv_nilCheck;rfl))|(apply yae;(·rfl);(·exact hel _)));(·rfl);(·rfl))|refine t1_ ?_|(refine ta_ ?_;intro _)|((fail_if_success (refine ybi rfl ?_));refine ybj rfl ?_ ?_<;>(intro ht;rw [ht];first|replace ht := oet_ ht|replace ht := oef_ ht|skip))|(refine ych ?_;first|(refine ybw rfl ?_ ?_<;>intro ht)|(refine ybx rfl ?_ ?_<;>intro ht)))
  · refine nx_ret1 rfl (rv_tmp rfl) (fun w' s' => ⟨(), ?_, s', trivial⟩)
    unfold endC
    rw [if_pos (by dsimp only; omega)]
  · refine nx_ret1 rfl (rv_tmp rfl) (fun w' s' => ⟨(), ?_, s', trivial⟩)
    unfold endC
    rw [if_neg (by dsimp only; omega)]
  · refine nx_ret1 rfl (rv_tmp rfl) (fun w' s' => ⟨(), ?_, s', trivial⟩)
    unfold endC
    rw [if_neg (by dsimp only; omega)]
theorem Of_sp (sv : Value) (l : List Int) (hl : l.length ≤ 1000000) (h : View) (hs : Bs8 h sv l) (w : World) (s : St ⟨w, h, []⟩ h [] w) :
    Calls Tryz.prog 40 [sv].toArray w fun en w' => ∃ x : View × Nat × Value, en = .returned (.pointer (some ⟨x.2.1, 0, none⟩)) ∧ St ⟨w, h, []⟩ x.1 [inR x.2.1 x.2.2 0] w' ∧ Bs8 x.1 x.2.2 l := by
  refine calls_enter Tryz.func40 rfl Tryz.ntmps40 rfl s ?_
  repeat' (first|(refine ycf ?_;apply ybk;(·first|(first|(apply qv_eql_pnil<;>rfl)|(apply qv_nilCheck;rfl))|(apply yae;(·rfl);(·exact hel _)));(·rfl);(·rfl))|refine t1_ ?_|(refine ta_ ?_;intro _)|((fail_if_success (refine ybi rfl ?_));refine ybj rfl ?_ ?_<;>(intro ht;rw [ht];first|replace ht := oet_ ht|replace ht := oef_ ht|skip))|(refine ych ?_;first|(refine ybw rfl ?_ ?_<;>intro ht)|(refine ybx rfl ?_ ?_<;>intro ht)))
  (refine yco (ycp Tryz.func57 rfl (by kernel_rfl) rfl) (BClone_sp sv l h hs hl) rfl rfl rfl ?_ ?_ ?_; (· (exact to_)); (· intro _ _ hle; (exact to_)); intro x px hle)
  refine rx_persist rfl fun h1 hle1 hv => ?_
  obtain ⟨_, ad, cap, hx, _, _⟩ := id hv
  subst hx
  repeat' (first|(refine ycf ?_;apply ybk;(·first|(first|(apply qv_eql_pnil<;>rfl)|(apply qv_nilCheck;rfl))|(apply yae;(·rfl);(·exact hel _)));(·rfl);(·rfl))|refine t1_ ?_|(refine ta_ ?_;intro _)|((fail_if_success (refine ybi rfl ?_));refine ybj rfl ?_ ?_<;>(intro ht;rw [ht];first|replace ht := oet_ ht|replace ht := oef_ ht|skip))|(refine ych ?_;first|(refine ybw rfl ?_ ?_<;>intro ht)|(refine ybx rfl ?_ ?_<;>intro ht)))
  rename_i b
  exact nx_ret1 rfl (rv_tmp rfl) (fun w' s' => ⟨(h1, b, .slice ad l.length cap), rfl, s', hv⟩)
end Go.Proofs.YtkkjppeaaicgaaaGreatDoor
end

section
namespace Go.Proofs.YtkkjppeaaicgaaaGreatDoor
open Go Go.Ck
set_option maxRecDepth 100000
set_option maxHeartbeats 2000000
set_option linter.unusedVariables false
abbrev RS : Type := List Int × Int
def upsC : Nat → RS → List Int × RS
  | 0, s => ([], s)
  | k + 1, s => ((upsC k s).1 ++ [(numC (upsC k s).2 8 1099511627776).1], (numC (upsC k s).2 8 1099511627776).2)
def dsC : Nat → RS → List Dt × RS
  | 0, s => ([], s)
  | k + 1, s => ((dsC k s).1 ++ [((numC (dsC k s).2 8 1099511627776).1, (numC (numC (dsC k s).2 8 1099511627776).2 8 1099511627776).1)], (numC (numC (dsC k s).2 8 1099511627776).2 8 1099511627776).2)
def smC (l : List Int) : Int × RS := numC (upsC 16 (l, 0)).2 1 32
def rdC (l : List Int) : List Int × List Dt × RS := ((upsC 16 (l, 0)).1, (dsC (smC l).1.toNat (smC l).2).1, (dsC (smC l).1.toNat (smC l).2).2)
structure RsOk (s : RS) : Prop where
  b : Bytes s.1
  l : s.1.length ≤ 1000000
theorem RsOk.num {s : RS} (h : RsOk s) (size : Nat) (most : Int) : RsOk (numC s size most).2 := by
  unfold numC
  split
  · exact h
  · split
    · exact ⟨fun x hx => h.b x (List.mem_of_mem_drop hx), by have := h.l; simp only [List.length_drop]; omega⟩
    · exact ⟨h.b, h.l⟩
theorem numC_bd {s : RS} (h : RsOk s) {size : Nat} {most : Int} (hm : 0 ≤ most) : 0 ≤ (numC s size most).1 ∧ (numC s size most).1 ≤ most := by
  unfold numC
  split
  · exact ⟨Int.le_refl _, hm⟩
  · split
    · unfold lookC
      split
      · exact ⟨Int.le_refl _, hm⟩
      · rename_i _ _ hs
        split
        · exact ⟨Int.le_refl _, hm⟩
        · have := valB_bd h.b size (by omega)
          exact ⟨this.1, by dsimp only; omega⟩
    · exact ⟨Int.le_refl _, hm⟩
theorem upsC_ok {s : RS} (h : RsOk s) : ∀ k, RsOk (upsC k s).2 ∧ (upsC k s).1.length = k
  | 0 => ⟨h, rfl⟩
  | k + 1 => ⟨(upsC_ok h k).1.num _ _, by simp [upsC, (upsC_ok h k).2]⟩
theorem dsC_ok {s : RS} (h : RsOk s) : ∀ k, RsOk (dsC k s).2 ∧ (dsC k s).1.length = k
  | 0 => ⟨h, rfl⟩
  | k + 1 => ⟨((dsC_ok h k).1.num _ _).num _ _, by simp [dsC, (dsC_ok h k).2]⟩
def padU (us : List Int) : List Int := us ++ List.replicate (16 - us.length) 0
theorem padU_len {us : List Int} (h : us.length ≤ 16) : (padU us).length = 16 := by simp [padU]; omega
theorem padU_set {us : List Int} {x : Int} {k : Nat} (hk : us.length = k) (h : k < 16) : (padU us).set k x = padU (us ++ [x]) := by
  subst hk
  unfold padU
  rw [List.set_append_right _ _ (Nat.le_refl _), Nat.sub_self, show 16 - us.length = (16 - (us ++ [x]).length) + 1 by simp; omega, List.replicate_succ, List.set_cons_zero]
  simp
theorem padU_full {us : List Int} (h : us.length = 16) : padU us = us := by simp [padU, h]
theorem Read_sp (sv : Value) (l : List Int) (hb : Bytes l) (hl : l.length ≤ 1000000) (h : View) (hs : Bs8 h sv l) (w : World) (s : St ⟨w, h, []⟩ h [] w) :
    Calls Tryz.prog 43 [sv].toArray w fun en w' => ∃ x : View × Value × Int, en = .returned (.tuple #[x.2.1, .int .i64 x.2.2]) ∧ St ⟨w, h, []⟩ x.1 [] w' ∧
      (if endC (rdC l).2.2 = 0 ∧ checkC (rdC l).1 (rdC l).2.1 = 0 then x.2.2 = 0 ∧ Cx x.1 x.2.1 (rdC l).1 (rdC l).2.1 else x.2.2 = 2 ∧ Cx x.1 x.2.1 zeroU []) := by
  have hok0 : RsOk (l, 0) := ⟨hb, hl⟩
  refine calls_enter Tryz.func43 rfl Tryz.ntmps43 rfl s ?_
  repeat' (first|refine tw_ ?_|(refine ta_ ?_;intro _)|((fail_if_success (refine ybi rfl ?_));refine ybj rfl ?_ ?_<;>(intro ht;rw [ht];first|replace ht := oet_ ht|replace ht := oef_ ht|skip))|(refine ych ?_;first|(refine ybw rfl ?_ ?_<;>intro ht)|(refine ybx rfl ?_ ?_<;>intro ht)))
  (refine yco (ycp Tryz.func40 rfl (by kernel_rfl) rfl) (Of_sp sv l hl h hs) rfl rfl rfl ?_ ?_ ?_; (· (exact to_)); (· intro _ _ hle; (exact to_)); intro x px hle)
  obtain ⟨h1, bi, v⟩ := x
  replace hle : Le h h1 := hle
  have hv1 : Bs8 h1 v l := px
  clear px
  repeat' (first|refine tw_ ?_|(refine ta_ ?_;intro _)|((fail_if_success (refine ybi rfl ?_));refine ybj rfl ?_ ?_<;>(intro ht;rw [ht];first|replace ht := oet_ ht|replace ht := oef_ ht|skip))|(refine ych ?_;first|(refine ybw rfl ?_ ?_<;>intro ht)|(refine ybx rfl ?_ ?_<;>intro ht)))
  rename_i b2 b5
  refine cx_loop (X := Nat × Value) (fun y => [(2, .pointer (some ⟨b2, 0, none⟩)), (3, .int .i64 0), (4, .pointer (some ⟨bi, 0, none⟩)), (5, .pointer (some ⟨b5, 0, none⟩)), (10, .int .i64 y.1)]) (fun _ => h1)
    (fun y => [inR bi y.2 (upsC y.1 (l, 0)).2.2, Res.blk b5 (.cells (cxc (padU (upsC y.1 (l, 0)).1) (.slice none 0 0)).toArray 37 (0, 0)), Res.blk b2 (.cells (cxc zeroU (.slice none 0 0)).toArray 37 (0, 0))])
    (fun y => y.1 ≤ 16 ∧ Bs8 h1 y.2 (upsC y.1 (l, 0)).2.1) (fun y => 16 - y.1) (0, v) ⟨Nat.zero_le _, hv1⟩ ts_ (fun _ s => s.perm (List.Perm.swap _ _ _)) ?_
  rintro ⟨k, v⟩ ⟨hk, hv⟩
  dsimp only at hk hv ⊢
  obtain ⟨hok, hul⟩ := upsC_ok hok0 k
  by_cases hk16 : k < 16
  · have hset : ∀ x : Int, (padU (upsC k (l, 0)).1).set k x = padU ((upsC k (l, 0)).1 ++ [x]) := fun x => padU_set hul hk16
    have hpl : (padU (upsC k (l, 0)).1).length = 16 := padU_len (by omega)
    have eS : upsC (k + 1) (l, 0) = ((upsC k (l, 0)).1 ++ [(numC (upsC k (l, 0)).2 8 1099511627776).1], (numC (upsC k (l, 0)).2 8 1099511627776).2) := rfl
    generalize upsC k (l, 0) = U at hok hul hv hset hpl eS ⊢
    obtain ⟨us, ls, e⟩ := U
    dsimp only at hok hul hv hset hpl eS ⊢
    repeat' (first|refine tw_ ?_|(refine ta_ ?_;intro _)|((fail_if_success (refine ybi rfl ?_));refine ybj rfl ?_ ?_<;>(intro ht;rw [ht];first|replace ht := oet_ ht|replace ht := oef_ ht|skip))|(refine ych ?_;first|(refine ybw rfl ?_ ?_<;>intro ht)|(refine ybx rfl ?_ ?_<;>intro ht)))
    (refine rx_call_m (ycp Tryz.func42 rfl (by kernel_rfl) rfl) (perm_at (k := 0) rfl) (InNum_sp bi v ls e 1099511627776 hok.b (by omega) hok.l h1 hv) rfl rfl rfl ?_ ?_ ?_; (· (exact to_)); (· intro _ _ hle; (exact to_)); intro x px hle)
    generalize numC (ls, e) 8 1099511627776 = N at px eS ⊢
    obtain ⟨nv, ns⟩ := N
    dsimp only at px eS ⊢
    repeat' (first|(refine ybg 1 rfl rfl rfl rfl (fit_cxc (i := k) hpl (by omega) (by omega)) rfl (spl_cxc (i := k) (by omega) (by omega)) rfl rfl ?_ ?_ ?_;(·(exact to_));(·(exact to_)))|refine t1_ ?_|(refine ta_ ?_;intro _)|((fail_if_success (refine ybi rfl ?_));refine ybj rfl ?_ ?_<;>(intro ht;rw [ht];first|replace ht := oet_ ht|replace ht := oef_ ht|skip))|(refine ych ?_;first|(refine ybw rfl ?_ ?_<;>intro ht)|(refine ybx rfl ?_ ?_<;>intro ht)))
    · refine nx_round (k + 1, x) ⟨by show k + 1 ≤ 16; omega, by dsimp only; rw [eS]; exact px⟩ (by show 16 - (k+1) < 16 - k; omega) ts_ (fun _ s => ?_)
      dsimp only
      rw [eS]
      rw [hset] at s
      exact s
    · omega
  · have ek : k = 16 := by omega
    subst ek
    have hp : padU (upsC 16 (l, 0)).1 = (upsC 16 (l, 0)).1 := padU_full hul
    have eR : rdC l = ((upsC 16 (l, 0)).1, (dsC (smC l).1.toNat (smC l).2).1, (dsC (smC l).1.toNat (smC l).2).2) := rfl
    have eM : smC l = numC (upsC 16 (l, 0)).2 1 32 := rfl
    rw [hp]
    generalize upsC 16 (l, 0) = U at hok hul hv eR eM ⊢
    obtain ⟨us, ls, e⟩ := U
    dsimp only at hok hul hv eR eM ⊢
    repeat' (first|(refine ybg 1 rfl rfl rfl rfl (fit_cxc (i := k) hpl (by omega) (by omega)) rfl (spl_cxc (i := k) (by omega) (by omega)) rfl rfl ?_ ?_ ?_;(·(exact to_));(·(exact to_)))|refine t1_ ?_|(refine ta_ ?_;intro _)|((fail_if_success (refine ybi rfl ?_));refine ybj rfl ?_ ?_<;>(intro ht;rw [ht];first|replace ht := oet_ ht|replace ht := oef_ ht|skip))|(refine ych ?_;first|(refine ybw rfl ?_ ?_<;>intro ht)|(refine ybx rfl ?_ ?_<;>intro ht)))
    (refine rx_call_m (ycp Tryz.func41 rfl (by kernel_rfl) rfl) (perm_at (k := 0) rfl) (InSmall_sp bi v ls e 32 hok.b (by omega) hok.l h1 hv) rfl rfl rfl ?_ ?_ ?_; (· (exact to_)); (· intro _ _ hle; (exact to_)); intro x px hle)
    have hok2 : RsOk (smC l).2 := by rw [eM]; exact hok.num _ _
    have hbd : 0 ≤ (smC l).1 ∧ (smC l).1 ≤ 32 := by rw [eM]; exact numC_bd hok (by omega)
    rw [← eM] at px ⊢
    generalize smC l = M at px eR hok2 hbd ⊢
    obtain ⟨nv, ls2, e2⟩ := M
    dsimp only at px eR hok2 hbd ⊢
    repeat' (first|(refine ybg 1 rfl rfl rfl rfl (fit_cxc (i := k) hpl (by omega) (by omega)) rfl (spl_cxc (i := k) (by omega) (by omega)) rfl rfl ?_ ?_ ?_;(·(exact to_));(·(exact to_)))|refine t1_ ?_|(refine ta_ ?_;intro _)|((fail_if_success (refine ybi rfl ?_));refine ybj rfl ?_ ?_<;>(intro ht;rw [ht];first|replace ht := oet_ ht|replace ht := oef_ ht|skip))|(refine ych ?_;first|(refine ybw rfl ?_ ?_<;>intro ht)|(refine ybx rfl ?_ ?_<;>intro ht)))
    refine cx_row 53 2 ?_
    refine cx_loop (X := Nat × Value × Value) (fun y => [(2, .pointer (some ⟨b2, 0, none⟩)), (3, .int .i64 0), (4, .pointer (some ⟨bi, 0, none⟩)), (5, .pointer (some ⟨b5, 0, none⟩)), (20, .int .i64 nv), (21, .int .i64 y.1)]) (fun _ => h1)
      (fun y => [inR bi y.2.1 (dsC y.1 (ls2, e2)).2.2, Res.row 53 2 y.2.2 y.1 ((dsC y.1 (ls2, e2)).1.flatMap dcs), Res.blk b5 (.cells (cxc us y.2.2).toArray 37 (0, 0)), Res.blk b2 (.cells (cxc zeroU (.slice none 0 0)).toArray 37 (0, 0))])
      (fun y => y.1 ≤ nv.toNat ∧ Bs8 h1 y.2.1 (dsC y.1 (ls2, e2)).2.1) (fun y => nv.toNat - y.1) (0, x, .slice none 0 0) ⟨Nat.zero_le _, px⟩ ts_ (fun _ s => s.perm (List.Perm.swap _ _ _)) ?_
    rintro ⟨k, v1, mv⟩ ⟨hk1, hv2⟩
    dsimp only at hk1 hv2 ⊢
    obtain ⟨hok3, hdl⟩ := dsC_ok hok2 k
    by_cases hkn : k < nv.toNat
    · have eD : dsC (k + 1) (ls2, e2) = ((dsC k (ls2, e2)).1 ++ [((numC (dsC k (ls2, e2)).2 8 1099511627776).1, (numC (numC (dsC k (ls2, e2)).2 8 1099511627776).2 8 1099511627776).1)], (numC (numC (dsC k (ls2, e2)).2 8 1099511627776).2 8 1099511627776).2) := rfl
      generalize dsC k (ls2, e2) = D at hok3 hdl hv2 eD ⊢
      obtain ⟨ds, ls3, e3⟩ := D
      dsimp only at hok3 hdl hv2 eD ⊢
      subst hdl
      repeat' (first|(refine ybg 1 rfl rfl rfl rfl (fit_cxc (i := k) hpl (by omega) (by omega)) rfl (spl_cxc (i := k) (by omega) (by omega)) rfl rfl ?_ ?_ ?_;(·(exact to_));(·(exact to_)))|refine t1_ ?_|(refine ta_ ?_;intro _)|((fail_if_success (refine ybi rfl ?_));refine ybj rfl ?_ ?_<;>(intro ht;rw [ht];first|replace ht := oet_ ht|replace ht := oef_ ht|skip))|(refine ych ?_;first|(refine ybw rfl ?_ ?_<;>intro ht)|(refine ybx rfl ?_ ?_<;>intro ht)))
      (refine rx_call_m (ycp Tryz.func42 rfl (by kernel_rfl) rfl) (perm_at (k := 0) rfl) (InNum_sp bi v1 ls3 e3 1099511627776 hok3.b (by omega) hok3.l h1 hv2) rfl rfl rfl ?_ ?_ ?_; (· (exact to_)); (· intro _ _ hle; (exact to_)); intro x px hle)
      have hok4 := hok3.num 8 1099511627776
      generalize numC (ls3, e3) 8 1099511627776 = N1 at px eD hok4 ⊢
      obtain ⟨n1, ls4, e4⟩ := N1
      dsimp only at px eD hok4 ⊢
      have hv4 := px
      repeat' (first|(refine ybg 1 rfl rfl rfl rfl (fit_cxc (i := k) hpl (by omega) (by omega)) rfl (spl_cxc (i := k) (by omega) (by omega)) rfl rfl ?_ ?_ ?_;(·(exact to_));(·(exact to_)))|refine t1_ ?_|(refine ta_ ?_;intro _)|((fail_if_success (refine ybi rfl ?_));refine ybj rfl ?_ ?_<;>(intro ht;rw [ht];first|replace ht := oet_ ht|replace ht := oef_ ht|skip))|(refine ych ?_;first|(refine ybw rfl ?_ ?_<;>intro ht)|(refine ybx rfl ?_ ?_<;>intro ht)))
      rename_i b7
      (refine rx_call_m (ycp Tryz.func42 rfl (by kernel_rfl) rfl) (perm_at (k := 1) rfl) (InNum_sp bi _ ls4 e4 1099511627776 hok4.b (by omega) hok4.l h1 hv4) rfl rfl rfl ?_ ?_ ?_; (· (exact to_)); (· intro _ _ hle; (exact to_)); intro x px hle)
      generalize numC (ls4, e4) 8 1099511627776 = N2 at px eD ⊢
      obtain ⟨n2, ls5, e5⟩ := N2
      dsimp only at px eD ⊢
      repeat' (first|(refine ycf ?_;apply ybk;(·first|(apply yae;(·rfl);(·(first|exact yck (yaz 3 rfl) hul rfl|exact yck (yaz 4 rfl) hul rfl))));(·rfl);(·rfl))|(refine ybg 1 rfl rfl rfl rfl (fit_cxc (i := k) hpl (by omega) (by omega)) rfl (spl_cxc (i := k) (by omega) (by omega)) rfl rfl ?_ ?_ ?_;(·(exact to_));(·(exact to_)))|refine t1_ ?_|(refine ta_ ?_;intro _)|((fail_if_success (refine ybi rfl ?_));refine ybj rfl ?_ ?_<;>(intro ht;rw [ht];first|replace ht := oet_ ht|replace ht := oef_ ht|skip))|(refine ych ?_;first|(refine ybw rfl ?_ ?_<;>intro ht)|(refine ybx rfl ?_ ?_<;>intro ht)))
      refine rx_append (sz := 2) 3 rfl rfl rfl (yaz 0 rfl) rfl (one_dcs [(n1, n2)]) rfl (by omega) (by unfold maxLen; omega) (by omega) rfl rfl rfl ybf (fun _ => ybf) ?_
      intro v3 _
      refine rx_rowform 3 rfl (fun _ h0 _ => (by omega)) ?_
      rintro g3 cap3 rfl
      repeat' (first|(refine ycf ?_;apply ybk;(·first|(apply yae;(·rfl);(·(first|exact yck (yaz 3 rfl) hul rfl|exact yck (yaz 4 rfl) hul rfl))));(·rfl);(·rfl))|(refine ybg 4 rfl rfl rfl rfl (fit_more hul) rfl (spl_more hul) rfl rfl ?_ ?_ ?_;(·(exact to_));(·(exact to_)))|refine t1_ ?_|(refine ta_ ?_;intro _)|((fail_if_success (refine ybi rfl ?_));refine ybj rfl ?_ ?_<;>(intro ht;rw [ht];first|replace ht := oet_ ht|replace ht := oef_ ht|skip))|(refine ych ?_;first|(refine ybw rfl ?_ ?_<;>intro ht)|(refine ybx rfl ?_ ?_<;>intro ht)))
      refine nx_round (ds.length + 1, x, .slice (some ⟨g3, 0, none⟩) (ds.length + 1) cap3) ⟨by show ds.length + 1 ≤ _; omega, by dsimp only; rw [eD]; exact px⟩ (by show nv.toNat - (ds.length + 1) < nv.toNat - ds.length; omega) ts_ (fun _ s => ?_)
      dsimp only
      rw [eD]
      dsimp only
      rw [List.flatMap_append]
      exact (s.tl.perm (List.Perm.swap _ _ _)).tl
      omega
    · repeat' (first|(refine ycf ?_;apply ybk;(·first|(apply yae;(·rfl);(·(first|exact yck (yaz 3 rfl) hul rfl|exact yck (yaz 4 rfl) hul rfl))));(·rfl);(·rfl))|(refine ybg 4 rfl rfl rfl rfl (fit_more hul) rfl (spl_more hul) rfl rfl ?_ ?_ ?_;(·(exact to_));(·(exact to_)))|refine t1_ ?_|(refine ta_ ?_;intro _)|((fail_if_success (refine ybi rfl ?_));refine ybj rfl ?_ ?_<;>(intro ht;rw [ht];first|replace ht := oet_ ht|replace ht := oef_ ht|skip))|(refine ych ?_;first|(refine ybw rfl ?_ ?_<;>intro ht)|(refine ybx rfl ?_ ?_<;>intro ht)))
      · omega
      have ek : k = nv.toNat := by omega
      subst ek
      generalize dsC nv.toNat (ls2, e2) = D at hok3 hdl hv2 eR ⊢
      obtain ⟨ds, ls3, e3⟩ := D
      dsimp only at hok3 hdl hv2 eR ⊢
      rw [eR]
      dsimp only
      refine rx_perm (perm_at (k := 1) rfl) ?_
      refine rx_persist rfl fun h3 hle3 hsm => ?_
      rw [← hdl] at hsm
      replace hsm : Ds h3 mv ds := hsm
      obtain ⟨_, ad2, cap2, rfl, _, _⟩ := id hsm
      have hv3 : Bs8 h3 v1 ls3 := hv2.mono hle3
      have hcx : Cx h3 (cxv us (.slice ad2 ds.length cap2)) us ds := ⟨hul, _, rfl, hsm⟩
      (refine rx_call_m (ycp Tryz.func45 rfl (by kernel_rfl) rfl) (perm_at (k := 0) rfl) (End_sp bi v1 ls3 e3 h3 hv3) rfl rfl rfl ?_ ?_ ?_; (· (exact to_)); (· intro _ _ hle; (exact to_)); intro x px hle)
      by_cases hE : endC (ls3, e3) = 0
      · rw [hE]
        repeat' (first|(refine ycf ?_;apply ybk;(·first|(apply yad;(·rfl);(·exact yaz 1 rfl);(·exact ycj hul))|(apply yae;(·rfl);(·(first|exact yck (yaz 3 rfl) hul rfl|exact yck (yaz 4 rfl) hul rfl))));(·rfl);(·rfl))|(refine ybg 2 rfl rfl rfl (cxc_sz hul) (cxc_fit hul) (cxc_one rfl) (ybh (cxc_all hul)) rfl rfl ?_ ?_ ?_;(·(exact to_));(·(exact to_)))|refine t1_ ?_|(refine ta_ ?_;intro _)|((fail_if_success (refine ybi rfl ?_));refine ybj rfl ?_ ?_<;>(intro ht;rw [ht];first|replace ht := oet_ ht|replace ht := oef_ ht|skip))|(refine ych ?_;first|(refine ybw rfl ?_ ?_<;>intro ht)|(refine ybx rfl ?_ ?_<;>intro ht)))
        (refine ycn (ycp Tryz.func55 rfl (by kernel_rfl) rfl) (check_sp _ us ds h3 hcx (by omega)) rfl rfl rfl ?_ ?_; (· (exact to_)))
        by_cases hC : checkC us ds = 0
        · rw [hC]
          repeat' (first|(refine ycf ?_;apply ybk;(·first|(apply yad;(·rfl);(·exact yaz 1 rfl);(·exact ycj hul))|(apply yae;(·rfl);(·(first|exact yck (yaz 3 rfl) hul rfl|exact yck (yaz 4 rfl) hul rfl))));(·rfl);(·rfl))|(refine ybg 2 rfl rfl rfl (cxc_sz hul) (cxc_fit hul) (cxc_one rfl) (ybh (cxc_all hul)) rfl rfl ?_ ?_ ?_;(·(exact to_));(·(exact to_)))|refine t1_ ?_|(refine ta_ ?_;intro _)|((fail_if_success (refine ybi rfl ?_));refine ybj rfl ?_ ?_<;>(intro ht;rw [ht];first|replace ht := oet_ ht|replace ht := oef_ ht|skip))|(refine ych ?_;first|(refine ybw rfl ?_ ?_<;>intro ht)|(refine ybx rfl ?_ ?_<;>intro ht)))
          refine nx_ret2 rfl (rv_cells rfl (yaz 2 rfl) (cxc_all hul)) (rv_tmp rfl) (fun w' s' => ⟨(h3, cxv us (.slice ad2 ds.length cap2), 0), rfl, s'.nil, ?_⟩)
          rw [if_pos ⟨rfl, rfl⟩]
          exact ⟨rfl, hcx⟩
        · generalize hCz : checkC us ds = cz at hC ⊢
          repeat' (first|(refine ycf ?_;apply ybk;(·first|(apply yad;(·rfl);(·exact yaz 1 rfl);(·exact ycj hul))|(apply yae;(·rfl);(·(first|exact yck (yaz 3 rfl) hul rfl|exact yck (yaz 4 rfl) hul rfl))));(·rfl);(·rfl))|(refine ybg 2 rfl rfl rfl (cxc_sz hul) (cxc_fit hul) (cxc_one rfl) (ybh (cxc_all hul)) rfl rfl ?_ ?_ ?_;(·(exact to_));(·(exact to_)))|refine t1_ ?_|(refine ta_ ?_;intro _)|((fail_if_success (refine ybi rfl ?_));refine ybj rfl ?_ ?_<;>(intro ht;rw [ht];first|replace ht := oet_ ht|replace ht := oef_ ht|skip))|(refine ych ?_;first|(refine ybw rfl ?_ ?_<;>intro ht)|(refine ybx rfl ?_ ?_<;>intro ht)))
          · refine nx_ret2 rfl (rv_cells rfl (yaz 2 rfl) rfl) (rv_tmp rfl) (fun w' s' => ⟨(h3, cxv zeroU (.slice none 0 0), 2), rfl, s'.nil, ?_⟩)
            rw [if_neg (fun hx => hC hx.2)]
            exact ⟨rfl, rfl, _, rfl, Sc.nil h3 2 none 0⟩
          · omega
      · generalize hEz : endC (ls3, e3) = ez at hE ⊢
        repeat' (first|(refine ycf ?_;apply ybk;(·first|(apply yad;(·rfl);(·exact yaz 1 rfl);(·exact ycj hul))|(apply yae;(·rfl);(·(first|exact yck (yaz 3 rfl) hul rfl|exact yck (yaz 4 rfl) hul rfl))));(·rfl);(·rfl))|(refine ybg 2 rfl rfl rfl (cxc_sz hul) (cxc_fit hul) (cxc_one rfl) (ybh (cxc_all hul)) rfl rfl ?_ ?_ ?_;(·(exact to_));(·(exact to_)))|refine t1_ ?_|(refine ta_ ?_;intro _)|((fail_if_success (refine ybi rfl ?_));refine ybj rfl ?_ ?_<;>(intro ht;rw [ht];first|replace ht := oet_ ht|replace ht := oef_ ht|skip))|(refine ych ?_;first|(refine ybw rfl ?_ ?_<;>intro ht)|(refine ybx rfl ?_ ?_<;>intro ht)))
        · refine nx_ret2 rfl (rv_cells rfl (yaz 2 rfl) rfl) (rv_tmp rfl) (fun w' s' => ⟨(h3, cxv zeroU (.slice none 0 0), 2), rfl, s'.nil, ?_⟩)
          rw [if_neg (fun hx => hE hx.1)]
          exact ⟨rfl, rfl, _, rfl, Sc.nil h3 2 none 0⟩
        · omega
end Go.Proofs.YtkkjppeaaicgaaaGreatDoor
end
