/-
  Part 3 of a proof: CkTac CkRange CkBool CkEq ShA CkCopy CkLend CkRow BitA BitB BitC.
  Conditions: each theorem states its own.
-/
import Derived.RangeFuncGives
import Derived.RangeFuncLeaves
import Derived.RangeFuncSeq
import Derived.TacticsIn
import Derived.Laws.Small
import Derived.Laws.CopyRow
import Derived.Laws.Pointers
import Derived.Test.YtgeepceieckooaaGreatDoorSeEPM2
set_option maxRecDepth 100000
set_option linter.unusedVariables false
set_option linter.unusedSimpArgs false
section
namespace Go.Ck
open Go
theorem tq_ {p : Prop} (h : p := by (first|(apply yaa;rfl)|(apply yab;rfl)|(apply yac<;>rfl)|(apply yae;(·rfl);(·(first|exact yay 0 rfl rfl|exact yay 1 rfl rfl|exact yay 2 rfl rfl|exact yay 3 rfl rfl|exact yay 4 rfl rfl|exact yay 5 rfl rfl)))|(apply yad;(·rfl);(·first|exact yaz 0 rfl|exact yaz 1 rfl|exact yaz 2 rfl|exact yaz 3 rfl|exact yaz 4 rfl|exact yaz 5 rfl);(·rfl))|(apply yaf<;>rfl)|(apply yag<;>rfl)|(apply yah<;>rfl)|(apply yai<;>rfl)|(apply yaj<;>rfl)|(apply yak<;>rfl)|(apply yal<;>rfl)|(apply yam<;>rfl)|(apply yan;(·rfl);(·rfl);(·(unfold I64;omega)))|(apply yao;(·rfl);(·rfl);(·(unfold I64;omega)))|(apply yap;rfl)|(apply yaq;rfl)|(apply yar;rfl)|(apply yas<;>rfl)|(apply yat;rfl)|(apply yau<;>rfl)|(apply yav;(·rfl);(·rfl);(·omega);(·omega))|(apply yaw;(·rfl);(·rfl);(·omega);(·omega))|(apply yax<;>rfl))) : p := h
theorem tk_ {p : Prop} (h : p := by (first|(apply qv_lss_t;(·rfl);(·rfl);(·omega)) | (apply qv_lss_f;(·rfl);(·rfl);(·omega)) | (apply qv_leq_t;(·rfl);(·rfl);(·omega)) | (apply qv_leq_f;(·rfl);(·rfl);(·omega)) | (apply qv_gtr_t;(·rfl);(·rfl);(·omega)) | (apply qv_gtr_f;(·rfl);(·rfl);(·omega)) | (apply qv_geq_t;(·rfl);(·rfl);(·omega)) | (apply qv_geq_f;(·rfl);(·rfl);(·omega)) | (apply qv_eql_t;(·rfl);(·rfl);(·omega)) | (apply qv_eql_f;(·rfl);(·rfl);(·omega)) | (apply qv_neq_t;(·rfl);(·rfl);(·omega)) | (apply qv_neq_f;(·rfl);(·rfl);(·omega)))) : p := h
theorem th_ {p : Prop} (h : p := by (first|exact fun _ s => s | exact fun _ s => s.tl | exact fun _ s => s.tl.tl | exact fun _ s => s.tl.tl.tl | exact fun _ s => s.tl.tl.tl.tl)) : p := h
theorem to_ {p : Prop} (h : p := by (first|exact ybf | (refine .inl ?_;exact th_) | (refine .inr ?_;kernel_rfl))) : p := h
theorem ts_ {p : Prop} (h : p := by repeat' (first|exact Sub.nil | refine Sub.cons rfl rfl ?_)) : p := h
structure Bx (p : Prop) : Prop where
  o : p
theorem ta_ {G : Prop} {H : Nat → Prop} (k : ∀ b, H b) (h : Bx (∀ b, H b) → G := by (intro hk;(first|exact yba (ybb rfl) rfl rfl rfl ybf (fun _ => ybf) hk.1 | exact yba ybc rfl rfl rfl ybf (fun _ => ybf) hk.1 | exact yba (ybd rfl rfl rfl (ybe rfl rfl)) rfl rfl rfl ybf (fun _ => ybf) hk.1 | exact yba (ybd rfl rfl rfl rfl) rfl rfl rfl ybf (fun _ => ybf) hk.1))) : G := h ⟨k⟩
theorem tb_ {G A : Prop} {B H : Nat → Prop} (a : A) (b : ∀ b, B b) (k : ∀ b, H b) (h : Bx A → Bx (∀ b, B b) → Bx (∀ b, H b) → G := by (intro ha hb hk;(first|exact yba (ybb rfl) rfl rfl rfl ha.1 hb.1 hk.1 | exact yba ybc rfl rfl rfl ha.1 hb.1 hk.1 | exact yba (ybd rfl rfl rfl (ybe rfl rfl)) rfl rfl rfl ha.1 hb.1 hk.1 | exact yba (ybd rfl rfl rfl rfl) rfl rfl rfl ha.1 hb.1 hk.1))) : G := h ⟨a⟩ ⟨b⟩ ⟨k⟩
theorem tqs_ {G A B H : Prop} (a : A) (b : B) (k : H) (h : Bx A → Bx B → Bx H → G := by (intro ha hb hk;((first|refine ybg 0 rfl rfl rfl ?_ ?_ ?_ (by first|(refine ybh ?_;rfl)|rfl) rfl rfl ha.1 hb.1 ?_|refine ybg 1 rfl rfl rfl ?_ ?_ ?_ (by first|(refine ybh ?_;rfl)|rfl) rfl rfl ha.1 hb.1 ?_|refine ybg 2 rfl rfl rfl ?_ ?_ ?_ (by first|(refine ybh ?_;rfl)|rfl) rfl rfl ha.1 hb.1 ?_|refine ybg 3 rfl rfl rfl ?_ ?_ ?_ (by first|(refine ybh ?_;rfl)|rfl) rfl rfl ha.1 hb.1 ?_|refine ybg 4 rfl rfl rfl ?_ ?_ ?_ (by first|(refine ybh ?_;rfl)|rfl) rfl rfl ha.1 hb.1 ?_|refine ybg 5 rfl rfl rfl ?_ ?_ ?_ (by first|(refine ybh ?_;rfl)|rfl) rfl rfl ha.1 hb.1 ?_);(·rfl);(·exact nble rfl);(·rfl));exact hk.1)) : G := h ⟨a⟩ ⟨b⟩ ⟨k⟩
theorem t1_ {G H : Prop} (k : H) (h : Bx H → G := by (intro hk;(first|(refine ycf ?_;(first|(apply ybk;(·exact tq_);(·rfl);(·rfl))|refine ybl rfl rfl ?_|((first|refine ybg 0 rfl rfl rfl ?_ ?_ ?_ (by first|(refine ybh ?_;rfl)|rfl) rfl rfl ybf ybf ?_|refine ybg 1 rfl rfl rfl ?_ ?_ ?_ (by first|(refine ybh ?_;rfl)|rfl) rfl rfl ybf ybf ?_|refine ybg 2 rfl rfl rfl ?_ ?_ ?_ (by first|(refine ybh ?_;rfl)|rfl) rfl rfl ybf ybf ?_|refine ybg 3 rfl rfl rfl ?_ ?_ ?_ (by first|(refine ybh ?_;rfl)|rfl) rfl rfl ybf ybf ?_|refine ybg 4 rfl rfl rfl ?_ ?_ ?_ (by first|(refine ybh ?_;rfl)|rfl) rfl rfl ybf ybf ?_|refine ybg 5 rfl rfl rfl ?_ ?_ ?_ (by first|(refine ybh ?_;rfl)|rfl) rfl rfl ybf ybf ?_);(·rfl);(·exact nble rfl);(·rfl))|refine ycg ?_))|(refine ych ?_;(first|refine ybo ?_|refine ybp ?_|refine ybq ?_|refine ybr ?_|refine ybs ?_|refine ybt ?_|refine ybu rfl ?_|refine ybv rfl ?_))|(refine yci ?_;(first|refine yby ?_|refine ybz ?_|refine yca ?_|refine ycb ?_|refine ycc ?_|refine ycd ?_|refine yce rfl ?_)));exact hk.1)) : G := h ⟨k⟩
theorem tw_ {G H : Prop} (k : H) (h : Bx H → G := by (intro hk;(first|(refine ycf ?_;(first|(apply ybk;(·exact tq_);(·rfl);(·rfl))|refine ybl rfl rfl ?_|((first|refine ybg 0 rfl rfl rfl ?_ ?_ ?_ (by first|(refine ybh ?_;rfl)|rfl) rfl rfl ybf ybf ?_|refine ybg 1 rfl rfl rfl ?_ ?_ ?_ (by first|(refine ybh ?_;rfl)|rfl) rfl rfl ybf ybf ?_|refine ybg 2 rfl rfl rfl ?_ ?_ ?_ (by first|(refine ybh ?_;rfl)|rfl) rfl rfl ybf ybf ?_|refine ybg 3 rfl rfl rfl ?_ ?_ ?_ (by first|(refine ybh ?_;rfl)|rfl) rfl rfl ybf ybf ?_|refine ybg 4 rfl rfl rfl ?_ ?_ ?_ (by first|(refine ybh ?_;rfl)|rfl) rfl rfl ybf ybf ?_|refine ybg 5 rfl rfl rfl ?_ ?_ ?_ (by first|(refine ybh ?_;rfl)|rfl) rfl rfl ybf ybf ?_);(·rfl);(·exact nble rfl);(·rfl))|refine ycg ?_))|(refine ych ?_;(first|refine ybo ?_|refine ybp ?_|refine ybq ?_|refine ybr ?_|refine ybs ?_|refine ybt ?_|refine ybu rfl ?_|refine ybv rfl ?_))|(refine yci ?_;(first|refine yby ?_|refine ybz ?_|refine yca ?_|refine ycb ?_|refine ycc ?_|refine ycd ?_|refine yce rfl ?_)));(repeat (first|(refine ycf ?_;(first|(apply ybk;(·exact tq_);(·rfl);(·rfl))|refine ybl rfl rfl ?_|((first|refine ybg 0 rfl rfl rfl ?_ ?_ ?_ (by first|(refine ybh ?_;rfl)|rfl) rfl rfl ybf ybf ?_|refine ybg 1 rfl rfl rfl ?_ ?_ ?_ (by first|(refine ybh ?_;rfl)|rfl) rfl rfl ybf ybf ?_|refine ybg 2 rfl rfl rfl ?_ ?_ ?_ (by first|(refine ybh ?_;rfl)|rfl) rfl rfl ybf ybf ?_|refine ybg 3 rfl rfl rfl ?_ ?_ ?_ (by first|(refine ybh ?_;rfl)|rfl) rfl rfl ybf ybf ?_|refine ybg 4 rfl rfl rfl ?_ ?_ ?_ (by first|(refine ybh ?_;rfl)|rfl) rfl rfl ybf ybf ?_|refine ybg 5 rfl rfl rfl ?_ ?_ ?_ (by first|(refine ybh ?_;rfl)|rfl) rfl rfl ybf ybf ?_);(·rfl);(·exact nble rfl);(·rfl))|refine ycg ?_))|(refine ych ?_;(first|refine ybo ?_|refine ybp ?_|refine ybq ?_|refine ybr ?_|refine ybs ?_|refine ybt ?_|refine ybu rfl ?_|refine ybv rfl ?_))|(refine yci ?_;(first|refine yby ?_|refine ybz ?_|refine yca ?_|refine ycb ?_|refine ycc ?_|refine ycd ?_|refine yce rfl ?_))));exact hk.1)) : G := h ⟨k⟩
end Go.Ck
end

section
namespace Go.Ck
open Go
section
variable {P : Program} {n : Nat} {K : Bs} {F : List (Nat × Value)} {h : View} {L : List Res} {Q : Exit → Act → World → Prop}
theorem St.put {K : Bs} {h : View} {b : Nat} {o o' : Obj} {L : List Res} {w : World} (s : St K h (Res.blk b o :: L) w) : St K h (Res.blk b o' :: L) (w.putObj b o') := by
  have hlt : b < w.heap.size := (Res.blk b o).lt w (s.hd.own _ (List.mem_cons_self ..)) b (List.mem_singleton.2 rfl)
  exact s.write rfl rfl rfl (Nat.le_refl _) (by simp) (fun k hk => World.putObj_heap_other hk) (World.putObj_heap_same hlt)
end
end Go.Ck
end

section
namespace Go.Ck
open Go
section
variable {P : Program} {n : Nat} {K : Bs} {F : List (Nat × Value)} {h : View} {L : List Res} {Q : Exit → Act → World → Prop}
variable {dst : Option Nat} {ty : Nat} {pos : String} {af : Array Edge} {gd : Option (Nat × Bool)}
theorem run_guard_bool {op : BinOp} {T : Nat} {x y : Operand} {a b : Bool} {w : World} : (eqGuard op T x y (.bool a) (.bool b)).run P w = .ok () w := by
  unfold eqGuard
  by_cases hop : op = .eql ∨ op = .neq
  · rcases hop with rfl | rfl <;> simp
  · have : (!(op matches .eql | .neq)) = true := by cases op<;>first|rfl | exact absurd (Or.inl rfl) hop | exact absurd (Or.inr rfl) hop
    simp [this]
theorem qv_eql_bool {T T' : Nat} {x y : Operand} {a b t : Bool} [tu : TyU P T .bool] (hx : ev F x = some (.bool a)) (hy : ev F y = some (.bool b)) (ht : (a == b) = t) :
    QV P n F h L ⟨dst, .binOp .eql T x y T', ty, pos, af, gd⟩ (.bool t) := .mk fun ac w f s => by
  subst ht
  simp [execOp, f.ev hx, f.ev hy, run_guard_bool, binOp, run_equal_bool w T a b tu.u]
end
end Go.Ck
end

section
namespace Go.Ck
open Go
theorem qv_lss_t {P : Program} {n : Nat} {F : List (Nat × Value)} {h : View} {L : List Res} {dst : Option Nat} {ty : Nat} {pos : String} {af : Array Edge} {gd : Option (Nat × Bool)} {T T' : Nat} {x y : Operand} {k : IntKind} {i j : Int} (hx : ev F x = some (.int k i)) (hy : ev F y = some (.int k j)) (hr : i < j) :
    QV P n F h L ⟨dst, .binOp .lss T x y T', ty, pos, af, gd⟩ (.bool true) := by
  have := yah (P := P) (n := n) (h := h) (L := L) (dst := dst) (ty := ty) (pos := pos) (af := af) (gd := gd) (T := T) (T' := T') hx hy
  rwa [decide_eq_true hr] at this
theorem qv_lss_f {P : Program} {n : Nat} {F : List (Nat × Value)} {h : View} {L : List Res} {dst : Option Nat} {ty : Nat} {pos : String} {af : Array Edge} {gd : Option (Nat × Bool)} {T T' : Nat} {x y : Operand} {k : IntKind} {i j : Int} (hx : ev F x = some (.int k i)) (hy : ev F y = some (.int k j)) (hr : ¬ (i < j)) :
    QV P n F h L ⟨dst, .binOp .lss T x y T', ty, pos, af, gd⟩ (.bool false) := by
  have := yah (P := P) (n := n) (h := h) (L := L) (dst := dst) (ty := ty) (pos := pos) (af := af) (gd := gd) (T := T) (T' := T') hx hy
  rwa [decide_eq_false hr] at this
theorem qv_leq_t {P : Program} {n : Nat} {F : List (Nat × Value)} {h : View} {L : List Res} {dst : Option Nat} {ty : Nat} {pos : String} {af : Array Edge} {gd : Option (Nat × Bool)} {T T' : Nat} {x y : Operand} {k : IntKind} {i j : Int} (hx : ev F x = some (.int k i)) (hy : ev F y = some (.int k j)) (hr : i ≤ j) :
    QV P n F h L ⟨dst, .binOp .leq T x y T', ty, pos, af, gd⟩ (.bool true) := by
  have := yai (P := P) (n := n) (h := h) (L := L) (dst := dst) (ty := ty) (pos := pos) (af := af) (gd := gd) (T := T) (T' := T') hx hy
  rwa [decide_eq_true hr] at this
theorem qv_leq_f {P : Program} {n : Nat} {F : List (Nat × Value)} {h : View} {L : List Res} {dst : Option Nat} {ty : Nat} {pos : String} {af : Array Edge} {gd : Option (Nat × Bool)} {T T' : Nat} {x y : Operand} {k : IntKind} {i j : Int} (hx : ev F x = some (.int k i)) (hy : ev F y = some (.int k j)) (hr : ¬ (i ≤ j)) :
    QV P n F h L ⟨dst, .binOp .leq T x y T', ty, pos, af, gd⟩ (.bool false) := by
  have := yai (P := P) (n := n) (h := h) (L := L) (dst := dst) (ty := ty) (pos := pos) (af := af) (gd := gd) (T := T) (T' := T') hx hy
  rwa [decide_eq_false hr] at this
theorem qv_gtr_t {P : Program} {n : Nat} {F : List (Nat × Value)} {h : View} {L : List Res} {dst : Option Nat} {ty : Nat} {pos : String} {af : Array Edge} {gd : Option (Nat × Bool)} {T T' : Nat} {x y : Operand} {k : IntKind} {i j : Int} (hx : ev F x = some (.int k i)) (hy : ev F y = some (.int k j)) (hr : j < i) :
    QV P n F h L ⟨dst, .binOp .gtr T x y T', ty, pos, af, gd⟩ (.bool true) := by
  have := yaj (P := P) (n := n) (h := h) (L := L) (dst := dst) (ty := ty) (pos := pos) (af := af) (gd := gd) (T := T) (T' := T') hx hy
  rwa [decide_eq_true hr] at this
theorem qv_gtr_f {P : Program} {n : Nat} {F : List (Nat × Value)} {h : View} {L : List Res} {dst : Option Nat} {ty : Nat} {pos : String} {af : Array Edge} {gd : Option (Nat × Bool)} {T T' : Nat} {x y : Operand} {k : IntKind} {i j : Int} (hx : ev F x = some (.int k i)) (hy : ev F y = some (.int k j)) (hr : ¬ (j < i)) :
    QV P n F h L ⟨dst, .binOp .gtr T x y T', ty, pos, af, gd⟩ (.bool false) := by
  have := yaj (P := P) (n := n) (h := h) (L := L) (dst := dst) (ty := ty) (pos := pos) (af := af) (gd := gd) (T := T) (T' := T') hx hy
  rwa [decide_eq_false hr] at this
theorem qv_geq_t {P : Program} {n : Nat} {F : List (Nat × Value)} {h : View} {L : List Res} {dst : Option Nat} {ty : Nat} {pos : String} {af : Array Edge} {gd : Option (Nat × Bool)} {T T' : Nat} {x y : Operand} {k : IntKind} {i j : Int} (hx : ev F x = some (.int k i)) (hy : ev F y = some (.int k j)) (hr : j ≤ i) :
    QV P n F h L ⟨dst, .binOp .geq T x y T', ty, pos, af, gd⟩ (.bool true) := by
  have := yak (P := P) (n := n) (h := h) (L := L) (dst := dst) (ty := ty) (pos := pos) (af := af) (gd := gd) (T := T) (T' := T') hx hy
  rwa [decide_eq_true hr] at this
theorem qv_geq_f {P : Program} {n : Nat} {F : List (Nat × Value)} {h : View} {L : List Res} {dst : Option Nat} {ty : Nat} {pos : String} {af : Array Edge} {gd : Option (Nat × Bool)} {T T' : Nat} {x y : Operand} {k : IntKind} {i j : Int} (hx : ev F x = some (.int k i)) (hy : ev F y = some (.int k j)) (hr : ¬ (j ≤ i)) :
    QV P n F h L ⟨dst, .binOp .geq T x y T', ty, pos, af, gd⟩ (.bool false) := by
  have := yak (P := P) (n := n) (h := h) (L := L) (dst := dst) (ty := ty) (pos := pos) (af := af) (gd := gd) (T := T) (T' := T') hx hy
  rwa [decide_eq_false hr] at this
theorem qv_eql_t {P : Program} {n : Nat} {F : List (Nat × Value)} {h : View} {L : List Res} {dst : Option Nat} {ty : Nat} {pos : String} {af : Array Edge} {gd : Option (Nat × Bool)} {T T' : Nat} {x y : Operand} {k : IntKind} {i j : Int} (hx : ev F x = some (.int k i)) (hy : ev F y = some (.int k j)) (hr : i = j) :
    QV P n F h L ⟨dst, .binOp .eql T x y T', ty, pos, af, gd⟩ (.bool true) := by
  have := yal (P := P) (n := n) (h := h) (L := L) (dst := dst) (ty := ty) (pos := pos) (af := af) (gd := gd) (T := T) (T' := T') hx hy
  rwa [decide_eq_true hr] at this
theorem qv_eql_f {P : Program} {n : Nat} {F : List (Nat × Value)} {h : View} {L : List Res} {dst : Option Nat} {ty : Nat} {pos : String} {af : Array Edge} {gd : Option (Nat × Bool)} {T T' : Nat} {x y : Operand} {k : IntKind} {i j : Int} (hx : ev F x = some (.int k i)) (hy : ev F y = some (.int k j)) (hr : ¬ (i = j)) :
    QV P n F h L ⟨dst, .binOp .eql T x y T', ty, pos, af, gd⟩ (.bool false) := by
  have := yal (P := P) (n := n) (h := h) (L := L) (dst := dst) (ty := ty) (pos := pos) (af := af) (gd := gd) (T := T) (T' := T') hx hy
  rwa [decide_eq_false hr] at this
theorem qv_neq_t {P : Program} {n : Nat} {F : List (Nat × Value)} {h : View} {L : List Res} {dst : Option Nat} {ty : Nat} {pos : String} {af : Array Edge} {gd : Option (Nat × Bool)} {T T' : Nat} {x y : Operand} {k : IntKind} {i j : Int} (hx : ev F x = some (.int k i)) (hy : ev F y = some (.int k j)) (hr : i ≠ j) :
    QV P n F h L ⟨dst, .binOp .neq T x y T', ty, pos, af, gd⟩ (.bool true) := by
  have := yam (P := P) (n := n) (h := h) (L := L) (dst := dst) (ty := ty) (pos := pos) (af := af) (gd := gd) (T := T) (T' := T') hx hy
  rwa [decide_eq_true hr] at this
theorem qv_neq_f {P : Program} {n : Nat} {F : List (Nat × Value)} {h : View} {L : List Res} {dst : Option Nat} {ty : Nat} {pos : String} {af : Array Edge} {gd : Option (Nat × Bool)} {T T' : Nat} {x y : Operand} {k : IntKind} {i j : Int} (hx : ev F x = some (.int k i)) (hy : ev F y = some (.int k j)) (hr : ¬ (i ≠ j)) :
    QV P n F h L ⟨dst, .binOp .neq T x y T', ty, pos, af, gd⟩ (.bool false) := by
  have := yam (P := P) (n := n) (h := h) (L := L) (dst := dst) (ty := ty) (pos := pos) (af := af) (gd := gd) (T := T) (T' := T') hx hy
  rwa [decide_eq_false hr] at this
end Go.Ck
end

section
namespace Go.Proofs.YtgeepceieckooaaGreatDoor
open Go Go.Ck
set_option maxHeartbeats 2000000
abbrev W32 := BitVec 32
abbrev v32 (a : W32) : Value := .int .u32 (a.toNat : Int)
def rotL (x : W32) (k : Nat) : W32 := x <<< k ||| x >>> (32 - k)
theorem rotL_bit (x : W32) {k i : Nat} (hk : k ≤ 32) (hi : i < 32) : (rotL x k).getLsbD i = if i < k then x.getLsbD (32 - k + i) else x.getLsbD (i - k) := by
  unfold rotL
  rw [BitVec.getLsbD_or, BitVec.getLsbD_shiftLeft, BitVec.getLsbD_ushiftRight]
  by_cases h : i < k
  · simp [h]
  · simp only [h, if_false, hi, decide_true, Bool.true_and, decide_false, Bool.not_false]
    rw [show x.getLsbD (32 - k + i) = false from BitVec.getLsbD_of_ge _ _ (by omega)]
    simp
theorem rotL_one (x : W32) : x * 2#32 + x >>> 31 = rotL x 1 := by
  unfold rotL
  apply BitVec.eq_of_toNat_eq
  have hx := x.isLt
  have h1 : (x <<< 1).toNat = (x.toNat * 2) % 4294967296 := by rw [BitVec.toNat_shiftLeft, Nat.shiftLeft_eq]
  have h2 : (x >>> 31).toNat = x.toNat / 2147483648 := by rw [BitVec.toNat_ushiftRight, Nat.shiftRight_eq_div_pow]
  have h3 : (x * 2#32).toNat = (x.toNat * 2) % 4294967296 := by rw [BitVec.toNat_mul]; rfl
  rw [BitVec.toNat_add, BitVec.toNat_or, h3, h1, h2]
  have e : (x.toNat * 2) % 4294967296 = 2 ^ 1 * (x.toNat % 2147483648) := by omega
  have hb : x.toNat / 2147483648 < 2 ^ 1 := by omega
  rw [e, ← Nat.two_pow_add_eq_or_of_lt hb]
  omega
theorem rotL_succ (x : W32) {k : Nat} (hk : k < 32) : rotL (rotL x k) 1 = rotL x (k + 1) := by
  apply BitVec.eq_of_getLsbD_eq
  intro i hi
  rw [rotL_bit _ (by omega) hi, rotL_bit _ (by omega) hi]
  by_cases h0 : i < 1
  · have h1 : i < k + 1 := by omega
    rw [if_pos h0, if_pos h1, rotL_bit _ (by omega) (by omega)]
    have e0 : i = 0 := by omega
    subst e0
    by_cases h2 : 32 - 1 + 0 < k
    · omega
    · rw [if_neg h2]; congr 1; omega
  · rw [if_neg h0, rotL_bit _ (by omega) (by omega)]
    by_cases h2 : i - 1 < k
    · rw [if_pos h2, if_pos (by omega)]; congr 1; omega
    · rw [if_neg h2, if_neg (by omega)]; congr 1; omega
theorem rotL_zero (x : W32) : rotL x 0 = x := by
  apply BitVec.eq_of_getLsbD_eq
  intro i hi
  rw [rotL_bit _ (by omega) hi]
  simp
def turnK (n : Int) : Nat := (n % 32).toNat
theorem turnK_lt (n : Int) : turnK n < 32 := by unfold turnK; omega
theorem wrapU (n : Int) : IntKind.u64.wrap n = n % 18446744073709551616 := by
  simp [IntKind.wrap, IntKind.bits, IntKind.signed]
theorem Left_sp (x : W32) (n : Int) (h : View) (w : World) (s : St ⟨w, h, []⟩ h [] w) :
    Calls Tryz.prog 145 [v32 x, .int .i64 n].toArray w fun e w' => e = .returned (v32 (rotL x (turnK n))) ∧ St ⟨w, h, []⟩ h [] w' := by
  have hw : (IntKind.u64.wrap n).tmod 32 = ((turnK n : Nat) : Int) := by
    rw [wrapU, Int.tmod_eq_emod_of_nonneg (Int.emod_nonneg _ (by omega)), Int.emod_emod_of_dvd _ (by decide)]
    unfold turnK
    omega
  have hl := turnK_lt n
  have hs : IntKind.u64.wrap (32 - ((turnK n : Nat) : Int)) = ((32 - turnK n : Nat) : Int) := by rw [wrapU]; omega
  have hres : rotL x (turnK n) = x <<< turnK n ||| x >>> (32 - turnK n) := rfl
  generalize turnK n = k at hw hl hs hres ⊢
  rw [hres]
  refine calls_enter Tryz.func145 rfl Tryz.ntmps145 rfl s ?_
  repeat' (first|refine zw0 ?_|(refine ta_ ?_;intro _)|(refine zk0 ?_ ?_<;>intro ht)|fail)
  exact nx_ret1 rfl (rv_tmp rfl) (fun w' s' => ⟨rfl, s'.nil⟩)
theorem rLeft_sp (x : W32) (n : Int) (h : View) (w : World) (s : St ⟨w, h, []⟩ h [] w) :
    Calls Tryz.prog 140 [v32 x, .int .i64 n].toArray w fun e w' => e = .returned (v32 (rotL x (turnK n))) ∧ St ⟨w, h, []⟩ h [] w' := by
  have hl := turnK_lt n
  have hk : n.tmod 32 < 0 ∧ n.tmod 32 + 32 = ((turnK n : Nat) : Int) ∨ 0 ≤ n.tmod 32 ∧ n.tmod 32 = ((turnK n : Nat) : Int) := by
    unfold turnK
    have := Int.tmod_eq_emod (a := n) (b := 32)
    split at this <;> omega
  generalize turnK n = k at hl hk ⊢
  obtain ⟨m, hm0⟩ : ∃ m, n.tmod 32 = m := ⟨_, rfl⟩
  rw [hm0] at hk
  have hw : m + 32 = ((k : Nat) : Int) → IntKind.i64.wrap (m + 32) = ((k : Nat) : Int) := fun hm => by rw [IntKind.wrap_i64]; omega
  refine calls_enter Tryz.func140 rfl Tryz.ntmps140 rfl s ?_
  rcases hk with ⟨hk, hm⟩ | ⟨hk, hm⟩
  case' inl => repeat' (first|(refine ycf ?_;apply ybk;(·exact zc0);(·rfl);(·rfl))|refine t1_ ?_|(refine ta_ ?_;intro _)|(refine zk0 ?_ ?_<;>intro ht))
  case' inr =>
    subst hm
    repeat' (first|refine zw1 ?_|(refine ta_ ?_;intro _)|(refine zk0 ?_ ?_<;>intro ht)|fail)
  all_goals
    refine cx_loop (X := Nat) (fun i => [(0, v32 (rotL x i)), (5, .int .i64 (k : Nat)), (6, .int .i64 (i : Nat))]) (fun _ => h) (fun _ => []) (fun i => i ≤ k) (fun i => k - i) 0 (Nat.zero_le _) ?_ (fun _ s => s) ?_
    · rw [rotL_zero]
      exact ts_
  all_goals
    intro i hi
    have hq : IntKind.u32.wrap (((rotL x i).toNat : Int).tdiv 2147483648) = ((rotL x i >>> 31).toNat : Int) := by
      have e : ((rotL x i).toNat : Int).tdiv 2147483648 = ((rotL x i >>> 31).toNat : Int) := by
        rw [BitVec.toNat_ushiftRight, Nat.shiftRight_eq_div_pow]
        rfl
      rw [e]
      exact wrapw_id rfl rfl _
    by_cases hik : i < k
    · have hr : rotL x i * 2#32 + rotL x i >>> 31 = rotL x (i + 1) := by rw [rotL_one, rotL_succ x (by omega)]
      have h2 : (IntKind.u32.wrap (2 : Int)) = ((2#32).toNat : Int) := by decide
      repeat' (first|refine zw2 ?_|(refine ta_ ?_;intro _)|(refine zk0 ?_ ?_<;>intro ht)|fail)
      refine nx_round (i + 1) (by show i + 1 ≤ k; omega) (by show k - (i + 1) < k - i; omega) ?_ (fun _ s => s)
      rw [← hr]
      exact ts_
    · have hik2 : i = k := by omega
      subst hik2
      repeat' (first|refine zw3 ?_|(refine ta_ ?_;intro _)|(refine zk0 ?_ ?_<;>intro ht)|fail)
      exact nx_ret1 rfl (rv_tmp rfl) (fun w' s' => ⟨rfl, s'.nil⟩)
theorem turnK_neg {a : Nat} (h0 : 0 < a) (h1 : a < 32) : turnK (-(a : Int)) = 32 - a := by unfold turnK; omega
def turnedF (x : W32) (a b c : Nat) : W32 := rotL x (32 - a) ^^^ rotL x (32 - b) ^^^ rotL x (32 - c)
def movedF (x : W32) (a b c : Nat) : W32 := rotL x (32 - a) ^^^ rotL x (32 - b) ^^^ x >>> c
theorem turned_sp (x : W32) (a b c : Nat) (ha : 0 < a ∧ a < 32) (hb : 0 < b ∧ b < 32) (hc : 0 < c ∧ c < 32) (h : View) (w : World) (s : St ⟨w, h, []⟩ h [] w) :
    Calls Tryz.prog 133 [v32 x, .int .i64 a, .int .i64 b, .int .i64 c].toArray w fun e w' => e = .returned (v32 (turnedF x a b c)) ∧ St ⟨w, h, []⟩ h [] w' := by
  have wa : IntKind.i64.wrap (0 - (a : Int)) = -(a : Int) := by rw [IntKind.wrap_i64]; omega
  have wb : IntKind.i64.wrap (0 - (b : Int)) = -(b : Int) := by rw [IntKind.wrap_i64]; omega
  have wc : IntKind.i64.wrap (0 - (c : Int)) = -(c : Int) := by rw [IntKind.wrap_i64]; omega
  have ta := turnK_neg ha.1 ha.2
  have tb := turnK_neg hb.1 hb.2
  have tc := turnK_neg hc.1 hc.2
  have La := Left_sp x (-(a : Int)) h
  have Lb := Left_sp x (-(b : Int)) h
  have Lc := Left_sp x (-(c : Int)) h
  rw [ta] at La
  rw [tb] at Lb
  rw [tc] at Lc
  refine calls_enter Tryz.func133 rfl Tryz.ntmps133 rfl s ?_
  repeat' (first|refine zw4 ?_|(refine ta_ ?_;intro _)|(refine zk0 ?_ ?_<;>intro ht)|fail)
  (refine ycn (ycp Tryz.func145 rfl (by kernel_rfl) rfl) (La) rfl rfl rfl ?_ ?_; (· (exact to_)))
  repeat' (first|refine zw4 ?_|(refine ta_ ?_;intro _)|(refine zk0 ?_ ?_<;>intro ht)|fail)
  (refine ycn (ycp Tryz.func145 rfl (by kernel_rfl) rfl) (Lb) rfl rfl rfl ?_ ?_; (· (exact to_)))
  repeat' (first|refine zw4 ?_|(refine ta_ ?_;intro _)|(refine zk0 ?_ ?_<;>intro ht)|fail)
  (refine ycn (ycp Tryz.func145 rfl (by kernel_rfl) rfl) (Lc) rfl rfl rfl ?_ ?_; (· (exact to_)))
  repeat' (first|refine zw4 ?_|(refine ta_ ?_;intro _)|(refine zk0 ?_ ?_<;>intro ht)|fail)
  exact nx_ret1 rfl (rv_tmp rfl) (fun w' s' => ⟨rfl, s'.nil⟩)
theorem moved_sp (x : W32) (a b c : Nat) (ha : 0 < a ∧ a < 32) (hb : 0 < b ∧ b < 32) (h : View) (w : World) (s : St ⟨w, h, []⟩ h [] w) :
    Calls Tryz.prog 144 [v32 x, .int .i64 a, .int .i64 b, .int .i64 c].toArray w fun e w' => e = .returned (v32 (movedF x a b c)) ∧ St ⟨w, h, []⟩ h [] w' := by
  have wa : IntKind.i64.wrap (0 - (a : Int)) = -(a : Int) := by rw [IntKind.wrap_i64]; omega
  have wb : IntKind.i64.wrap (0 - (b : Int)) = -(b : Int) := by rw [IntKind.wrap_i64]; omega
  have ta := turnK_neg ha.1 ha.2
  have tb := turnK_neg hb.1 hb.2
  have La := Left_sp x (-(a : Int)) h
  have Lb := Left_sp x (-(b : Int)) h
  rw [ta] at La
  rw [tb] at Lb
  refine calls_enter Tryz.func144 rfl Tryz.ntmps144 rfl s ?_
  repeat' (first|refine zw5 ?_|(refine ta_ ?_;intro _)|(refine zk0 ?_ ?_<;>intro ht)|fail)
  refine cx_region_draw' rfl (by kernel_rfl) ?_
  repeat' (first|refine zw6 ?_|(refine ycf ?_;(first|(refine zg0 ?_ ?_<;>intro ht)|(refine tb_ ?_ ?_ ?_;(·(exact to_));(·intro _;(exact to_));intro _)))|fail)
  (refine ycn (ycp Tryz.func145 rfl (by kernel_rfl) rfl) (La) rfl rfl rfl ?_ ?_; (· (exact to_)))
  repeat' (first|refine zw6 ?_|(refine ycf ?_;(first|(refine zg0 ?_ ?_<;>intro ht)|(refine tb_ ?_ ?_ ?_;(·(exact to_));(·intro _;(exact to_));intro _)))|fail)
  (refine ycn (ycp Tryz.func145 rfl (by kernel_rfl) rfl) (Lb) rfl rfl rfl ?_ ?_; (· (exact to_)))
  repeat' (first|refine zw6 ?_|(refine ycf ?_;(first|(refine zg0 ?_ ?_<;>intro ht)|(refine tb_ ?_ ?_ ?_;(·(exact to_));(·intro _;(exact to_));intro _)))|fail)
  repeat' (first|refine zw5 ?_|(refine ta_ ?_;intro _)|(refine zk0 ?_ ?_<;>intro ht)|fail)
  exact nx_ret1 rfl (rv_tmp rfl) (fun w' s' => ⟨rfl, s'.nil⟩)
theorem rright_sp2 (x : W32) (a : Nat) (ha : 0 < a ∧ a < 32) (h : View) (w : World) (s : St ⟨w, h, []⟩ h [] w) :
    Calls Tryz.prog 127 [v32 x, .int .i64 a].toArray w fun e w' => e = .returned (v32 (rotL x (32 - a))) ∧ St ⟨w, h, []⟩ h [] w' := by
  have La := rLeft_sp x (32 - (a : Int)) h
  rw [show turnK (32 - (a : Int)) = 32 - a by unfold turnK; omega] at La
  refine calls_enter Tryz.func127 rfl Tryz.ntmps127 rfl s ?_
  repeat' (first|refine zw5 ?_|(refine ta_ ?_;intro _)|(refine zk0 ?_ ?_<;>intro ht)|fail)
  (refine ycn (ycp Tryz.func140 rfl (by kernel_rfl) rfl) (La) rfl rfl rfl ?_ ?_; (· (exact to_)))
  repeat' (first|refine zw5 ?_|(refine ta_ ?_;intro _)|(refine zk0 ?_ ?_<;>intro ht)|fail)
  exact nx_ret1 rfl (rv_tmp rfl) (fun w' s' => ⟨rfl, s'.nil⟩)
end Go.Proofs.YtgeepceieckooaaGreatDoor
end

section
namespace Go.Ck
open Go
section
variable {P : Program} {n : Nat} {K : Bs} {F : List (Nat × Value)} {h : View} {L : List Res} {Q : Exit → Act → World → Prop}
variable {dst : Option Nat} {ty : Nat} {pos : String} {af : Array Edge} {gd : Option (Nat × Bool)}
theorem rx_copy {g : Rg} {i : Nat} {r : List (Nat × Oper)} {T T2 e : Nat} {x y : Operand} {b o dLen dCap sLen sCap by' : Nat} {a : Addr} {z : Value} {cs : Array Value} {e' : TypeId} {news : List Value} (k : Nat) [tu : TyU P T (.slice e)] [tb : TyB P e z 1 by']
    (hx : ev F x = some (.slice (some ⟨b, o, none⟩) dLen dCap)) (hy : ev F y = some (.slice (some a) sLen sCap)) (hk : L[k]? = some (Res.blk b (.cells cs e' (0, 0)))) (hsrc : Cells h L a news) (hnl : news.length = min sLen dLen)
    (hfit : o + news.length ≤ cs.size) (h1 : ∀ u ∈ news, u.oneCell' = true) {cs' : List Value} (hcs : spl cs.toList o news = cs')
    (hw : wantedF g.ops F ⟨dst, .call ⟨.builtin .copy, #[x, y], #[T, T2]⟩, ty, pos, af, gd⟩ = some true) (hd : okd n dst = true) (hl : g.lo i = true) (o1 : Owe g i h L) (o2 : Owe g i h (L.set k (Res.blk b (.cells cs'.toArray e' (0, 0)))))
    (hn : RX P n K g r (putF dst (.int .i64 news.length) F) h (L.set k (Res.blk b (.cells cs'.toArray e' (0, 0)))) Q) : RX P n K g ((i, ⟨dst, .call ⟨.builtin .copy, #[x, y], #[T, T2]⟩, ty, pos, af, gd⟩) :: r) F h L Q := by
  unfold RX at *
  intro ac w f s
  subst hcs
  obtain ⟨inf, hi, _, hsize, _⟩ := tb.ex
  have hb : w.heap[b]? = some (.cells cs e' (0, 0)) := s.hd.own _ (List.mem_of_getElem? hk)
  have hs1 : (P.info? e).map (·.size) = some 1 := by rw [hi]; simp [hsize]
  have hrun := run_copy_row (P := P) w T T2 ty e b o dLen dCap a sLen sCap cs e' news tu.u hs1 hb hnl (hsrc w s.hd) hfit h1
  have hex : (execOp ac.eval ⟨dst, .call ⟨.builtin .copy, #[x, y], #[T, T2]⟩, ty, pos, af, gd⟩).run P w = .ok (.value (.int .i64 news.length)) (w.setRow b (spl cs.toList o news).toArray) := by
    simp [execOp, resolve, invoke, builtin, f.ev hx, f.ev hy, hrun, goInt, spl]
  have s' : St K h (L.set k (Res.blk b (.cells (spl cs.toList o news).toArray e' (0, 0)))) (w.setRow b (spl cs.toList o news).toArray) :=
    s.writeAt hk rfl rfl rfl (by simp) (by simp) (fun j hj => setRow_other w b j _ hj) (setRow_heap w b cs _ e' _ hb)
  refine .inr (.inr ⟨wantedF_ok f hw, hl, o1.out s, ?_⟩)
  unfold Oper.wp
  rw [hex]
  exact ⟨o2.out s', hn _ _ (f.put hd _) s'⟩
theorem qv_slice_arr_from {T len e k b o : Nat} {x y : Operand} {i : Nat} {ki : IntKind} [tu : TyU P T (.array len e)] [ts : TyS P e k] (hx : ev F x = some (.pointer (some ⟨b, o, none⟩))) (hy : ev F y = some (.int ki (i : Int))) (hi : i < len) :
    QV P n F h L ⟨dst, .slice T x (some y) none none, ty, pos, af, gd⟩ (.slice (some ⟨b, o + i * k, none⟩) (len - i) (len - i)) := .mk fun a w f s => by
  have h1 : (i : Int) ≤ (len : Int) := by omega
  have h2 : ¬ len = i := by omega
  have h3 : i ≤ len := by omega
  simp [execOp, f.ev hx, f.ev hy, Instr.sliceAt, Instr.sureAddr, Instr.sliceBounds, Instr.sliceBound, asIntOf, run_underlying tu.u, h1, h2, h3, ts.s, Addr.add_off]
theorem qv_slice_arr_to {T len e k b o : Nat} {x y : Operand} {j : Nat} {kj : IntKind} [tu : TyU P T (.array len e)] [ts : TyS P e k] (hx : ev F x = some (.pointer (some ⟨b, o, none⟩))) (hy : ev F y = some (.int kj (j : Int))) (hj : j ≤ len) :
    QV P n F h L ⟨dst, .slice T x none (some y) none, ty, pos, af, gd⟩ (.slice (some ⟨b, o, none⟩) j len) := .mk fun a w f s => by
  have h1 : (j : Int) ≤ (len : Int) := by omega
  simp [execOp, f.ev hx, f.ev hy, Instr.sliceAt, Instr.sureAddr, Instr.sliceBounds, Instr.sliceBound, asIntOf, run_underlying tu.u, h1, hj, ts.s, Addr.add_off]
theorem qv_slice_arr {T len e k b o : Nat} {x : Operand} [tu : TyU P T (.array len e)] [ts : TyS P e k] (hx : ev F x = some (.pointer (some ⟨b, o, none⟩))) :
    QV P n F h L ⟨dst, .slice T x none none none, ty, pos, af, gd⟩ (.slice (some ⟨b, o, none⟩) len len) := .mk fun a w f s => by
  simp [execOp, f.ev hx, Instr.sliceAt, Instr.sureAddr, Instr.sliceBounds, run_underlying tu.u, ts.s, Addr.add_off]
theorem qv_slice_arr_ij {T len e k b o : Nat} {x y z : Operand} (i j : Nat) {i' j' : Int} {ki kj : IntKind} [tu : TyU P T (.array len e)] [ts : TyS P e k] (hx : ev F x = some (.pointer (some ⟨b, o, none⟩))) (hy : ev F y = some (.int ki i')) (hz : ev F z = some (.int kj j')) (hi : i' = (i : Int)) (hj : j' = (j : Int)) (hij : i ≤ j) (hl : j ≤ len) (hil : i < len) :
    QV P n F h L ⟨dst, .slice T x (some y) (some z) none, ty, pos, af, gd⟩ (.slice (some ⟨b, o + i * k, none⟩) (j - i) (len - i)) := .mk fun a w f s => by
  subst hi hj
  have h1 : (i : Int) ≤ (j : Int) := by omega
  have h2 : ¬ len = i := by omega
  have h3 : (j : Int) ≤ (len : Int) := by omega
  simp [execOp, f.ev hx, f.ev hy, f.ev hz, Instr.sliceAt, Instr.sureAddr, Instr.sliceBounds, Instr.sliceBound, asIntOf, run_underlying tu.u, h1, h2, h3, hij, hl, ts.s, Addr.add_off]
theorem cx_rowsl {c : Code} {e : TypeId} {sz m : Nat} {v : Value} {xs : List Value} (k : Nat) (hk : L[k]? = some (Res.row e sz v m xs)) (h2 : ∀ ad cap, v = .slice ad m cap → CX P n K c F h L Q) : CX P n K c F h L Q := by
  unfold CX at *
  intro a w f s
  have ho : w.ownsRow 0 e sz v m xs := s.hd.own _ (List.mem_of_getElem? hk)
  rcases ho.2 with ⟨q1, q2⟩ | ⟨g, cap, cur, q1, _⟩
  · exact h2 none 0 (by rw [q1, q2]) a w f s
  · exact h2 _ cap q1 a w f s
theorem rx_rowsl {g : Rg} {prs : List (Nat × Oper)} {e : TypeId} {sz m : Nat} {v : Value} {xs : List Value} (k : Nat) (hk : L[k]? = some (Res.row e sz v m xs)) (h2 : ∀ ad cap, v = .slice ad m cap → RX P n K g prs F h L Q) : RX P n K g prs F h L Q := by
  unfold RX at *
  intro a w f s
  have ho : w.ownsRow 0 e sz v m xs := s.hd.own _ (List.mem_of_getElem? hk)
  rcases ho.2 with ⟨q1, q2⟩ | ⟨g, cap, cur, q1, _⟩
  · exact h2 none 0 (by rw [q1, q2]) a w f s
  · exact h2 _ cap q1 a w f s
theorem cells_view {b : Nat} {cs : Array Value} {e : TypeId} {fz : Nat × Nat} (hb : h b = some (.cells cs e fz)) : Cells h L ⟨b, 0, none⟩ cs.toList := fun w s j u hj => by
  have hb : w.heap[b]? = some (.cells cs e fz) := s.view b _ hb
  rw [Addr.add_off]
  simp [World.cell?, hb]
  simpa using hj
theorem qv_arrptr {T n' e : Nat} {x : Operand} {ad : Option Addr} {len cap : Nat} [tu : TyU P T (.array n' e)] (hx : ev F x = some (.slice ad len cap)) (hn : n' ≤ len) : QV P n F h L ⟨dst, .sliceToArrayPointer T x, ty, pos, af, gd⟩ (.pointer ad) := .mk fun a w f s => by
  have h1 : ¬ len < n' := by omega
  simp [execOp, f.ev hx, Instr.arrayAt, run_underlying tu.u, h1]
end
end Go.Ck
end

section
namespace Go.Ck
open Go
section
variable {P : Program} {n : Nat} {K : Bs} {F : List (Nat × Value)} {h : View} {L : List Res} {Q : Exit → Act → World → Prop}
theorem row_view {e : TypeId} {sz m : Nat} {v : Value} {xs : List Value} {w : World} (s : St K h L w) {k : Nat} (hk : L[k]? = some (Res.row e sz v m xs)) : ∃ h', Le h h' ∧ Sc h' sz v m xs ∧ St ⟨w, h', []⟩ h' [] w := by
  have ho : w.ownsRow 0 e sz v m xs := s.hd.own _ (List.mem_of_getElem? hk)
  rcases ho.2 with ⟨rfl, h0⟩ | ⟨g, cap, cur, rfl, _, hg, hn, hm, hs, ht⟩
  · subst h0
    have hx : xs = [] := List.eq_nil_of_length_eq_zero (by rw [ho.1]; simp)
    subst hx
    exact ⟨h, Le.refl h, Sc.nil h sz none 0, St.start (L := []) ⟨s.hd.view, fun r hr => (by cases hr)⟩ (by simp [doms]) (fun b hb => (by simp [doms] at hb))⟩
  · have hb0 : h g = none := s.dis g (mem_doms.2 ⟨_, List.mem_of_getElem? hk, by simp [Res.row, Value.ownBlock]⟩)
    refine ⟨addV h g (.cells cur e (0, 0)), Le.addV hb0, ⟨ho.1, some ⟨g, 0, none⟩, cap, rfl, hn, .inr ⟨g, 0, cur, e, (0, 0), rfl, addV_same, fun j u hj => ?_⟩⟩,
      St.start (L := []) ⟨fun b o hb => ?_, fun r hr => (by cases hr)⟩ (by simp [doms]) (fun b hb => (by simp [doms] at hb))⟩
    · rw [← ht, List.getElem?_take] at hj
      split at hj
      · simpa using hj
      · cases hj
    · unfold addV at hb
      split at hb
      · rename_i e; subst e; cases hb; exact hg
      · exact s.hd.view b o hb
theorem st_lower {h h' : View} {w w' : World} (hh : Hd h [] w') (s : St ⟨w, h', []⟩ h' [] w') : St ⟨w, h, []⟩ h [] w' :=
  ⟨s.os, s.tape, s.output, s.drawn, s.size, s.keep, hh, s.nd, s.src, Le.refl h, fun _ _ hb => hb, fun b hb => (by simp [doms] at hb)⟩
theorem rx_call_lend {g : Rg} {i : Nat} {dst : Option Nat} {op : Op} {ty : Nat} {pos : String} {af : Array Edge} {gd : Option (Nat × Bool)} {r : List (Nat × Oper)} {fn : FuncId} {args : Array Value} {u : Value} {e : TypeId} {sz m : Nat} {v : Value} {xs : List Value} (k : Nat) (hc : CallOf P n F ⟨dst, op, ty, pos, af, gd⟩ fn args)
    (hk : L[k]? = some (Res.row e sz v m xs))
    (hsp : ∀ h', Le h h' → Sc h' sz v m xs → ∀ w, St ⟨w, h', []⟩ h' [] w → Calls P fn args w fun e w' => e = .returned u ∧ St ⟨w, h', []⟩ h' [] w')
    (hw : wantedF g.ops F ⟨dst, op, ty, pos, af, gd⟩ = some true) (hd : okd n dst = true) (hl : g.lo i = true) (h1 : Owe g i h L)
    (hx : RX P n K g r (putF dst u F) h L Q) : RX P n K g ((i, ⟨dst, op, ty, pos, af, gd⟩) :: r) F h L Q := by
  unfold RX at *
  unfold CallOf at hc
  exact fun a w f s => .inr (.inr ⟨wantedF_ok f hw, hl, h1.imp (fun k => k w s.hd) id, by
    unfold Oper.wp
    rw [hc a w f]
    obtain ⟨h', hle, hsc, s0⟩ := row_view s hk
    refine (hsp h' hle hsc w s0).mono fun e w' he => ?_
    obtain ⟨rfl, st⟩ := he
    have s' := St.leave (Li := []) (Lr := L) s (st_lower ⟨fun b o hb => st.hd.view b o (hle b o hb), fun r hr => (by cases hr)⟩ st)
    exact ⟨h1.imp (fun k => k _ s'.hd) id, hx _ _ (f.put hd _) s'⟩⟩)
theorem qv_nilCheck {dst : Option Nat} {ty : Nat} {pos : String} {af : Array Edge} {gd : Option (Nat × Bool)} {x : Operand} {ad : Addr} (hx : ev F x = some (.pointer (some ad))) : QV P n F h L ⟨dst, .nilCheck x, ty, pos, af, gd⟩ (.pointer (some ad)) := .mk fun a w f s => by
  simp [execOp, f.ev hx]
end
end Go.Ck
end

section
namespace Go.Ck
open Go
section
variable {P : Program} {n : Nat} {K : Bs} {F : List (Nat × Value)} {h : View} {L : List Res} {Q : Exit → Act → World → Prop}
variable {dst : Option Nat} {ty : Nat} {pos : String} {af : Array Edge} {gd : Option (Nat × Bool)}
theorem spl_len {xs vs : List Value} {o : Nat} (hf : o + vs.length ≤ xs.length) : (spl xs o vs).length = xs.length := by
  unfold spl
  simp only [List.length_append, List.length_take, List.length_drop]
  omega
theorem spl_take {xs vs : List Value} {o m : Nat} (hf : o + vs.length ≤ m) (hm : m ≤ xs.length) : (spl xs o vs).take m = spl (xs.take m) o vs := by
  unfold spl
  have h1 : (xs.take o).length = o := by simp; omega
  rw [List.take_take, Nat.min_eq_left (by omega), List.drop_take, List.append_assoc, List.append_assoc, List.take_append, h1, List.take_append]
  rw [List.take_of_length_le (by rw [h1]; omega), List.take_of_length_le (l := vs) (by omega)]
  congr 3
  omega
theorem rx_rowstore {g : Rg} {i : Nat} {r : List (Nat × Oper)} {T e : Nat} {x y : Operand} {b o sz sz' m cap : Nat} {v : Value} {xs : List Value} (k : Nat) [ts : TyS P T sz'] (hx : ev F x = some (.pointer (some ⟨b, o, none⟩))) (hy : ev F y = some v)
    (hk : L[k]? = some (Res.row e sz (.slice (some ⟨b, 0, none⟩) m cap) m xs)) (hsz : v.cells.size = sz') (hfit : o + v.cells.size ≤ m * sz) (h1 : v.cells.toList.all Value.oneCell' = true) {xs' : List Value} (hcs : spl xs o v.cells.toList = xs')
    (hw : wantedF g.ops F ⟨none, .store T x y, ty, pos, af, gd⟩ = some true) (hl : g.lo i = true) (o1 : Owe g i h L) (o2 : Owe g i h (L.set k (Res.row e sz (.slice (some ⟨b, 0, none⟩) m cap) m xs')))
    (hn : RX P n K g r F h (L.set k (Res.row e sz (.slice (some ⟨b, 0, none⟩) m cap) m xs')) Q) : RX P n K g ((i, ⟨none, .store T x y, ty, pos, af, gd⟩) :: r) F h L Q := by
  unfold RX at *
  intro a w f s
  subst hcs
  have h1 : ∀ u ∈ v.cells.toList, u.oneCell' = true := fun u hu => List.all_eq_true.1 h1 u hu
  have ho : w.ownsRow 0 e sz (.slice (some ⟨b, 0, none⟩) m cap) m xs := s.hd.own _ (List.mem_of_getElem? hk)
  obtain ⟨q0, q1 | ⟨g', cap', cur, q1, q2, q3, q4, q5, q6, q7⟩⟩ := ho
  · cases q1.1
  cases q1
  have hvl : v.cells.toList.length = v.cells.size := by simp
  have hms : m * sz ≤ cap * sz := Nat.mul_le_mul_right _ q4
  have hb : w.heap[b]? = some (.cells cur e (0, 0)) := q3
  have hrun : (execOp a.eval ⟨none, .store T x y, ty, pos, af, gd⟩).run P w = .ok .skip (w.setRow b (spl cur.toList o v.cells.toList).toArray) := by
    have hst := run_storeCells_at P b o e v.cells.toList 0 cur w hb (by simp; omega) h1
    simp only [Nat.add_zero] at hst
    simp [execOp, f.ev hx, f.ev hy, Instr.storeAt, Instr.sureAddr, storeVar, ts.s, hsz, hst, spl]
  have s' : St K h (L.set k (Res.row e sz (.slice (some ⟨b, 0, none⟩) m cap) m (spl xs o v.cells.toList))) (w.setRow b (spl cur.toList o v.cells.toList).toArray) := by
    refine s.swap hk rfl rfl rfl (by simp) (by simp) (fun j hj hjd => setRow_other w b j _ (fun e' => hjd ?_)) ⟨?_, .inr ⟨b, cap, _, rfl, Nat.zero_le _, setRow_heap w b cur _ e _ hb, q4, q5, ?_, ?_⟩⟩ ?_ (fun x hx => .inl ?_)
    · simp [Res.row, Value.ownBlock, e']
    · rw [spl_len (by rw [q0]; omega), q0]
    · simp only [List.size_toArray]
      rw [spl_len (by simp; omega)]
      simp [q6]
    · rw [← q7]
      exact spl_take (by omega) (by simp; omega)
    · simp [Res.row, Value.ownBlock]
    · have hx : x = b := by simpa [Res.row, Value.ownBlock] using hx
      subst hx
      simp [Res.row, Value.ownBlock]
  refine .inr (.inr ⟨wantedF_ok f hw, hl, o1.out s, ?_⟩)
  unfold Oper.wp
  rw [hrun]
  exact ⟨o2.out s', hn _ _ f s'⟩
def Res.part (g off : Nat) (v : Value) (vs : List Value) : Res where
  dom := [g]
  sat := fun w => ∀ j u, (v :: vs)[j]? = some u → w.cell? ⟨g, off + j, none⟩ = some u
  loc := fun w w' hh hs j u hj => by
    have := hs j u hj
    simp only [World.cell?] at this ⊢
    rw [hh g (by simp)]
    exact this
  lt := fun w hs b hb => by
    have hb : b = g := by simpa using hb
    subst hb
    have := hs 0 v rfl
    simp only [World.cell?] at this
    cases hg : w.heap[b]? with
    | none => rw [hg] at this; simp at this
    | some o => exact (Array.getElem?_eq_some_iff.1 hg).1
theorem part_cells {g off : Nat} {v : Value} {vs : List Value} (k : Nat) (hk : L[k]? = some (Res.part g off v vs)) : Cells h L ⟨g, off, none⟩ (v :: vs) := fun w s j u hj => by
  rw [Addr.add_off]
  exact s.own _ (List.mem_of_getElem? hk) j u hj
theorem rx_call_2 {g : Rg} {i : Nat} {dst : Option Nat} {op : Op} {ty : Nat} {pos : String} {af : Array Edge} {gd : Option (Nat × Bool)} {r : List (Nat × Oper)} {fn : FuncId} {args : Array Value} {X : Type} {v : X → Value} {hh : X → View} {LL : X → List Res} {p : X → Prop} {R1 R2 : Res} {Lr : List Res} (hc : CallOf P n F ⟨dst, op, ty, pos, af, gd⟩ fn args)
    (hsp : ∀ w, St ⟨w, h, doms [R1, R2]⟩ h [R1, R2] w → Calls P fn args w fun e w' => ∃ x, e = .returned (v x) ∧ St ⟨w, h, doms [R1, R2]⟩ (hh x) (LL x) w' ∧ p x)
    (hw : wantedF g.ops F ⟨dst, op, ty, pos, af, gd⟩ = some true) (hd : okd n dst = true) (hl : g.lo i = true) (h1 : Owe g i h (R1 :: R2 :: Lr)) (h2 : ∀ x, p x → Le h (hh x) → Owe g i (hh x) (LL x ++ Lr))
    (hx : ∀ x, p x → Le h (hh x) → RX P n K g r (putF dst (v x) F) (hh x) (LL x ++ Lr) Q) : RX P n K g ((i, ⟨dst, op, ty, pos, af, gd⟩) :: r) F h (R1 :: R2 :: Lr) Q := by
  unfold RX at *
  unfold CallOf at hc
  exact fun a w f s => .inr (.inr ⟨wantedF_ok f hw, hl, h1.imp (fun k => k w s.hd) id, by
    unfold Oper.wp
    rw [hc a w f]
    have s1 : St K h ([R1, R2] ++ Lr) w := s
    refine (hsp w (St.enter (Li := [R1, R2]) (Lr := Lr) s1)).mono fun e w' he => ?_
    obtain ⟨x, rfl, st, px⟩ := he
    have s' := St.leave (Li := [R1, R2]) (Lr := Lr) s1 st
    have hle : Le h (hh x) := st.grow
    exact ⟨(h2 x px hle).imp (fun k => k _ s'.hd) id, hx x px hle _ _ (f.put hd _) s'⟩⟩)
theorem st_lowerx {h h' : View} {w w' : World} {Lo : List Res} (hh : Hd h [] w') (hle : Le h h') (s : St ⟨w, h', []⟩ h' Lo w') : St ⟨w, h, []⟩ h Lo w' :=
  ⟨s.os, s.tape, s.output, s.drawn, s.size, s.keep, ⟨hh.view, s.hd.own⟩, s.nd, s.src, Le.refl h, fun _ _ hb => hb, fun b hb => by
    have := s.dis b hb
    cases hx : h b with
    | none => rfl
    | some o => rw [hle b o hx] at this; cases this⟩
theorem rx_call_lendx {g : Rg} {i : Nat} {dst : Option Nat} {op : Op} {ty : Nat} {pos : String} {af : Array Edge} {gd : Option (Nat × Bool)} {r : List (Nat × Oper)} {fn : FuncId} {args : Array Value} {X : Type} {u : X → Value} {LL : X → List Res} {e : TypeId} {sz m : Nat} {v : Value} {xs : List Value} (k : Nat) (hc : CallOf P n F ⟨dst, op, ty, pos, af, gd⟩ fn args)
    (hk : L[k]? = some (Res.row e sz v m xs))
    (hsp : ∀ h', Le h h' → Sc h' sz v m xs → ∀ w, St ⟨w, h', []⟩ h' [] w → Calls P fn args w fun e w' => ∃ x, e = .returned (u x) ∧ St ⟨w, h', []⟩ h' (LL x) w' ∧ True)
    (hw : wantedF g.ops F ⟨dst, op, ty, pos, af, gd⟩ = some true) (hd : okd n dst = true) (hl : g.lo i = true) (h1 : Owe g i h L) (h2 : ∀ x, Owe g i h (LL x ++ L))
    (hx : ∀ x, RX P n K g r (putF dst (u x) F) h (LL x ++ L) Q) : RX P n K g ((i, ⟨dst, op, ty, pos, af, gd⟩) :: r) F h L Q := by
  unfold RX at *
  unfold CallOf at hc
  exact fun a w f s => .inr (.inr ⟨wantedF_ok f hw, hl, h1.imp (fun k => k w s.hd) id, by
    unfold Oper.wp
    rw [hc a w f]
    obtain ⟨h', hle, hsc, s0⟩ := row_view s hk
    refine (hsp h' hle hsc w s0).mono fun e w' he => ?_
    obtain ⟨x, rfl, st, _⟩ := he
    have s' := St.leave (Li := []) (Lr := L) s (st_lowerx ⟨fun b o hb => st.hd.view b o (hle b o hb), fun r hr => (by cases hr)⟩ hle st)
    exact ⟨(h2 x).imp (fun k => k _ s'.hd) id, hx x _ _ (f.put hd _) s'⟩⟩)
end
end Go.Ck
end

section
namespace Go.Proofs.YtgeepceieckooaaGreatDoor
open Go Go.Ck
set_option maxHeartbeats 1000000
def bcs (l : List Int) : List Value := l.map (Value.int .u8)
abbrev Bs8 (h : View) (v : Value) (l : List Int) : Prop := Sc h 1 v l.length (bcs l)
abbrev rowB (v : Value) (l : List Int) : Res := Res.row 5 1 v l.length (bcs l)
theorem bcs_len (l : List Int) : (bcs l).length = l.length := by simp [bcs]
theorem bcs_one (l : List Int) : ∀ u ∈ bcs l, u.oneCell' = true := fun u hu => by
  obtain ⟨x, _, rfl⟩ := List.mem_map.1 hu
  rfl
theorem bcs_app (l m : List Int) : bcs (l ++ m) = bcs l ++ bcs m := by simp [bcs]
theorem qv_shr {P : Program} {n : Nat} {F : List (Nat × Value)} {h : View} {L : List Res} {dst : Option Nat} {ty : Nat} {pos : String} {af : Array Edge} {gd : Option (Nat × Bool)} {T T' : Nat} {x y : Operand} {k k' : IntKind} {i r : Int} {j : Nat} (hx : ev F x = some (.int k i)) (hy : ev F y = some (.int k' j)) (hr : i.fdiv (2 ^ j) = r) (hj : j < k.bits) :
    QV P n F h L ⟨dst, .binOp .shr T x y T', ty, pos, af, gd⟩ (.int k r) := by
  subst hr
  refine .mk fun a w f s => ?_
  have h0 : ¬ ((j : Int) < 0) := by omega
  have h1 : min j k.bits = j := by omega
  have hg : (eqGuard .shr T x y (.int k i) (.int k' j)).run P w = .ok () w := by simp [eqGuard]
  simp [execOp, f.ev hx, f.ev hy, hg, binOp, Op.shift, h0, h1]
theorem qv_minb {P : Program} {n : Nat} {F : List (Nat × Value)} {h : View} {L : List Res} {dst : Option Nat} {ty : Nat} {pos : String} {af : Array Edge} {gd : Option (Nat × Bool)} {ts : Array TypeId} {x y : Operand} {k : IntKind} {i j r : Int} (hx : ev F x = some (.int k i)) (hy : ev F y = some (.int k j)) (hr : (if j < i then j else i) = r) :
    QV P n F h L ⟨dst, .call ⟨.builtin .min, #[x, y], ts⟩, ty, pos, af, gd⟩ (.int k r) := by
  subst hr
  exact .mk fun a w f s => by simp [execOp, resolve, invoke, builtin, Builtin.min_, f.ev hx, f.ev hy, Builtin.min2]
def putLow : Nat → Int → List Int
  | 0, _ => []
  | k + 1, x => (x % 256) :: putLow k (x / 256)
theorem putLow_len : ∀ (k : Nat) (x : Int), (putLow k x).length = k
  | 0, _ => rfl
  | k + 1, x => by simp [putLow, putLow_len k]
theorem putLow_succ : ∀ (k : Nat) (x : Int), putLow (k + 1) x = putLow k x ++ [x / 256 ^ k % 256]
  | 0, x => by simp [putLow]
  | k + 1, x => by
    have := putLow_succ k (x / 256)
    rw [putLow, this, putLow]
    simp only [List.cons_append, List.cons.injEq, true_and, List.append_cancel_left_eq, List.cons.injEq, and_true]
    congr 1
    rw [Int.ediv_ediv_of_nonneg (by decide), Int.pow_succ, Int.mul_comm]
theorem divp_bd {x : Int} {k : Nat} (hx : 0 ≤ x ∧ x < 18446744073709551616) : 0 ≤ x / 256 ^ k ∧ x / 256 ^ k < 18446744073709551616 := by
  have hp : (0 : Int) < 256 ^ k := Int.pow_pos (by decide)
  refine ⟨Int.ediv_nonneg hx.1 (by omega), ?_⟩
  have := Int.ediv_le_self (256 ^ k) hx.1
  omega
theorem divp_succ (x : Int) (k : Nat) : (x / 256 ^ k).fdiv (2 ^ 8) = x / 256 ^ (k + 1) := by
  have e : (2 : Int) ^ 8 = 256 := by decide
  rw [e, Int.fdiv_eq_ediv_of_nonneg _ (by decide), Int.ediv_ediv_of_nonneg (Int.le_of_lt (Int.pow_pos (by decide))), Int.pow_succ]
theorem wrap_u8 (x : Int) : IntKind.u8.wrap x = x % 256 := by
  simp [IntKind.wrap, IntKind.bits, IntKind.signed]
theorem PutLow_sp (x : Int) (m : Nat) (hx : 0 ≤ x ∧ x < 18446744073709551616) (hm : m ≤ 64) (h : View) (w : World) (s : St ⟨w, h, []⟩ h [] w) :
    Calls Tryz.prog 102 [.int .u64 x, .int .i64 m].toArray w fun e w' => ∃ v, e = .returned v ∧ St ⟨w, h, []⟩ h [rowB v (putLow m x)] w' ∧ True := by
  refine calls_enter Tryz.func102 rfl Tryz.ntmps102 rfl s ?_
  have hj : (if (64 : Int) < (m : Int) then (64 : Int) else (m : Int)) = (m : Int) := by split<;>omega
  repeat' (first|refine zw7 ?_|(refine ta_ ?_;intro _)|(refine zk0 ?_ ?_<;>intro ht)|fail)
  refine cx_row 5 1 ?_
  refine cx_loop (X := Nat × Value) (fun y => [(0, .int .u64 (x / 256 ^ y.1)), (5, y.2), (7, .int .i64 m), (8, .int .i64 y.1)]) (fun _ => h) (fun y => [Res.row 5 1 y.2 y.1 (bcs (putLow y.1 x))]) (fun y => y.1 ≤ m) (fun y => m - y.1) (0, .slice none 0 0) (Nat.zero_le _) ?_ (fun _ s => s) ?_
  · refine Sub.cons rfl ?_ ts_
    simp
  rintro ⟨k, v⟩ hk
  replace hk : k ≤ m := hk
  dsimp only
  by_cases hkm : k < m
  · have hb := divp_bd (k := k) hx
    have hs := divp_succ x k
    have hw := wrap_u8 (x / 256 ^ k)
    repeat' (first|refine zw8 ?_|(refine ta_ ?_;intro _)|(refine zk0 ?_ ?_<;>intro ht)|fail)
    · refine rx_append (sz := 1) 1 rfl rfl rfl (yaz 0 rfl) rfl (bcs_one [x / 256 ^ k % 256]) rfl (by omega) (by unfold maxLen; omega) (by omega) rfl rfl rfl ybf (fun _ => ybf) ?_
      intro v2 _
      repeat' (first|refine zw8 ?_|(refine ta_ ?_;intro _)|(refine zk0 ?_ ?_<;>intro ht)|fail)
      refine nx_round (k + 1, v2) (by show k + 1 ≤ m; omega) (by show m - (k + 1) < m - k; omega) ts_ (fun _ s => ?_)
      dsimp only
      rw [putLow_succ, bcs_app]
      exact s.tl
    · omega
  · have ek : k = m := by omega
    subst ek
    repeat' (first|refine zw8 ?_|(refine ta_ ?_;intro _)|(refine zk0 ?_ ?_<;>intro ht)|fail)
    · omega
    refine nx_ret1 rfl (rv_tmp rfl) (fun w' s' => ⟨_, rfl, ?_, trivial⟩)
    unfold rowB
    rw [putLow_len]
    exact s'
theorem Int_sp (x : Int) (hx : 0 ≤ x ∧ x < 18446744073709551616) (h : View) (w : World) (s : St ⟨w, h, []⟩ h [] w) :
    Calls Tryz.prog 98 [.int .u64 x].toArray w fun e w' => e = .returned (.tuple #[.int .i64 (if x < 9223372036854775808 then x else 0), .bool (decide (x < 9223372036854775808))]) ∧ St ⟨w, h, []⟩ h [] w' := by
  refine calls_enter Tryz.func98 rfl Tryz.ntmps98 rfl s ?_
  obtain ⟨r, hw⟩ : ∃ r, IntKind.i64.wrap x = r := ⟨_, rfl⟩
  have hr : (x < 9223372036854775808 → r = x) ∧ (¬ x < 9223372036854775808 → r < 0) := by
    rw [← hw, IntKind.wrap_i64]
    constructor <;> intro _ <;> omega
  repeat' (first|refine zw9 ?_|(refine ta_ ?_;intro _)|(refine zk0 ?_ ?_<;>intro ht)|fail)
  · have hq := ht
    have hx2 : x < 9223372036854775808 := Decidable.byContradiction fun hn => by have := hr.2 hn; omega
    refine nx_ret2 rfl (rv_tmp rfl) (rv_tmp rfl) (fun w' s' => ⟨?_, s'.nil⟩)
    rw [decide_eq_true hx2, if_pos hx2, hr.1 hx2]
  · have hq := ht
    have hx2 : ¬ x < 9223372036854775808 := fun hn => by have := hr.1 hn; omega
    refine nx_ret2 rfl (rv_tmp rfl) (rv_tmp rfl) (fun w' s' => ⟨?_, s'.nil⟩)
    rw [decide_eq_false hx2, if_neg hx2]
def rvK (l : List Int) (i : Nat) : List Int := (List.range l.length).map fun t => if t < i ∨ l.length - i ≤ t then l.getD (l.length - 1 - t) 0 else l.getD t 0
theorem rvK_len (l : List Int) (i : Nat) : (rvK l i).length = l.length := by simp [rvK]
theorem rvK_at {l : List Int} {i t : Nat} (ht : t < l.length) : (rvK l i)[t]'(by rw [rvK_len]; exact ht) = if t < i ∨ l.length - i ≤ t then l.getD (l.length - 1 - t) 0 else l.getD t 0 := by
  simp [rvK]
theorem rvK_zero (l : List Int) : rvK l 0 = l := by
  refine List.ext_getElem (rvK_len l 0) fun t h1 h2 => ?_
  rw [rvK_at h2, if_neg (by omega)]
  simp [h2]
theorem rvK_end {l : List Int} {i : Nat} (hi : l.length ≤ 2 * i + 1) : rvK l i = l.reverse := by
  refine List.ext_getElem (by rw [rvK_len]; simp) fun t h1 h2 => ?_
  have ht : t < l.length := by simpa using h2
  rw [rvK_at ht, List.getElem_reverse]
  have e : l.getD (l.length - 1 - t) 0 = l[l.length - 1 - t]'(by omega) := by simp [show l.length - 1 - t < l.length by omega]
  split
  · exact e
  · rename_i hn
    have : l.length - 1 - t = t := by omega
    rw [← e, this]
theorem rvK_step {l : List Int} {i : Nat} (hi : 2 * i + 1 < l.length) : ((rvK l i).set i (l.getD (l.length - 1 - i) 0)).set (l.length - 1 - i) (l.getD i 0) = rvK l (i + 1) := by
  refine List.ext_getElem (by simp [rvK_len]) fun t h1 h2 => ?_
  have ht : t < l.length := by rw [rvK_len] at h2; exact h2
  rw [List.getElem_set, rvK_at ht]
  by_cases c1 : l.length - 1 - i = t
  · rw [if_pos c1, if_pos (by omega)]
    congr 1; omega
  · rw [if_neg c1, List.getElem_set]
    by_cases c2 : i = t
    · rw [if_pos c2, if_pos (by omega), c2]
    · rw [if_neg c2, rvK_at ht]
      by_cases c3 : t < i ∨ l.length - i ≤ t
      · rw [if_pos c3, if_pos (by omega)]
      · rw [if_neg c3, if_neg (by omega)]
theorem spl_byte {l : List Int} {o : Nat} {x : Int} (ho : o < l.length) : spl (bcs l) o (Value.int .u8 x).cells.toList = bcs (l.set o x) := by
  show (bcs l).take o ++ [Value.int .u8 x] ++ (bcs l).drop (o + 1) = bcs (l.set o x)
  unfold bcs
  rw [List.map_set, List.set_eq_take_append_cons_drop, if_pos (by simpa using ho)]
  simp
end Go.Proofs.YtgeepceieckooaaGreatDoor
end

section
namespace Go.Ck
open Go
section
variable {P : Program} {n : Nat} {K : Bs} {F : List (Nat × Value)} {h : View} {L : List Res} {Q : Exit → Act → World → Prop}
theorem wp_region_lexL {ops : Array Oper} {S : World → Prop} {lo : Nat → Bool} {id : Nat} {Q : Exit → Act → World → Prop} {a : Act} {w : World} (hm : P.follows .mixedOrders = true) (hB : lexOkAt ops (masks ops) lo (barOf ops) = true)
    (h : wpX P ops S lo (barOf ops) (Q .normal) (enumFrom 0 ops.toList) a w.drew) : (Code.region id ops true).wp P Q a w := by
  refine wp_region_any hm (lex_any hB _ (enumFrom 0 ops.toList) _ a _ (by simp [enumFrom_length]) ⟨?_, ?_, ?_, ?_, ?_⟩ h)
  · intro p hp
    obtain ⟨j, h1, h2⟩ := (enumFrom_mem _ _ _).1 hp
    have : p.1 = j := by omega
    rw [this]; simpa using h1
  · exact enumFrom_sorted _ _
  · intro i hi
    simp only [Array.getD_eq_getD_getElem?, Array.getElem?_replicate, hi, if_true, Option.getD_some, true_iff]
    exact ⟨ops[i], (enumFrom_mem _ _ _).2 ⟨i, by simp [hi], by simp⟩⟩
  · intro i o ho hl
    simp only [Array.getD_eq_getD_getElem?, Array.getElem?_replicate] at hl
    split at hl <;> simp at hl
  · simp
theorem cx_region_drawL {id : Nat} {ops : Array Oper} (LS : List Res) (ex : List Nat) (hm : P.follows .mixedOrders = true) (hB : lexOkAt ops (masks ops) (fun i => loOf ops i || ex.contains i) (barOf ops) = true)
    (hx : RX P n K ⟨ops, Hd h LS, fun i => loOf ops i || ex.contains i, barOf ops⟩ (enumFrom 0 ops.toList) F h L Q) : CX P n K (.region id ops true) F h L Q := by
  unfold CX
  unfold RX at hx
  exact fun a w f s => wp_region_lexL hm hB (hx a w.drew ⟨f.size, f.dfs, f.get⟩ s.drew)
end
end Go.Ck
namespace Go.Proofs.YtgeepceieckooaaGreatDoor
open Go Go.Ck
set_option maxHeartbeats 1000000
theorem byte_cell {h : View} {L : List Res} {g o i : Nat} {l : List Int} (c : Cells h L ⟨g, 0, none⟩ (bcs l)) (ho : o = 0 + i) (hi : i < l.length) : CellAt h L g o (.int .u8 (l.getD i 0)) := by
  rw [ho]
  exact c.cell (by simp [bcs, hi])
theorem byte_cellx {h : View} {L : List Res} {g o i : Nat} {l : List Int} {x : Int} (hx : l.getD i 0 = x) (c : Cells h L ⟨g, 0, none⟩ (bcs l)) (ho : o = 0 + i) (hi : i < l.length) : CellAt h L g o (.int .u8 x) := by
  rw [← hx]
  exact byte_cell c ho hi
theorem spl_byte' {l : List Int} {o t : Nat} {x : Int} (ho : o = t) (hi : t < l.length) : spl (bcs l) o (Value.int .u8 x).cells.toList = bcs (l.set t x) := by
  subst ho
  exact spl_byte hi
theorem Reverse_sp (g cap : Nat) (l : List Int) (hl : l.length ≤ 1000000) (h : View) (w : World) (s : St ⟨w, h, doms [rowB (.slice (some ⟨g, 0, none⟩) l.length cap) l]⟩ h [rowB (.slice (some ⟨g, 0, none⟩) l.length cap) l] w) :
    Calls Tryz.prog 103 [.slice (some ⟨g, 0, none⟩) l.length cap].toArray w fun e w' => ∃ x : Value, e = .returned x ∧ St ⟨w, h, doms [rowB (.slice (some ⟨g, 0, none⟩) l.length cap) l]⟩ h [rowB (.slice (some ⟨g, 0, none⟩) l.length cap) l.reverse] w' ∧ True := by
  refine calls_enter Tryz.func103 rfl Tryz.ntmps103 rfl s ?_
  repeat' (first|refine tw_ ?_|(refine ta_ ?_;intro _)|(refine zk0 ?_ ?_<;>intro ht)|fail)
  refine cx_loop (X := Nat) (fun i => [(0, .slice (some ⟨g, 0, none⟩) l.length cap), (2, .int .i64 i), (3, .int .i64 ((l.length : Int) - 1 - i))]) (fun _ => h) (fun i => [Res.row 5 1 (.slice (some ⟨g, 0, none⟩) l.length cap) l.length (bcs (rvK l i))]) (fun i => 2 * i ≤ l.length + 1) (fun i => l.length - i) 0 (by omega) ?_ (fun _ s => ?_) ?_
  · refine Sub.cons rfl rfl (Sub.cons rfl rfl (Sub.cons rfl ?_ Sub.nil))
    congr 1
    show (l.length : Int) - 1 = (l.length : Int) - 1 - ((0 : Nat) : Int)
    omega
  · rw [rvK_zero]; exact s
  intro i hi
  by_cases hil : 2 * i + 1 < l.length
  · have hk := rvK_len l i
    have hkk : ((l.length : Int) - 1 - (i : Int)).toNat = l.length - 1 - i := by omega
    have e1 : (rvK l i).getD i 0 = l.getD i 0 := by
      have := rvK_at (l := l) (i := i) (t := i) (by omega)
      rw [if_neg (by omega)] at this
      rw [List.getD_eq_getElem?_getD, List.getElem?_eq_getElem (by omega), this]; rfl
    have e2 : (rvK l i).getD (l.length - 1 - i) 0 = l.getD (l.length - 1 - i) 0 := by
      have := rvK_at (l := l) (i := i) (t := l.length - 1 - i) (by omega)
      rw [if_neg (by omega)] at this
      rw [List.getD_eq_getElem?_getD, List.getElem?_eq_getElem (by omega), this]; rfl
    have hij : i ≠ l.length - 1 - i := by omega
    have hpart : ∀ l2 : List Int, l2.length = l.length → l2.getD (l.length - 1 - i) 0 = l.getD (l.length - 1 - i) 0 → ∀ w, Hd h [Res.row 5 1 (.slice (some ⟨g, 0, none⟩) l.length cap) l.length (bcs l2)] w → Hd h [Res.part g (0 + ((l.length : Int) - 1 - (i : Int)).toNat * 1) (.int .u8 (l.getD (l.length - 1 - i) 0)) []] w := fun l2 hl2 hg w s => ⟨s.view, fun r hr => by
      have hr : r = Res.part g (0 + ((l.length : Int) - 1 - (i : Int)).toNat * 1) (.int .u8 (l.getD (l.length - 1 - i) 0)) [] := by simpa using hr
      subst hr
      intro j u hj
      cases j with
      | zero =>
        have hc := cell_at_out (byte_cell (h := h) (o := 0 + ((l.length : Int) - 1 - (i : Int)).toNat * 1 + 0) (row_cells 0 rfl) (i := l.length - 1 - i) (by omega) (by omega)) w s
        rw [hg] at hc
        have hu : u = .int .u8 (l.getD (l.length - 1 - i) 0) := by simpa using hj.symm
        rw [hu]; exact hc
      | succ j => simp at hj⟩
    have hs1 : ((rvK l i).set i (l.getD (l.length - 1 - i) 0)).getD (l.length - 1 - i) 0 = l.getD (l.length - 1 - i) 0 := by
      rw [List.getD_eq_getElem?_getD, List.getElem?_set_ne hij, ← List.getD_eq_getElem?_getD, e2]
    have hl1 : ((rvK l i).set i (l.getD (l.length - 1 - i) 0)).length = l.length := by rw [List.length_set, hk]
    have hnx : (l.length : Int) - 1 - (i : Int) - 1 = (l.length : Int) - 1 - ((i + 1 : Nat) : Int) := by omega
    repeat' (first|refine tw_ ?_|(refine ta_ ?_;intro _)|(refine zk0 ?_ ?_<;>intro ht)|fail)
    · refine cx_region_drawL [Res.part g (0 + ((l.length : Int) - 1 - (i : Int)).toNat * 1) (.int .u8 (l.getD (l.length - 1 - i) 0)) []] [11] rfl (by kernel_rfl) ?_
      repeat' (first|refine zw10 ?_|(refine ycf ?_;(first|(refine zg0 ?_ ?_<;>intro ht)|(refine tb_ ?_ ?_ ?_;(·exact zc3);(·intro _;(first|exact ybf|(refine .inl ?_;(first|exact fun w s => hpart _ hk e2 w s|exact fun w s => hpart _ hl1 hs1 w s))|exact to_));intro _)))|fail)
      repeat' (first|refine zw11 ?_|(refine ta_ ?_;intro _)|(refine zk0 ?_ ?_<;>intro ht)|fail)
      refine nx_round (i + 1) (by omega) (by omega) (Sub.cons rfl rfl (Sub.cons rfl rfl (Sub.cons rfl (congrArg (Value.int .i64) hnx) Sub.nil))) (fun _ s => ?_)
      rw [← rvK_step hil]
      exact s
    · omega
  · repeat' (first|refine zw11 ?_|(refine ta_ ?_;intro _)|(refine zk0 ?_ ?_<;>intro ht)|fail)
    · omega
    refine nx_end0 rfl (fun w' s' => ⟨_, rfl, ?_, trivial⟩)
    rw [← rvK_end (i := i) (by omega)]
    show St _ _ [Res.row 5 1 (.slice (some ⟨g, 0, none⟩) l.length cap) (rvK l i).length (bcs (rvK l i))] _
    rw [rvK_len]
    exact s'
end Go.Proofs.YtgeepceieckooaaGreatDoor
end

section
namespace Go.Proofs.YtgeepceieckooaaGreatDoor
open Go Go.Ck
set_option maxHeartbeats 1000000
theorem PutHigh_sp (x : Int) (m : Nat) (hx : 0 ≤ x ∧ x < 18446744073709551616) (h0 : 0 < m) (hm : m ≤ 64) (h : View) (w : World) (s : St ⟨w, h, []⟩ h [] w) :
    Calls Tryz.prog 88 [.int .u64 x, .int .i64 m].toArray w fun e w' => ∃ v, e = .returned v ∧ St ⟨w, h, []⟩ h [rowB v (putLow m x).reverse] w' ∧ True := by
  have hlen := putLow_len m x
  refine calls_enter Tryz.func88 rfl Tryz.ntmps88 rfl s ?_
  repeat' (first|refine tw_ ?_|(refine ta_ ?_;intro _)|(refine zk0 ?_ ?_<;>intro ht)|fail)
  (refine yco (ycp Tryz.func102 rfl (by kernel_rfl) rfl) (PutLow_sp x m hx hm h) rfl rfl rfl ?_ ?_ ?_; (· (exact to_)); (·exact zc148); intro x px hle)
  refine rx_rowform 0 rfl (fun _ h1 _ => (by omega)) ?_
  rintro g cap rfl
  repeat' (first|refine tw_ ?_|(refine ta_ ?_;intro _)|(refine zk0 ?_ ?_<;>intro ht)|fail)
  (refine rx_call_m (ycp Tryz.func103 rfl (by kernel_rfl) rfl) (perm_at (k := 0) rfl) (Reverse_sp g cap (putLow m x) (by omega) h) rfl rfl rfl ?_ ?_ ?_; (· (exact to_)); (·exact zc148); intro x px hle)
  repeat' (first|refine tw_ ?_|(refine ta_ ?_;intro _)|(refine zk0 ?_ ?_<;>intro ht)|fail)
  exact nx_ret1 rfl (rv_tmp rfl) (fun w' s' => ⟨_, rfl, s', trivial⟩)
theorem qv_eql_pnil {P : Program} {n : Nat} {F : List (Nat × Value)} {h : View} {L : List Res} {dst : Option Nat} {ty : Nat} {pos : String} {af : Array Edge} {gd : Option (Nat × Bool)} {T T' e : Nat} {x y : Operand} {ad : Addr} [tu : TyU P T (.pointer e)] (hx : ev F x = some (.pointer (some ad))) (hy : ev F y = some (.pointer none)) :
    QV P n F h L ⟨dst, .binOp .eql T x y T', ty, pos, af, gd⟩ (.bool false) := by
  refine .mk fun a w f s => ?_
  have hp : P.underlying T = some (.pointer (P.pointee T)) := by
    have := tu.u
    simp [Program.pointee, this]
  have hg : (eqGuard .eql T x y (.pointer (some ad)) (.pointer none)).run P w = .ok () w := by simp [eqGuard]
  have he := run_equal_pointer_nil (P := P) (w := w) T (some ad) hp
  simp only [execOp, f.ev hx, f.ev hy, Sem.run_bind, hg, Result.andThen_ok, binOp, he]
  rfl
abbrev outR (bo : Nat) (v : Value) (bad : Bool) : Res := Res.blk bo (.cells #[v, .bool bad] 102 (0, 0))
theorem wrap_u64 {n : Int} (h0 : 0 ≤ n) (h1 : n < 18446744073709551616) : IntKind.u64.wrap n = n := by
  simp [IntKind.wrap, IntKind.bits, IntKind.signed]; omega
theorem put_sp (bo : Nat) (v : Value) (l : List Int) (bad : Bool) (n : Int) (size : Nat) (ok : Bool) (hn : ok = true → 0 ≤ n) (hn2 : n < 9223372036854775808) (h0 : 0 < size) (hsz : size ≤ 64) (hl : l.length ≤ 1000000) (h : View) (w : World) (s : St ⟨w, h, doms [outR bo v bad, rowB v l]⟩ h [outR bo v bad, rowB v l] w) :
    Calls Tryz.prog 84 [.pointer (some ⟨bo, 0, none⟩), .int .i64 n, .int .i64 size, .bool ok].toArray w fun e w' => ∃ x : Value, e = .returned (.pointer (some ⟨bo, 0, none⟩)) ∧
      St ⟨w, h, doms [outR bo v bad, rowB v l]⟩ h [outR bo x (bad || !ok), rowB x (if ok then l ++ (putLow size n).reverse else l)] w' ∧ True := by
  refine calls_enter Tryz.func84 rfl Tryz.ntmps84 rfl s ?_
  cases ok with
  | false =>
    repeat' (first|refine zw12 ?_|(refine ta_ ?_;intro _)|(refine zk0 ?_ ?_<;>intro ht)|fail)
    refine nx_ret1 rfl (rv_tmp rfl) (fun w' s' => ⟨v, rfl, ?_, trivial⟩)
    rw [Bool.not_false, Bool.or_true]
    exact s'
  | true =>
    have hw := wrap_u64 (hn rfl) (by omega)
    have hlen := putLow_len size n
    repeat' (first|refine zw13 ?_|(refine ta_ ?_;intro _)|(refine zk0 ?_ ?_<;>intro ht)|fail)
    refine cx_region_draw [outR bo v bad] rfl (by kernel_rfl) ?_
    repeat' (first|refine zw14 ?_|(refine ycf ?_;(first|(refine zg0 ?_ ?_<;>intro ht)|(refine tb_ ?_ ?_ ?_;(·exact zc6);(·exact zc149);intro _)))|fail)
    (refine yco (ycp Tryz.func88 rfl (by kernel_rfl) rfl) (PutHigh_sp n size ⟨hn rfl, by omega⟩ h0 hsz h) rfl rfl rfl ?_ ?_ ?_;(·exact zc6);(·exact zc150);intro x px hle)
    refine rx_rowform 0 rfl (fun _ h1 _ => (by rw [List.length_reverse] at h1; omega)) ?_
    rintro g cap rfl
    repeat' (first|refine zw14 ?_|(refine ycf ?_;(first|(refine zg0 ?_ ?_<;>intro ht)|(refine tb_ ?_ ?_ ?_;(·exact zc6);(·exact zc149);intro _)))|fail)
    refine rx_append (sz := 1) 2 rfl rfl rfl (row_cells 0 rfl) (by rw [bcs_len, Nat.mul_one]) (bcs_one _) rfl (by omega) (by unfold maxLen; rw [List.length_reverse]; omega) (by rw [List.length_reverse]; omega) rfl rfl rfl ?_ ?_ ?_
    · (first|exact ybf|(refine .inl ?_;(first|exact fun _ s => Hd.sub s (Le.refl h) (fun r hr => List.mem_append_left [_] hr)|exact fun _ s => Hd.sub s (Le.refl h) (fun r hr => List.mem_cons_of_mem _ (List.mem_append_left [_] hr))))|exact to_)
    · intro v';(first|exact ybf|(refine .inl ?_;(first|exact fun _ s => Hd.sub s (Le.refl h) (fun r hr => List.mem_append_left [_] hr)|exact fun _ s => Hd.sub s (Le.refl h) (fun r hr => List.mem_cons_of_mem _ (List.mem_append_left [_] hr))))|exact to_)
    intro v2 _
    refine rx_rowform 2 rfl (fun _ h1 _ => (by rw [List.length_reverse] at h1; omega)) ?_
    rintro g2 cap2 rfl
    repeat' (first|refine zw14 ?_|(refine ycf ?_;(first|(refine zg0 ?_ ?_<;>intro ht)|(refine tb_ ?_ ?_ ?_;(·exact zc6);(·exact zc149);intro _)))|fail)
    repeat' (first|refine zw13 ?_|(refine ta_ ?_;intro _)|(refine zk0 ?_ ?_<;>intro ht)|fail)
    refine nx_ret1 rfl (rv_tmp rfl) (fun w' s' => ⟨.slice (some ⟨g2, 0, none⟩) (l.length + (putLow size n).reverse.length) cap2, rfl, ?_, trivial⟩)
    have s2 := s'.tl
    rw [Bool.not_true, Bool.or_false, if_pos rfl]
    unfold rowB
    rw [List.length_append, bcs_app]
    exact s2
theorem OutNum_sp (bo : Nat) (v : Value) (l : List Int) (bad : Bool) (n : Int) (h0 : 0 ≤ n) (hn2 : n < 9223372036854775808) (hl : l.length ≤ 1000000) (h : View) (w : World) (s : St ⟨w, h, doms [outR bo v bad, rowB v l]⟩ h [outR bo v bad, rowB v l] w) :
    Calls Tryz.prog 59 [.pointer (some ⟨bo, 0, none⟩), .int .i64 n].toArray w fun e w' => ∃ x : Value, e = .returned (.pointer (some ⟨bo, 0, none⟩)) ∧
      St ⟨w, h, doms [outR bo v bad, rowB v l]⟩ h [outR bo x bad, rowB x (l ++ (putLow 8 n).reverse)] w' ∧ True := by
  refine calls_enter Tryz.func59 rfl Tryz.ntmps59 rfl s ?_
  have ht0 : decide (0 ≤ n) = true := decide_eq_true h0
  repeat' (first|refine zw13 ?_|(refine ta_ ?_;intro _)|(refine zk0 ?_ ?_<;>intro ht)|fail)
  rw [ht0]
  (refine rx_call_2 (ycp Tryz.func84 rfl (by kernel_rfl) rfl) (put_sp bo v l bad n 8 true (fun _ => h0) hn2 (by omega) (by omega) hl h) rfl rfl rfl ?_ ?_ ?_;(·exact zc6);(·exact zc150);intro x px hle)
  repeat' (first|refine zw13 ?_|(refine ta_ ?_;intro _)|(refine zk0 ?_ ?_<;>intro ht)|fail)
  refine nx_ret1 rfl (rv_tmp rfl) (fun w' s' => ⟨x, rfl, ?_, trivial⟩)
  rw [Bool.not_true, Bool.or_false, if_pos rfl] at s'
  exact s'
theorem BClone_sp (sv : Value) (l : List Int) (h : View) (hs : Bs8 h sv l) (hl : l.length ≤ 140737488355328) (w : World) (s : St ⟨w, h, []⟩ h [] w) :
    Calls Tryz.prog 60 [sv].toArray w fun e w' => ∃ v, e = .returned v ∧ St ⟨w, h, []⟩ h [rowB v l] w' ∧ True := by
  obtain ⟨_, ad, cap, rfl, hcap, _⟩ := id hs
  refine calls_enter Tryz.func60 rfl Tryz.ntmps60 rfl s ?_
  repeat' (first|refine zw15 ?_|(refine ta_ ?_;intro _)|(refine zk0 ?_ ?_<;>intro ht)|fail)
  · cases ad with
    | some ad => cases ht
    | none =>
      have h0 : l = [] := by
        obtain ⟨h1, ad', cap', h2, h3, h4⟩ := hs
        cases h2
        rcases h4 with h4 | ⟨b, o, cs, e, fz, q1, _⟩
        · have := congrArg List.length h4
          rw [bcs_len] at this
          exact List.eq_nil_of_length_eq_zero this
        · cases q1
      subst h0
      refine nx_ret1 rfl (rv_tmp rfl) (fun w' s' => ⟨_, rfl, ?_, trivial⟩)
      exact s'.rowNil _ _
  · refine yba ma_buildSlice0 rfl rfl rfl ybf (fun _ => ybf) ?_
    intro b
    refine rx_rowOf 1 0 0 (by omega) (by unfold maxLen; omega) rfl ?_
    repeat' (first|refine zw15 ?_|(refine ta_ ?_;intro _)|(refine zk0 ?_ ?_<;>intro ht)|fail)
    refine rx_append_sc (sz := 1) 0 rfl rfl rfl hs (bcs_one l) rfl (by omega) (by unfold maxLen; omega) (by omega) rfl rfl rfl ybf (fun _ => ybf) ?_
    intro v' _
    repeat' (first|refine zw15 ?_|(refine ta_ ?_;intro _)|(refine zk0 ?_ ?_<;>intro ht)|fail)
    refine nx_ret1 rfl (rv_tmp rfl) (fun w' s' => ⟨_, rfl, ?_, trivial⟩)
    simpa using s'
theorem Done_sp (bo : Nat) (v : Value) (l : List Int) (hl : l.length ≤ 1000000) (h : View) (w : World) (s : St ⟨w, h, doms [outR bo v false, rowB v l]⟩ h [outR bo v false, rowB v l] w) :
    Calls Tryz.prog 28 [.pointer (some ⟨bo, 0, none⟩)].toArray w fun e w' => ∃ x : Value, e = .returned (.tuple #[x, .int .i64 0]) ∧
      St ⟨w, h, doms [outR bo v false, rowB v l]⟩ h [rowB x l, outR bo v false, rowB v l] w' ∧ True := by
  refine calls_enter Tryz.func28 rfl Tryz.ntmps28 rfl s ?_
  repeat' (first|refine zw12 ?_|(refine ta_ ?_;intro _)|(refine zk0 ?_ ?_<;>intro ht)|fail)
  refine rx_call_lendx (u := fun x : Value => x) (LL := fun x => [rowB x l]) 1 (ycp Tryz.func60 rfl (by kernel_rfl) rfl) rfl (fun h' _ hsc w s => BClone_sp v l h' hsc (by omega) w s) rfl rfl rfl ybf (fun _ => ybf) ?_
  intro x
  repeat' (first|refine zw12 ?_|(refine ta_ ?_;intro _)|(refine zk0 ?_ ?_<;>intro ht)|fail)
  exact nx_ret2 rfl (rv_tmp rfl) (rv_tmp rfl) (fun w' s' => ⟨x, rfl, s', trivial⟩)
end Go.Proofs.YtgeepceieckooaaGreatDoor
end
